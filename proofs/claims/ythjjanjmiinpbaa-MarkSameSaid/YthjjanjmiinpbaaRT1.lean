/- Chapter 02: contracts of find, turned. -/
import Derived.Test.YthjjanjmiinpbaaRT0
import Derived.Deep.AppendLies
namespace Go.Proofs.Ythjjanjmiinpbaa
open Go.ChangeShapes Go.WideShapes Go.ChangeAt Go.RowKit Go.Deep Go.Joins Go.Maps
set_option linter.unusedVariables false
set_option linter.unusedSimpArgs false

def findV (l : List Int) (n : Int) : Int := match findN l n with | some k => (k : Int) | none => -1
set_option maxRecDepth 100000 in
set_option maxHeartbeats 16000000 in
theorem find_any {w : World} {A : Option Addr} {l : List Int} {c : Nat} (hA : Nums w A l) (hll : l.length ≤ 1000000000) (x : Int) : Calls Try.prog 68 #[.slice A l.length c, .int .i64 x] w fun e w' => e = .returned (.int .i64 (findV l x)) ∧ w' = w := by
  have HA := Lib.hid hA
  obtain ⟨n, hn⟩ : ∃ n, l.length = n := ⟨_, rfl⟩
  have HN := Lib.hid hn
  rw [hn] at hll ⊢
  clear hA hn
  go_enter Try.func68, Try.ntmps68
  go_wp2_with fail
  go_loop [5] (fun i => ∃ k : Nat, k ≤ n ∧ i = .int .i64 k ∧ ∀ j (hj : j < k) (hl : j < l.length), l[j] ≠ x) (fun i => n - (intOf i).toNat)
  case atStart => exact ⟨0, Nat.zero_le _, rfl, fun j hj => absurd hj (by omega)⟩
  case round =>
    obtain ⟨k, hk, rfl, hall⟩ := hrel
    have HALL := Lib.hid hall
    clear hall
    by_cases hlt : k < n
    · have d1 : decide (k < n) = true := decide_eq_true hlt
      have hkl : k < l.length := by rw [HN.out]; exact hlt
      obtain ⟨ga, offa, rfl, hgl, hca⟩ := HA.out k hkl
      obtain ⟨y, hy⟩ : ∃ y, l[k] = y := ⟨_, rfl⟩
      have HY := Lib.hid hy
      rw [hy] at hca
      have g0 : (0 : Int) ≤ (k : Int) := by omega
      have g1 : (k : Int) < (n : Int) := by omega
      clear hy
      by_cases e : y = x
      · have e1 : (y == x) = true := by simpa using e
        have HV : Hid (findV l x = (k : Int)) := by
          show _ = _
          unfold findV
          rw [findN_first hkl (by rw [HY.out]; exact e) (fun j hj => HALL.out j hj (by omega))]
        clear e
        go_wp2_with fail
        go_ret
        exact ⟨ret_int HV.out.symm, rfl⟩
      · have e1 : (y == x) = false := by simpa using e
        have HE := Lib.hid e
        clear e
        go_wp2_with fail
        go_round
        case rel => exact ⟨k + 1, by omega, by go_num, fun j hj hl => (by
            rcases Nat.lt_or_ge j k with h | h
            · exact HALL.out j h hl
            · obtain rfl : j = k := by omega
              rw [HY.out]; exact HE.out)⟩
        case measure => simp [intOf]; omega
    · have hkn : k = n := by omega
      have d1 : decide (k < n) = false := decide_eq_false hlt
      clear hlt
      subst hkn
      have HV : Hid (findV l x = -1) := by
        show _ = _
        unfold findV
        rw [findN_none.2 (fun hm => by
          obtain ⟨j, hj, e⟩ := List.mem_iff_getElem.1 hm
          exact HALL.out j (by rw [← HN.out]; exact hj) hj e)]
      go_wp2_with fail
      go_ret
      exact ⟨ret_int HV.out.symm, rfl⟩
theorem findV_some {l : List Int} {x : Int} (h : x ∈ l) : ∃ k, k < l.length ∧ findN l x = some k ∧ findV l x = (k : Int) := by
  cases hf : findN l x with
  | none => exact absurd h (findN_none.1 hf)
  | some k => exact ⟨k, (findN_some hf).1, rfl, by unfold findV; rw [hf]⟩
theorem findV_none {l : List Int} {x : Int} (h : x ∉ l) : findV l x = -1 := by unfold findV; rw [findN_none.2 h]
theorem sbV_some {fr tl : List Int} {x : Int} {k : Nat} (h : findN fr x = some k) : sbV fr tl x = tl.getD k 0 := by unfold sbV; rw [h]
def fldV (g : Int → Int) (o : Ob) (x : Int) : Int := if o.fmt = 0 then g x else x
theorem turnO_F (g : Int → Int) (o : Ob) : (turnO g o).F = o.F.map (fldV g o) := by
  unfold turnO fldV
  by_cases h : o.fmt = 0
  · simp [h]
  · simp [h]

set_option maxRecDepth 100000 in
set_option maxHeartbeats 16000000 in
theorem turned_any {w : World} {A B FA : Option Addr} {fr tl : List Int} {ca cb fc : Nat} {o : Ob} (hA : Nums w A fr) (hB : Nums w B tl) (hF : Nums w FA o.F) (hll : fr.length ≤ 1000000000) (hlt_ : fr.length ≤ tl.length) (hfl : o.F.length ≤ 256) :
    Calls Try.prog 70 #[.agg #[.int .i64 o.cls, .int .i64 o.fmt, .int .i64 o.hash, .slice FA o.F.length fc], .slice A fr.length ca, .slice B tl.length cb] w fun e w' => ∃ v, e = .returned (.agg #[.int .i64 (sbV fr tl o.cls), .int .i64 o.fmt, .int .i64 o.hash, v]) ∧ Ints w' w.heap.size v (turnO (sbV fr tl) o).F ∧ Below w.heap.size w w' := by
  obtain ⟨i0, hi, hz0, hz1, hz2⟩ := info_parts infoI
  have HA := Lib.hid hA
  have HB := Lib.hid hB
  have HF := Lib.hid hF
  obtain ⟨nf, hnf⟩ : ∃ nf, o.F.length = nf := ⟨_, rfl⟩
  obtain ⟨na, hna⟩ : ∃ na, fr.length = na := ⟨_, rfl⟩
  obtain ⟨nb, hnb⟩ : ∃ nb, tl.length = nb := ⟨_, rfl⟩
  have HNF := Lib.hid hnf
  have HNA := Lib.hid hna
  have HNB := Lib.hid hnb
  have hfind : ∀ (w' : World), Below w.heap.size w w' → ∀ x, Calls Try.prog 68 #[.slice A na ca, .int .i64 x] w' fun e w'' => e = .returned (.int .i64 (findV fr x)) ∧ w'' = w' := fun w' hb x => by have := find_any (c := ca) (hA.below hb) (by omega) x; rw [hna] at this; exact this
  have HFIND := Lib.hid hfind
  rw [hnf] at hfl
  rw [hna, hnb] at hlt_
  rw [hnf, hna, hnb]
  clear hA hB hF hnf hna hnb hfind
  obtain ⟨cl, hcl⟩ : ∃ cl, sbV fr tl o.cls = cl := ⟨_, rfl⟩
  have HCL := Lib.hid hcl
  rw [hcl]
  obtain ⟨w1, hw1⟩ : ∃ w1, (w.alloc (.cells #[.int .i64 o.cls, .int .i64 o.fmt, .int .i64 o.hash, .slice FA nf fc] 71)).alloc (.cells #[.int .i64 0, .int .i64 0, .int .i64 0, .slice none 0 0] 71) = w1 := ⟨_, rfl⟩
  have hb1 : Below w.heap.size w w1 := by rw [← hw1]; exact ((Below.refl _ _).alloc (Nat.le_refl _) _).alloc (by simp) _
  have hx1 : w1.heap[w.heap.size]? = some (.cells #[.int .i64 o.cls, .int .i64 o.fmt, .int .i64 o.hash, .slice FA nf fc] 71 (0, 0)) := by rw [← hw1, Below.heap_alloc _ _ _ (by simp)]; exact heap_alloc_new _ _
  have hr1 : w1.heap[w.heap.size + 1]? = some (.cells #[.int .i64 0, .int .i64 0, .int .i64 0, .slice none 0 0] 71 (0, 0)) := by
    rw [← hw1]
    have := heap_alloc_new (w.alloc (.cells #[.int .i64 o.cls, .int .i64 o.fmt, .int .i64 o.hash, .slice FA nf fc] 71)) (.cells #[.int .i64 0, .int .i64 0, .int .i64 0, .slice none 0 0] 71)
    simpa using this
  have hs1 : w1.heap.size = w.heap.size + 1 + 1 := by rw [← hw1]; simp
  have HW1 := Lib.hid hw1
  have HB1 := Lib.hid hb1
  have HX1 := Lib.hid hx1
  have HR1 := Lib.hid hr1
  have HS1 := Lib.hid hs1
  have hx1c0 : w1.cell? ⟨w.heap.size, 0, none⟩ = some (.int .i64 o.cls) := by simp [World.cell?, hx1]
  have hx1f : w1.frozen? ⟨w.heap.size, 0, none⟩ = false := by simp [World.frozen?, hx1]
  obtain ⟨z, hz⟩ : ∃ z, findV fr o.cls = z := ⟨_, rfl⟩
  have HZ := Lib.hid hz
  have HFC : Hid (Calls Try.prog 68 #[.slice A na ca, .int .i64 o.cls] w1 fun e w'' => e = .returned (.int .i64 z) ∧ w'' = w1) := by have := HFIND.out w1 hb1 o.cls; rw [hz] at this; exact this
  clear hz
  clear hcl hb1 hx1 hr1 hs1 hw1
  go_enter Try.func70, Try.ntmps70
  go_upto_region 1 with fail
  rw [HW1.out]
  go_upto_if 16 with (go_at_call 68; (with_reducible refine HFC.out.mono ?_); rintro e w8 ⟨rfl, hw8⟩; replace hw8 := hw8.symm; subst hw8)
  go_cut [] (fun wx => wx.heap[w.heap.size]? = some (.cells #[.int .i64 cl, .int .i64 o.fmt, .int .i64 o.hash, .slice FA nf fc] 71 (0, 0)) ∧ wx.heap[w.heap.size + 1]? = some (.cells #[.int .i64 0, .int .i64 0, .int .i64 0, .slice none 0 0] 71 (0, 0)) ∧ Below w.heap.size w wx ∧ wx.heap.size = w.heap.size + 1 + 1)
  case first =>
    by_cases hin : o.cls ∈ fr
    · obtain ⟨k, hk, hf, hfv⟩ := findV_some hin
      have hkb : k < tl.length := by rw [HNB.out]; have := HNA.out; omega
      obtain ⟨gb, offb, rfl, hgl, hcb⟩ := (HB.out.below HB1.out) k hkb
      have hcv : tl[k] = cl := by rw [← HCL.out, sbV_some hf, List.getD_eq_getElem?_getD, List.getElem?_eq_getElem hkb]; rfl
      rw [hcv] at hcb
      obtain rfl : z = (k : Int) := by rw [← HZ.out]; exact hfv
      have z1 : decide (0 ≤ (k : Int)) = true := decide_eq_true (by omega)
      have g0 : (0 : Int) ≤ (k : Int) := by omega
      have g1 : (k : Int) < (nb : Int) := by have := HNB.out; omega
      clear hin hf hfv hcv
      go_wp2_with fail
      go_meet
      refine ⟨?_, ?_, HB1.out.setCell (Nat.le_refl _) _, by simpa using HS1.out⟩
      · rw [heap_setCell_same w1 w.heap.size 0 _ _ _ HX1.out]; rfl
      · rw [Below.heap_setCell _ _ _ _ (by show w.heap.size + 1 ≠ w.heap.size; omega)]; exact HR1.out
    · obtain rfl : z = -1 := by rw [← HZ.out]; exact findV_none hin
      have hcv : o.cls = cl := by rw [← HCL.out, sbV_none hin]
      have HCV := Lib.hid hcv
      clear hin hcv
      go_wp2_with fail
      go_meet
      exact ⟨by rw [← HCV.out]; exact HX1.out, HR1.out, HB1.out, HS1.out⟩
  case' rest =>
    obtain ⟨hxb, hrb, hbw, hsw⟩ := hcut
    have HXB0 := Lib.hid hxb
    have HRB0 := Lib.hid hrb
    have HBW0 := Lib.hid hbw
    have HSW0 := Lib.hid hsw
    clear hxb hrb hbw hsw hx1c0 hx1f
    go_wp2_with fail
    go_loopw [8, 9] (fun f i wr => ∃ q : Nat, q ≤ nf ∧ i = .int .i64 q ∧ wr.ownsRow (w.heap.size + 1 + 1) 3 1 f q (((o.F.take q).map (fldV (sbV fr tl) o)).map (Value.int .i64)) ∧ wr.heap[w.heap.size]? = some (.cells #[.int .i64 cl, .int .i64 o.fmt, .int .i64 o.hash, .slice FA nf fc] 71 (0, 0)) ∧ wr.heap[w.heap.size + 1]? = some (.cells #[.int .i64 0, .int .i64 0, .int .i64 0, .slice none 0 0] 71 (0, 0)) ∧ Below w.heap.size w wr) (fun _ i _ => nf - (intOf i).toNat)
    case atStart => exact ⟨0, Nat.zero_le _, rfl, World.ownsRow_nil _ _ _ _, HXB0.out, HRB0.out, HBW0.out⟩
    case round =>
      obtain ⟨q, hq, rfl, hown, hxb, hrb, hbw⟩ := hrel
      have HOWN := Lib.hid hown
      have HXB := Lib.hid hxb
      have HRB := Lib.hid hrb
      have HBW := Lib.hid hbw
      have hws2 : w.heap.size + 1 + 1 ≤ wr.heap.size := lt_of_block hrb
      have hx3 : wr.cell? ⟨w.heap.size, 3, none⟩ = some (.slice FA nf fc) := by simp [World.cell?, hxb]
      have hx1 : wr.cell? ⟨w.heap.size, 1, none⟩ = some (.int .i64 o.fmt) := by simp [World.cell?, hxb]
      have hx0 : wr.cell? ⟨w.heap.size, 0, none⟩ = some (.int .i64 cl) := by simp [World.cell?, hxb]
      have hx2 : wr.cell? ⟨w.heap.size, 2, none⟩ = some (.int .i64 o.hash) := by simp [World.cell?, hxb]
      by_cases hlt : q < nf
      · have z1 : decide (q < nf) = true := decide_eq_true hlt
        have hql : q < o.F.length := by rw [HNF.out]; exact hlt
        obtain ⟨gf, offf, rfl, hgl, hcf⟩ := (HF.out.below hbw) q hql
        obtain ⟨x, hx⟩ : ∃ x, o.F[q] = x := ⟨_, rfl⟩
        have HX := Lib.hid hx
        rw [hx] at hcf
        have hfd := HFIND.out wr hbw x
        have HFD := Lib.hid hfd
        have g0 : (0 : Int) ≤ (q : Int) := by omega
        have g1 : (q : Int) < (nf : Int) := by omega
        clear hown hxb hrb hx hfd
        by_cases hf0 : o.fmt = 0
        · have e0 : (o.fmt == 0) = true := by simpa using hf0
          by_cases hin : x ∈ fr
          · obtain ⟨k, hk, hf, hfv⟩ := findV_some hin
            have hkb : k < tl.length := by rw [HNB.out]; have := HNA.out; omega
            obtain ⟨gb, offb, rfl, hgl2, hcb⟩ := (HB.out.below hbw) k hkb
            obtain ⟨y, hy⟩ : ∃ y, tl[k] = y := ⟨_, rfl⟩
            rw [hy] at hcb
            have HFL : Hid (fldV (sbV fr tl) o x = y) := by show _ = _; unfold fldV; rw [if_pos hf0, sbV_some hf, List.getD_eq_getElem?_getD, List.getElem?_eq_getElem hkb, hy]; rfl
            have HFD2 : Hid (Calls Try.prog 68 #[.slice A na ca, .int .i64 x] wr fun e w'' => e = .returned (.int .i64 (k : Int)) ∧ w'' = wr) := by have := HFD.out; rw [hfv] at this; exact this
            have z2 : decide (0 ≤ (k : Int)) = true := decide_eq_true (by omega)
            have g2 : (0 : Int) ≤ (k : Int) := by omega
            have g3 : (k : Int) < (nb : Int) := by have := HNB.out; omega
            clear hin hf hfv hy hbw hf0
            go_wp2_with (first | (go_at_call 68; (with_reducible refine (HFD2.out).mono ?_); rintro e w8 ⟨rfl, hw8⟩; replace hw8 := hw8.symm; subst hw8) | (at_builtin; refine wpList_append_own _ rfl _ _ 23 rfl (w.heap.size + 1 + 1) 3 i0 (.int .i64 0) 1 8 Try.underlying23 hi hz0 hz1 hz2 rfl (by decide) _ _ _ rfl (HOWN.out.alloc _) ⟨wr.heap.size, 0, none⟩ 1 1 [.int .i64 y] rfl rfl (cells_newN _ _ _ _ (by simp)) (by simp [Value.oneCell']) (by unfold maxLen; omega) (by omega) (by simp only [World.size_alloc]; omega) ?_; intro v2 w2 hown3 hg2 _))
            go_roundw
            case rel =>
              have hb2 := below_of_append (HOWN.out.alloc (.cells #[.int .i64 y] 3)) hg2 (by simp only [World.size_alloc]; omega)
              have hbb := ((Below.refl (w.heap.size + 1 + 1) wr).alloc hws2 (.cells #[.int .i64 y] 3)).trans hb2
              refine ⟨q + 1, hlt, by go_num, ?_, (hbb.block _ (by omega)).trans HXB.out, (hbb.block _ (by omega)).trans HRB.out, HBW.out.trans (hbb.mono (by omega))⟩
              rw [List.take_succ_eq_append_getElem hql, List.map_append, List.map_append]
              simp only [List.map_cons, List.map_nil]
              rw [HX.out, HFL.out]
              exact hown3
            case measure => simp [intOf]; omega
          · have hfv := findV_none hin
            have HFL : Hid (fldV (sbV fr tl) o x = x) := by show _ = _; unfold fldV; rw [if_pos hf0, sbV_none hin]
            have HFD2 : Hid (Calls Try.prog 68 #[.slice A na ca, .int .i64 x] wr fun e w'' => e = .returned (.int .i64 (-1)) ∧ w'' = wr) := by have := HFD.out; rw [hfv] at this; exact this
            clear hin hfv hbw hf0
            go_wp2_with (first | (go_at_call 68; (with_reducible refine (HFD2.out).mono ?_); rintro e w8 ⟨rfl, hw8⟩; replace hw8 := hw8.symm; subst hw8) | (at_builtin; refine wpList_append_own _ rfl _ _ 23 rfl (w.heap.size + 1 + 1) 3 i0 (.int .i64 0) 1 8 Try.underlying23 hi hz0 hz1 hz2 rfl (by decide) _ _ _ rfl (HOWN.out.alloc _) ⟨wr.heap.size, 0, none⟩ 1 1 [.int .i64 x] rfl rfl (cells_newN _ _ _ _ (by simp)) (by simp [Value.oneCell']) (by unfold maxLen; omega) (by omega) (by simp only [World.size_alloc]; omega) ?_; intro v2 w2 hown3 hg2 _))
            go_roundw
            case rel =>
              have hb2 := below_of_append (HOWN.out.alloc (.cells #[.int .i64 x] 3)) hg2 (by simp only [World.size_alloc]; omega)
              have hbb := ((Below.refl (w.heap.size + 1 + 1) wr).alloc hws2 (.cells #[.int .i64 x] 3)).trans hb2
              refine ⟨q + 1, hlt, by go_num, ?_, (hbb.block _ (by omega)).trans HXB.out, (hbb.block _ (by omega)).trans HRB.out, HBW.out.trans (hbb.mono (by omega))⟩
              rw [List.take_succ_eq_append_getElem hql, List.map_append, List.map_append]
              simp only [List.map_cons, List.map_nil]
              rw [HX.out, HFL.out]
              exact hown3
            case measure => simp [intOf]; omega
        · have e0 : (o.fmt == 0) = false := by simpa using hf0
          have HFL : Hid (fldV (sbV fr tl) o x = x) := by show _ = _; unfold fldV; rw [if_neg hf0]
          clear hbw hf0
          go_wp2_with (first | (go_at_call 68; (with_reducible refine (HFD.out).mono ?_); rintro e w8 ⟨rfl, hw8⟩; replace hw8 := hw8.symm; subst hw8) | (at_builtin; refine wpList_append_own _ rfl _ _ 23 rfl (w.heap.size + 1 + 1) 3 i0 (.int .i64 0) 1 8 Try.underlying23 hi hz0 hz1 hz2 rfl (by decide) _ _ _ rfl (HOWN.out.alloc _) ⟨wr.heap.size, 0, none⟩ 1 1 [.int .i64 x] rfl rfl (cells_newN _ _ _ _ (by simp)) (by simp [Value.oneCell']) (by unfold maxLen; omega) (by omega) (by simp only [World.size_alloc]; omega) ?_; intro v2 w2 hown3 hg2 _))
          go_roundw
          case rel =>
            have hb2 := below_of_append (HOWN.out.alloc (.cells #[.int .i64 x] 3)) hg2 (by simp only [World.size_alloc]; omega)
            have hbb := ((Below.refl (w.heap.size + 1 + 1) wr).alloc hws2 (.cells #[.int .i64 x] 3)).trans hb2
            refine ⟨q + 1, hlt, by go_num, ?_, (hbb.block _ (by omega)).trans HXB.out, (hbb.block _ (by omega)).trans HRB.out, HBW.out.trans (hbb.mono (by omega))⟩
            rw [List.take_succ_eq_append_getElem hql, List.map_append, List.map_append]
            simp only [List.map_cons, List.map_nil]
            rw [HX.out, HFL.out]
            exact hown3
          case measure => simp [intOf]; omega
      · have hkn : q = nf := by omega
        have z1 : decide (q < nf) = false := decide_eq_false hlt
        clear hlt
        subst hkn
        obtain ⟨VA, vc, rfl⟩ := own_slice hown
        have hf3 : wr.frozen? ⟨w.heap.size, 3, none⟩ = false := by simp [World.frozen?, hxb]
        have hy0 : wr.cell? ⟨w.heap.size + 1, 0, none⟩ = some (.int .i64 0) := by simp [World.cell?, hrb]
        have hy1 : wr.cell? ⟨w.heap.size + 1, 1, none⟩ = some (.int .i64 0) := by simp [World.cell?, hrb]
        have hy2 : wr.cell? ⟨w.heap.size + 1, 2, none⟩ = some (.int .i64 0) := by simp [World.cell?, hrb]
        have hy3 : wr.cell? ⟨w.heap.size + 1, 3, none⟩ = some (.slice none 0 0) := by simp [World.cell?, hrb]
        have hk0 : wr.frozen? ⟨w.heap.size + 1, 0, none⟩ = false := by simp [World.frozen?, hrb]
        have hk1 : wr.frozen? ⟨w.heap.size + 1, 1, none⟩ = false := by simp [World.frozen?, hrb]
        have hk2 : wr.frozen? ⟨w.heap.size + 1, 2, none⟩ = false := by simp [World.frozen?, hrb]
        have hk3 : wr.frozen? ⟨w.heap.size + 1, 3, none⟩ = false := by simp [World.frozen?, hrb]
        clear hown hxb hrb hbw
        have kk0 : ((wr.setCell ⟨w.heap.size, 3, none⟩ (.slice VA q vc)).setCell ⟨w.heap.size + 1, 0, none⟩ (.int .i64 cl)).cell? ⟨w.heap.size + 1, 0, none⟩ = some (.int .i64 cl) := World.cell?_setCell_same _ _ _ (show (wr.setCell ⟨w.heap.size, 3, none⟩ (.slice VA q vc)).cell? ⟨w.heap.size + 1, 0, none⟩ = some (.int .i64 0) by rw [World.cell?_setCell_other _ _ _ _ (by simp)]; exact hy0)
        have kk1 : (((wr.setCell ⟨w.heap.size, 3, none⟩ (.slice VA q vc)).setCell ⟨w.heap.size + 1, 0, none⟩ (.int .i64 cl)).setCell ⟨w.heap.size + 1, 1, none⟩ (.int .i64 o.fmt)).cell? ⟨w.heap.size + 1, 1, none⟩ = some (.int .i64 o.fmt) := World.cell?_setCell_same _ _ _ (show ((wr.setCell ⟨w.heap.size, 3, none⟩ (.slice VA q vc)).setCell ⟨w.heap.size + 1, 0, none⟩ (.int .i64 cl)).cell? ⟨w.heap.size + 1, 1, none⟩ = some (.int .i64 0) by rw [World.cell?_setCell_other _ _ _ _ (by simp), World.cell?_setCell_other _ _ _ _ (by simp)]; exact hy1)
        have kk2 : ((((wr.setCell ⟨w.heap.size, 3, none⟩ (.slice VA q vc)).setCell ⟨w.heap.size + 1, 0, none⟩ (.int .i64 cl)).setCell ⟨w.heap.size + 1, 1, none⟩ (.int .i64 o.fmt)).setCell ⟨w.heap.size + 1, 2, none⟩ (.int .i64 o.hash)).cell? ⟨w.heap.size + 1, 2, none⟩ = some (.int .i64 o.hash) := World.cell?_setCell_same _ _ _ (show (((wr.setCell ⟨w.heap.size, 3, none⟩ (.slice VA q vc)).setCell ⟨w.heap.size + 1, 0, none⟩ (.int .i64 cl)).setCell ⟨w.heap.size + 1, 1, none⟩ (.int .i64 o.fmt)).cell? ⟨w.heap.size + 1, 2, none⟩ = some (.int .i64 0) by rw [World.cell?_setCell_other _ _ _ _ (by simp), World.cell?_setCell_other _ _ _ _ (by simp), World.cell?_setCell_other _ _ _ _ (by simp)]; exact hy2)
        have kk3 : (((((wr.setCell ⟨w.heap.size, 3, none⟩ (.slice VA q vc)).setCell ⟨w.heap.size + 1, 0, none⟩ (.int .i64 cl)).setCell ⟨w.heap.size + 1, 1, none⟩ (.int .i64 o.fmt)).setCell ⟨w.heap.size + 1, 2, none⟩ (.int .i64 o.hash)).setCell ⟨w.heap.size + 1, 3, none⟩ (.slice VA q vc)).cell? ⟨w.heap.size + 1, 3, none⟩ = some (.slice VA q vc) := World.cell?_setCell_same _ _ _ (show ((((wr.setCell ⟨w.heap.size, 3, none⟩ (.slice VA q vc)).setCell ⟨w.heap.size + 1, 0, none⟩ (.int .i64 cl)).setCell ⟨w.heap.size + 1, 1, none⟩ (.int .i64 o.fmt)).setCell ⟨w.heap.size + 1, 2, none⟩ (.int .i64 o.hash)).cell? ⟨w.heap.size + 1, 3, none⟩ = some (.slice none 0 0) by rw [World.cell?_setCell_other _ _ _ _ (by simp), World.cell?_setCell_other _ _ _ _ (by simp), World.cell?_setCell_other _ _ _ _ (by simp), World.cell?_setCell_other _ _ _ _ (by simp)]; exact hy3)
        go_wp2_with fail
        (try simp only [Exit.inBlock, Exit.then])
        refine bodyPost_ret (v := .agg #[.int .i64 cl, .int .i64 o.fmt, .int .i64 o.hash, .slice VA q vc]) (by simp [results, Try.results70, go_sem, kk0, kk1, kk2, kk3]) rfl ?_
        have hlx : w.heap.size + 1 + 1 ≤ wr.heap.size := hws2
        refine ⟨.slice VA q vc, rfl, ?_, ?_⟩
        · rw [turnO_F]
          have h1 := HOWN.out
          rw [show o.F.take q = o.F by rw [← HNF.out, List.take_length]] at h1
          unfold Ints
          rw [List.length_map, HNF.out]
          have hb : ∀ (k : Nat), (Value.slice VA q vc).ownBlock = some k → w.heap.size + 1 + 1 ≤ k := fun k hk => (HOWN.out.lt k hk).1
          refine ownsRow_mono (base' := w.heap.size) ?_ (show w.heap.size ≤ w.heap.size + 1 + 1 by omega)
          exact (ownsRow_setCell_below (ownsRow_setCell_below (ownsRow_setCell_below (ownsRow_setCell_below (ownsRow_setCell_below h1 (a := ⟨w.heap.size, 3, none⟩) (by show w.heap.size < w.heap.size + 1 + 1; omega) _) (a := ⟨w.heap.size + 1, 0, none⟩) (by show w.heap.size + 1 < w.heap.size + 1 + 1; omega) _) (a := ⟨w.heap.size + 1, 1, none⟩) (by show w.heap.size + 1 < w.heap.size + 1 + 1; omega) _) (a := ⟨w.heap.size + 1, 2, none⟩) (by show w.heap.size + 1 < w.heap.size + 1 + 1; omega) _) (a := ⟨w.heap.size + 1, 3, none⟩) (by show w.heap.size + 1 < w.heap.size + 1 + 1; omega) _)
        · exact ((((HBW.out.setCell (Nat.le_refl _) _).setCell (by show w.heap.size ≤ w.heap.size + 1; omega) _).setCell (by show w.heap.size ≤ w.heap.size + 1; omega) _).setCell (by show w.heap.size ≤ w.heap.size + 1; omega) _).setCell (by show w.heap.size ≤ w.heap.size + 1; omega) _
end Go.Proofs.Ythjjanjmiinpbaa
