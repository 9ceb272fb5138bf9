/- Chapter 02: the contract of Turn. -/
import Derived.Test.YthonodimjglnfaaHT1
import Derived.Carry
namespace Go.Proofs.Ythonodimjglnfaa
open Go.ChangeShapes Go.WideShapes Go.ChangeAt Go.RowKit Go.Deep Go.Joins Go.Maps
set_option linter.unusedVariables false
set_option linter.unusedSimpArgs false

def ftV (fr tl : List Int) (a : Int) : Int := match findN fr a with | some j => tl.getD j 0 | none => 0
theorem ftV_zero {fr tl : List Int} {a : Int} (h : a ∉ fr) : ftV fr tl a = 0 := by unfold ftV; rw [findN_none.2 h]
theorem findN_take : ∀ {l : List Int} {k : Nat} {a : Int} (hk : k < l.length), findN (l.take (k + 1)) a = match findN (l.take k) a with | some j => some j | none => if l[k] = a then some k else none
  | [], k, a, hk => absurd hk (by simp)
  | x :: l, 0, a, hk => by simp [findN]
  | x :: l, k + 1, a, hk => by
    have ih := findN_take (l := l) (k := k) (a := a) (by simpa using hk)
    simp only [List.take_succ_cons, findN, List.getElem_cons_succ]
    by_cases h : x = a
    · simp only [if_pos h]
    · simp only [if_neg h, ih]
      cases findN (l.take k) a with
      | some j => rfl
      | none => dsimp only; split <;> rfl
theorem ftV_take {fr tl : List Int} {k : Nat} (hk : k < fr.length) (hn : fr[k] ∉ fr.take k) (a : Int) : ftV (fr.take (k + 1)) tl a = if a = fr[k] then tl.getD k 0 else ftV (fr.take k) tl a := by
  unfold ftV
  rw [findN_take hk]
  by_cases h : a = fr[k]
  · rw [if_pos h, h, findN_none.2 hn]
    dsimp only
    rw [if_pos rfl]
  · rw [if_neg h]
    cases findN (fr.take k) a with
    | some j => rfl
    | none => dsimp only; rw [if_neg (fun e => h e.symm)]
theorem ftV_mem {fr tl : List Int} {a : Int} {L : List Ob} (h : a ∈ fr) (hl : fr.length ≤ tl.length) (ht : tl.all (isV L) = true) : isV L (ftV fr tl a) = true ∧ ftV fr tl a = sbV fr tl a := by
  unfold ftV sbV
  cases hf : findN fr a with
  | none => exact absurd h (findN_none.1 hf)
  | some j =>
    obtain ⟨h1, _, _⟩ := findN_some hf
    have hj : j < tl.length := by omega
    dsimp only
    rw [List.getD_eq_getElem?_getD, List.getElem?_eq_getElem hj]
    exact ⟨List.all_eq_true.1 ht _ (List.getElem_mem hj), rfl⟩
theorem isV_ne {L : List Ob} {a : Int} (h : isV L a = true) : ¬ a = 0 := by
  obtain ⟨i, _, rfl⟩ := isV_iff.1 h
  have := adr_ge L i
  unfold ptr; omega
theorem isV_InI {m : Hp} (h : Good m) {a : Int} (hv : isV m.L a = true) : InI a := by
  have := pointer_bounds (isV_pointer h hv)
  unfold InI; omega
theorem gT_sbV {m : Hp} (hg : Good m) {fr tl : List Int} (hl : fr.length = tl.length) (hf : fr.all (isV m.L) = true) (ht : tl.all (isV m.L) = true) : gT (ftV fr tl) = sbV fr tl := by
  funext x
  by_cases hx : x ∈ fr
  · obtain ⟨h1, h2⟩ := ftV_mem hx (Nat.le_of_eq hl) ht
    rw [gT_yes (isV_ne h1) (isV_pointer hg (List.all_eq_true.1 hf x hx)), h2]
  · rw [gT_zero (ftV_zero hx), sbV_none hx]
theorem sbV_InI {m : Hp} (hg : Good m) {fr tl : List Int} (hl : fr.length = tl.length) (ht : tl.all (isV m.L) = true) {x : Int} (h : InI x) : InI (sbV fr tl x) := by
  by_cases hx : x ∈ fr
  · obtain ⟨h1, h2⟩ := ftV_mem hx (Nat.le_of_eq hl) ht
    rw [← h2]; exact isV_InI hg h1
  · rw [sbV_none hx]; exact h
theorem distinct_take_no {l : List Int} {k : Nat} (hk : k < l.length) (h : l[k] ∈ l.take k) : distinct l = false := by
  cases hd : distinct l with
  | false => rfl
  | true =>
    have hn := distinct_iff.1 hd
    obtain ⟨j, hj, e⟩ := List.mem_iff_getElem.1 h
    rw [List.getElem_take] at e
    have hjk : j < k := by simp at hj; omega
    exact absurd e (List.pairwise_iff_getElem.1 hn j k (by omega) hk hjk)
theorem distinct_take_succ {l : List Int} {k : Nat} (hk : k < l.length) (h : l[k] ∉ l.take k) (hd : distinct (l.take k) = true) : distinct (l.take (k + 1)) = true := by
  rw [distinct_iff] at hd ⊢
  rw [List.take_succ_eq_append_getElem hk, List.nodup_append]
  refine ⟨hd, by simp, fun a ha b hb e => ?_⟩
  rw [List.mem_singleton.1 hb] at e
  exact h (e ▸ ha)
theorem IntMap.congr {w : World} {b n : Nat} {f g : Int → Int} (h : IntMap w b n f) (e : ∀ a, f a = g a) : IntMap w b n g := by rw [show g = f from (funext e).symm]; exact h
theorem BoolMap.congr {w : World} {b n : Nat} {f g : Int → Bool} (h : BoolMap w b n f) (e : ∀ a, f a = g a) : BoolMap w b n g := by rw [show g = f from (funext e).symm]; exact h

theorem gap_head {w w' : World} {s bw bm : Nat} {m : Hp} (h : PM w s bw bm m) {T : Nat → Prop} {g : Int → Int} (hs : ¬ T s) {k : Nat} (hk : k < m.L.length) (hp : GapP bw T m.L g m.size w k w') : w'.cell? ⟨s, 0, none⟩ = some (.slice (some ⟨bw, 0, none⟩) m.size m.size) ∧ ∃ x : Int, w'.cell? ⟨bw, adr m.L k, none⟩ = some (.int .i64 x) ∧ x / 4 = (nfA m.L k : Int) := by
  obtain ⟨ys, p1, p2, p3⟩ := hp
  refine ⟨p3.cell h.c0 hs, (encO m.L[k]).getD 0 0, ?_, ?_⟩
  · have hm := (gap_mid hk).1 p2
    have h1 := mid_at hm (j := 0) (by omega)
    obtain ⟨_, _, _, _, hl⟩ := p2
    rw [ints_cell p1 (k := adr m.L k) (by omega), show adr m.L k = adr m.L k + 0 from rfl, h1.1]
  · have := h.good.fmt _ (List.getElem_mem hk)
    rw [nfA_at hk]
    show (4 * (m.L[k].F.length : Int) + m.L[k].fmt) / 4 = _
    omega
/-- the loop that lays what turns into what -/
def TurnL (w : World) (s bm0 : Nat) (pt bt : Obj) (fr tl : List Int) (k : Nat) (wr : World) : Prop := Below w.heap.size w wr ∧ wr.heap[w.heap.size]? = some pt ∧ wr.heap[w.heap.size + 1 + 1]? = some bt ∧ IntMap wr (w.heap.size + 1) k (ftV (fr.take k) tl)

set_option maxRecDepth 100000 in
set_option maxHeartbeats 16000000 in
theorem turn_any {w : World} {s bw bm : Nat} {m : Hp} (h : PM w s bw bm m) {A B : Option Addr} {fr tl : List Int} {c d : Nat} (hA : Nums w A fr) (hB : Nums w B tl) (hfI : ∀ x, x ∈ fr → InI x) (hla : fr.length ≤ c) (hca : c ≤ maxLen) (hlb : tl.length ≤ d) (hcb : d ≤ maxLen) :
    Calls Try.prog 68 #[.pointer (some ⟨s, 0, none⟩), .slice A fr.length c, .slice B tl.length d] w (fun e w' => e = .returned (.int .i64 (turnV m fr tl).2) ∧ PM w' s bw bm (turnV m fr tl).1 ∧ Turns (pset s bw bm) w w') := by
  unfold maxLen at hca hcb
  obtain ⟨w1, hw1⟩ : ∃ w1, w.alloc (.cells #[.pointer (some ⟨s, 0, none⟩)] 23) = w1 := ⟨_, rfl⟩
  have hb1 : Below w.heap.size w w1 := by rw [← hw1]; exact (Below.refl _ _).alloc (Nat.le_refl _) _
  have hbx : w1.heap[w.heap.size]? = some (.cells #[.pointer (some ⟨s, 0, none⟩)] 23 (0, 0)) := by rw [← hw1]; exact heap_alloc_new w _
  have hs1 : w1.heap.size = w.heap.size + 1 := by rw [← hw1]; simp
  have hm1 : w1.cell? ⟨w.heap.size, 0, none⟩ = some (.pointer (some ⟨s, 0, none⟩)) := by simp [World.cell?, hbx]
  have hca1 := contains_any (c := c) (h.below hb1) w.heap.size hm1 (hA.below hb1) (by omega)
  have hcb1 := contains_any (c := d) (h.below hb1) w.heap.size hm1 (hB.below hb1) (by omega)
  have H := Lib.hid h
  have HB1 := Lib.hid hb1
  have HBX := Lib.hid hbx
  have HS1 := Lib.hid hs1
  have HA := Lib.hid hA
  have HBN := Lib.hid hB
  have HFI := Lib.hid hfI
  have HW1 := Lib.hid hw1
  obtain ⟨n, hn⟩ : ∃ n, fr.length = n := ⟨_, rfl⟩
  obtain ⟨n2, hn2⟩ : ∃ n2, tl.length = n2 := ⟨_, rfl⟩
  have HN := Lib.hid hn
  have HN2 := Lib.hid hn2
  rw [hn] at hca1 hla ⊢
  rw [hn2] at hcb1 hlb ⊢
  rw [← hw1] at hca1
  clear h hb1 hbx hs1 hA hB hfI hw1 hm1 hn hn2
  by_cases hlen : n = n2
  · subst hlen
    cases hav : fr.all (isV m.L)
    · have HV : Hid (turnV m fr tl = (m, 1)) := by show _ = _; unfold turnV turnOk; rw [hav]; simp
      rw [HV.out]
      rw [hav] at hca1
      have HCA := Lib.hid hca1
      have e0 : ((n : Int) != (n : Int)) = false := by simp
      clear hca1 hcb1 hav
      go_enter Try.func68, Try.ntmps68
      go_wp2_with (go_at_call 49; (with_reducible refine HCA.out.mono ?_); rintro e w3 ⟨rfl, d1, rfl⟩)
      go_ret
      exact ⟨rfl, by rw [HW1.out]; exact (H.out.below HB1.out).drewN _, by rw [HW1.out]; exact (Turns.of_below HB1.out).drewN _⟩
    · rw [hav] at hca1
      have HCA := Lib.hid hca1
      have HAV := Lib.hid hav
      have e0 : ((n : Int) != (n : Int)) = false := by simp
      clear hca1 hav
      cases hbv : tl.all (isV m.L)
      · have HV : Hid (turnV m fr tl = (m, 1)) := by show _ = _; unfold turnV turnOk; rw [hbv]; simp
        rw [HV.out]
        rw [hbv] at hcb1
        have HCB : Hid (∀ k, Calls Try.prog 49 #[.slice B n d, .func (.func 76) #[] #[.pointer (some ⟨w.heap.size, 0, none⟩)]] ((w.alloc (.cells #[.pointer (some ⟨s, 0, none⟩)] 23)).drewN k) fun e w' => e = .returned (.bool true) ∧ ∃ n, w' = ((w.alloc (.cells #[.pointer (some ⟨s, 0, none⟩)] 23)).drewN k).drewN n) := fun k => by
          rw [HW1.out]
          have := contains_any (c := d) ((H.out.below HB1.out).drewN k) w.heap.size (show (w1.drewN k).cell? _ = some (.pointer (some ⟨s, 0, none⟩)) by simp [World.cell?, HBX.out]) ((HBN.out.below HB1.out).drewN k) (by have := HN2.out; omega)
          rw [HN2.out, hbv] at this
          exact this
        clear hcb1 hbv
        go_enter Try.func68, Try.ntmps68
        go_wp2_with (first | (go_at_call 49; (with_reducible refine HCA.out.mono ?_); rintro e w3 ⟨rfl, d1, rfl⟩) | (go_at_call 49; (with_reducible refine (HCB.out _).mono ?_); rintro e w4 ⟨rfl, d2, rfl⟩))
        go_ret
        exact ⟨rfl, by rw [HW1.out]; exact (H.out.below HB1.out).drewN _, by rw [HW1.out]; exact (Turns.of_below HB1.out).drewN _⟩
      · rw [hbv] at hcb1
        have HCB : Hid (∀ k, Calls Try.prog 49 #[.slice B n d, .func (.func 76) #[] #[.pointer (some ⟨w.heap.size, 0, none⟩)]] ((w.alloc (.cells #[.pointer (some ⟨s, 0, none⟩)] 23)).drewN k) fun e w' => e = .returned (.bool false) ∧ ∃ n, w' = ((w.alloc (.cells #[.pointer (some ⟨s, 0, none⟩)] 23)).drewN k).drewN n) := fun k => by
          rw [HW1.out]
          have := contains_any (c := d) ((H.out.below HB1.out).drewN k) w.heap.size (show (w1.drewN k).cell? _ = some (.pointer (some ⟨s, 0, none⟩)) by simp [World.cell?, HBX.out]) ((HBN.out.below HB1.out).drewN k) (by have := HN2.out; omega)
          rw [HN2.out, hbv] at this
          exact this
        have HBV := Lib.hid hbv
        clear hcb1 hbv
        go_enter Try.func68, Try.ntmps68
        go_upto_region 4 with (first | (go_at_call 49; (with_reducible refine HCA.out.mono ?_); rintro e w3 ⟨rfl, d1, rfl⟩) | (go_at_call 49; (with_reducible refine (HCB.out _).mono ?_); rintro e w4 ⟨rfl, d2, rfl⟩))
        have hmm := @run_makeMap Try.prog
        go_upto_region 5 with fail
        obtain ⟨w5, hw5⟩ : ∃ w5, (((w.alloc (.cells #[.pointer (some ⟨s, 0, none⟩)] 23)).drewN (d1 + d2)).alloc (.map #[] 0)).alloc (.cells #[.map (some (w.heap.size + 1))] 80) = w5 := ⟨_, rfl⟩
        have hb5 : Below w.heap.size w w5 := by rw [← hw5]; exact ((below_drewN ((Below.refl _ _).alloc (Nat.le_refl _) _) _).alloc (by simp) _).alloc (by simp; omega) _
        have hx1 : ((w.alloc (.cells #[.pointer (some ⟨s, 0, none⟩)] 23)).drewN (d1 + d2)).heap.size = w.heap.size + 1 := by simp
        have hx2 : (((w.alloc (.cells #[.pointer (some ⟨s, 0, none⟩)] 23)).drewN (d1 + d2)).alloc (.map #[] 0)).heap.size = w.heap.size + 1 + 1 := by simp
        have hmb5 : w5.heap[w.heap.size]? = some (.cells #[.pointer (some ⟨s, 0, none⟩)] 23 (0, 0)) := by
          rw [← hw5, Below.heap_alloc _ _ _ (by rw [hx2]; omega), Below.heap_alloc _ _ _ (by rw [hx1]; omega)]
          exact heap_alloc_new w _
        have htb5 : w5.heap[w.heap.size + 1 + 1]? = some (.cells #[.map (some (w.heap.size + 1))] 80 (0, 0)) := by
          rw [← hw5, ← hx2]; exact heap_alloc_new _ _
        have hmp5 : IntMap w5 (w.heap.size + 1) 0 (fun _ => 0) := by
          have := IntMap.made ((w.alloc (.cells #[.pointer (some ⟨s, 0, none⟩)] 23)).drewN (d1 + d2))
          rw [hx1] at this
          refine this.same ?_
          rw [← hw5, Below.heap_alloc _ _ _ (by rw [hx2]; omega)]
        rw [hw5]
        have hst : TurnL w s bm (.cells #[.pointer (some ⟨s, 0, none⟩)] 23 (0, 0)) (.cells #[.map (some (w.heap.size + 1))] 80 (0, 0)) fr tl 0 w5 := ⟨hb5, hmb5, htb5, hmp5⟩
        have HST := Lib.hid hst
        clear hmm hw5 hb5 hx1 hx2 hmb5 htb5 hmp5 hst
        go_wp2_with fail
        go_loopw [30] (fun i wr => ∃ k : Nat, k ≤ n ∧ i = .int .i64 k ∧ distinct (fr.take k) = true ∧ TurnL w s bm (.cells #[.pointer (some ⟨s, 0, none⟩)] 23 (0, 0)) (.cells #[.map (some (w.heap.size + 1))] 80 (0, 0)) fr tl k wr) (fun i _ => n - (intOf i).toNat)
        case atStart => exact ⟨0, Nat.zero_le _, rfl, rfl, HST.out⟩
        case round =>
          obtain ⟨k, hk, rfl, hdis, hbw, hmb, htb, hmp⟩ := hrel
          have HDIS := Lib.hid hdis
          have HBW := Lib.hid hbw
          have HMB := Lib.hid hmb
          have HTB := Lib.hid htb
          have HMP := Lib.hid hmp
          have ct : wr.cell? ⟨w.heap.size + 1 + 1, 0, none⟩ = some (.map (some (w.heap.size + 1))) := by simp [World.cell?, htb]
          have cm : wr.cell? ⟨w.heap.size, 0, none⟩ = some (.pointer (some ⟨s, 0, none⟩)) := by simp [World.cell?, hmb]
          have CM := Lib.hid cm
          have CT := Lib.hid ct
          clear hdis hbw hmb htb hmp
          by_cases hlt : k < n
          · have d0 : decide (k < n) = true := decide_eq_true hlt
            have hkf : k < fr.length := by rw [HN.out]; exact hlt
            have hkt : k < tl.length := by rw [HN2.out]; exact hlt
            obtain ⟨ga, offa, rfl, hgl, hca⟩ := (HA.out.below HBW.out) k hkf
            obtain ⟨gb, offb, rfl, hgl2, hcb⟩ := (HBN.out.below HBW.out) k hkt
            obtain ⟨x, hx⟩ : ∃ x, fr[k] = x := ⟨_, rfl⟩
            obtain ⟨y, hy⟩ : ∃ y, tl[k] = y := ⟨_, rfl⟩
            have hxI : InI x := by rw [← hx]; exact HFI.out _ (List.getElem_mem hkf)
            have hyv : isV m.L y = true := by rw [← hy]; exact List.all_eq_true.1 HBV.out _ (List.getElem_mem hkt)
            have hyI : InI y := isV_InI H.out.good hyv
            have HX := Lib.hid hx
            have HY := Lib.hid hy
            rw [hx] at hca
            rw [hy] at hcb
            have g0 : (0 : Int) ≤ (k : Int) := by omega
            have g1 : (k : Int) < (n : Int) := by omega
            by_cases hin : x ∈ fr.take k
            · obtain ⟨z, hz⟩ : ∃ z, ftV (fr.take k) tl x = z := ⟨_, rfl⟩
              have hzv := (ftV_mem (L := m.L) (tl := tl) hin (by simp; omega) HBV.out).1
              rw [hz] at hzv
              have e1 : (z != 0) = true := by simp; exact isV_ne hzv
              have hlk := HMP.out.look hxI
              rw [hz] at hlk
              have HV : Hid (turnV m fr tl = (m, 1)) := by
                show _ = _
                unfold turnV turnOk
                rw [distinct_take_no hkf (by rw [HX.out]; exact hin)]; simp
              clear hin hz hzv hx hy hyv
              go_wp2_with fail
              go_ret
              exact ⟨by rw [HV.out]; rfl, by rw [HV.out]; exact H.out.below HBW.out, Turns.of_below HBW.out⟩
            · have hlk := HMP.out.look hxI
              rw [ftV_zero hin] at hlk
              have HIN := Lib.hid hin
              have HXI := Lib.hid hxI
              have HYI := Lib.hid hyI
              have hkm : k < maxLen := by unfold maxLen; omega
              have HKM := Lib.hid hkm
              clear hin hx hy hyv hxI hyI hkm
              go_upto_region 10 with fail
              go_still_tail 6, (by kernel_rfl)
              change wpList _ _ _ _ _ wr.drew
              go_wp2_with (at_mapUpdate; refine wpList_putInt _ rfl _ _ _ rfl rfl (show IntMap wr.drew (w.heap.size + 1) k (ftV (fr.take k) tl) from HMP.out.same rfl) HKM.out rfl rfl HXI.out HYI.out ?_; intro w7 hm7 hg7)
              go_roundw
              case rel =>
                have hz := HBW.out.size
                have hlt1 := lt_of_block HMB.out
                have hlt2 := lt_of_block HTB.out
                refine ⟨k + 1, by omega, by go_num, distinct_take_succ hkf (by rw [HX.out]; exact HIN.out) HDIS.out, ?_, ?_, ?_, ?_⟩
                · exact ⟨hg7.os.trans HBW.out.os, hg7.tape.trans HBW.out.tape, hg7.output.trans HBW.out.output, Nat.le_trans hz hg7.size, fun j hj => (hg7.block j (Nat.lt_of_lt_of_le hj hz) (fun e => by cases e; omega)).trans (HBW.out.block j hj)⟩
                · exact (hg7.block w.heap.size hlt1 (fun e => by simp at e)).trans HMB.out
                · exact (hg7.block (w.heap.size + 1 + 1) hlt2 (fun e => by simp at e)).trans HTB.out
                · refine hm7.congr (fun a => ?_)
                  rw [ftV_take hkf (by rw [HX.out]; exact HIN.out), HX.out, List.getD_eq_getElem?_getD, List.getElem?_eq_getElem hkt, HY.out]; rfl
              case measure => simp [intOf]; omega
          · have hkn : k = n := by omega
            have d0 : decide (k < n) = false := decide_eq_false hlt
            clear hlt
            subst hkn
            have hPM := H.out.below HBW.out
            obtain ⟨q1, q2, q3⟩ := hPM.ne
            have hdis : distinct fr = true := by have := HDIS.out; rw [← HN.out, List.take_length] at this; exact this
            have hmp : IntMap wr (w.heap.size + 1) k (ftV fr tl) := by have := HMP.out; rw [← HN.out, List.take_length, HN.out] at this; exact this
            obtain ⟨l1, l2, l3⟩ : bw < w.heap.size ∧ s < w.heap.size ∧ bm < w.heap.size := ⟨H.out.lt _ (.inr (.inl rfl)), H.out.lt _ (.inl rfl), H.out.lt _ (.inr (.inr rfl))⟩
            have hll : fr.length = tl.length := by rw [HN.out, HN2.out]
            have hG := gT_sbV H.out.good hll HAV.out HBV.out
            have hGI : ∀ x, InI x → InI (gT (ftV fr tl) x) := fun x hx => by rw [hG]; exact sbV_InI H.out.good hll HBV.out hx
            obtain ⟨ys, y1, y2⟩ := hPM.gap
            have hcall := each_turn (w := wr) (s := s) (bw := bw) (sz := m.size) (n := m.L.length) (c0 := .pointer (some ⟨w.heap.size, 0, none⟩)) (c1 := .pointer (some ⟨w.heap.size + 1 + 1, 0, none⟩)) (A := adr m.L) (NF := nfA m.L) (fun k w' => GapP bw (fun b => b = bw) m.L (gT (ftV fr tl)) m.size wr k w') ⟨ys, y1, y2, Turns.refl _ _⟩ (each_zero _) (each_succ _) (each_mono _) (each_size hPM.good)
              (fun k w' hk hp => by obtain ⟨_, _, _, p3⟩ := hp; exact p3.cell hPM.c1 q1) (fun k w' hk hp => gap_head hPM q1 hk hp)
              (fun k w' hk hp => by
                obtain ⟨zs, p1, p2, p3⟩ := hp
                have hf := hPM.good.fmt _ (List.getElem_mem hk)
                refine (turn2_any (mb := w.heap.size) (tb := w.heap.size + 1 + 1) (tm := w.heap.size + 1) hk hf.1 hf.2 (words_InI hPM.good (List.getElem_mem hk)) (p3.cell hPM.c0 q1) (p3.cell CM.out (by omega)) (p3.cell CT.out (by omega)) (hmp.same (p3.block _ hmp.lt (by omega))) p1 ((gap_mid hk).1 p2) (take_map_szs _ _ _) hPM.good.hi q1 (by omega) (by omega) (by omega)).mono ?_
                rintro e w2 ⟨rfl, ys', r1, r2, r3⟩
                refine ⟨rfl, ys', r1, ?_, p3.trans r3⟩
                rw [take_map_succ _ hk]; exact r2)
            have HCALL := Lib.hid hcall
            have HPM := Lib.hid hPM
            have HV : Hid (turnV m fr tl = ({ m with L := m.L.map (turnO (gT (ftV fr tl))) }, 0)) := by
              show _ = _
              unfold turnV turnOk
              rw [hdis, HAV.out, HBV.out, decide_eq_true hll, hG]; rfl
            have HGI := Lib.hid hGI
            clear hcall hPM hdis hmp hll hG y1 y2 hGI
            go_wp2_with (go_at_call 52; (with_reducible refine HCALL.out.mono ?_); rintro e w6 ⟨rfl, zs, r1, r2, r3⟩; have HR1 := Lib.hid r1; have HR2 := Lib.hid r2; have HR3 := Lib.hid r3; clear r1 r2 r3)
            go_ret
            have hL : (m.L.take m.L.length).map (turnO (gT (ftV fr tl))) = m.L.map (turnO (gT (ftV fr tl))) := by rw [List.take_length]
            rw [HV.out]
            refine ⟨rfl, HPM.out.turned HGI.out HR1.out (by rw [← hL]; exact HR2.out) (HR3.out.block s (Nat.lt_of_lt_of_le l2 HBW.out.size) q1) (HR3.out.block bm (Nat.lt_of_lt_of_le l3 HBW.out.size) (fun e => q3 e.symm)), ?_⟩
            exact (Turns.of_below HBW.out).trans (HR3.out.mono (fun j _ e => .inr (.inl e)))
  · have HV : Hid (turnV m fr tl = (m, 1)) := by show _ = _; unfold turnV turnOk; rw [HN.out, HN2.out, decide_eq_false hlen]; simp
    rw [HV.out]
    have e0 : ((n : Int) != (n2 : Int)) = true := by simp; omega
    clear hca1 hcb1 hlen
    go_enter Try.func68, Try.ntmps68
    go_wp2_with fail
    go_ret
    exact ⟨rfl, by rw [HW1.out]; exact H.out.below HB1.out, by rw [HW1.out]; exact Turns.of_below HB1.out⟩
end Go.Proofs.Ythonodimjglnfaa
