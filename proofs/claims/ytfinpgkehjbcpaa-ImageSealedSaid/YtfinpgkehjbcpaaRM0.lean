/- Chapter 02: an object more in the reference's memory. -/
import Derived.Test.YtfinpgkehjbcpaaRD0
import Derived.Test.YtfinpgkehjbcpaaHM0
import Derived.Test.YtfinpgkehjbcpaaHE1
import Derived.Deep.RegionLaw
import Derived.Deep.AppendLies
namespace Go.Proofs.Ytfinpgkehjbcpaa
open Go.ChangeShapes Go.WideShapes Go.ChangeAt Go.RowKit Go.Deep Go.Joins Go.Maps
set_option linter.unusedVariables false
set_option linter.unusedSimpArgs false

theorem infoO : (Try.prog.info? 75).map (fun i => (i.zero, i.size, i.bytes)) = some (some (.agg #[.int .i64 0, .int .i64 0, .int .i64 0, .slice none 0 0]), 4, 48) := by kernel_rfl
/-- behind a deed of the reference's: its memory, wherever it lies now -/
def RPost (R : Nat → Prop) (r : Nat) (m : Hp) (w w' : World) : Prop := ∃ R' lv fv, RM w' R' r m lv fv ∧ Turns R w w' ∧ ∀ k, R' k → R k ∨ w.heap.size ≤ k
theorem own_slice {w : World} {base n size : Nat} {e : TypeId} {v : Value} {xs : List Value} (h : w.ownsRow base e size v n xs) : ∃ A c, v = .slice A n c := by
  rcases h.2 with ⟨rfl, rfl⟩ | ⟨g, cap, cur, rfl, _⟩
  · exact ⟨none, 0, rfl⟩
  · exact ⟨_, cap, rfl⟩
theorem RM.push {w w' : World} {R : Nat → Prop} {r : Nat} {m : Hp} {lv lv' v : Value} {fv : Nat → Value} (h : RM w R r m lv fv) {m' : Hp} {o : Ob} (hm : m'.L = m.L ++ [o]) (hg : Good m')
    (hbox : w'.heap[r]? = some (.cells #[.int .i64 (m'.size : Int), .int .i64 (m'.made : Int), lv'] 61 (0, 0)))
    (hown : w'.ownsRow 0 75 4 lv' (m.L.length + 1) (rowsL m.L.length 4 (objF m.L fv) ++ [.int .i64 o.cls, .int .i64 o.fmt, .int .i64 o.hash, v]))
    (hf : w'.ownsRow w.heap.size 3 1 v o.F.length (o.F.map (Value.int .i64)))
    (hb : ∀ k, R k → k ≠ r → lv.ownBlock ≠ some k → w'.heap[k]? = w.heap[k]?) (hlv : lv'.ownBlock = lv.ownBlock ∨ ∃ k, lv'.ownBlock = some k ∧ w.heap.size ≤ k) (hs : w.heap.size ≤ w'.heap.size) :
    RM w' (fun k => R k ∨ (w.heap.size ≤ k ∧ k < w'.heap.size)) r m' lv' (fun i => if i = m.L.length then v else fv i) := by
  obtain ⟨a1, a2⟩ := h.apart1
  have hlen : m'.L.length = m.L.length + 1 := by rw [hm]; simp
  have hold : ∀ i, i < m.L.length → ∀ k, (fv i).ownBlock = some k → w'.heap[k]? = w.heap[k]? := fun i hi k hk => hb k (h.inR.2.2 i hi k hk) (fun e => (a2 i hi).1 (by rw [hk, e])) (fun e => (a2 i hi).2 (by rw [hk]; simp) (by rw [hk, e]))
  refine ⟨hg, hbox, ?_, ?_, ?_, ?_, ?_⟩
  · rw [hlen, rowsL_succ]
    have e1 : rowsL m.L.length 4 (objF m'.L (fun i => if i = m.L.length then v else fv i)) = rowsL m.L.length 4 (objF m.L fv) := by
      apply rowsL_congr
      intro i hi j hj
      unfold objF
      rw [hm, List.getD_eq_getElem?_getD, List.getD_eq_getElem?_getD, List.getElem?_append_left hi]
      simp only [if_neg (show ¬ i = m.L.length by omega)]
    have e2 : (List.range 4).map (objF m'.L (fun i => if i = m.L.length then v else fv i) m.L.length) = [.int .i64 o.cls, .int .i64 o.fmt, .int .i64 o.hash, v] := by
      have : m'.L.getD m.L.length zeroO = o := by rw [hm, List.getD_eq_getElem?_getD, List.getElem?_append_right (Nat.le_refl _)]; simp
      show [objF _ _ _ 0, objF _ _ _ 1, objF _ _ _ 2, objF _ _ _ 3] = _
      unfold objF
      rw [this]
      simp
    rw [e1, e2]
    exact hown
  · intro i hi
    rcases Nat.lt_or_ge i m.L.length with q | q
    · have e : m'.L[i] = m.L[i] := by simp only [hm]; rw [List.getElem_append_left q]
      rw [e, if_neg (by omega)]
      exact ownsRow_same (h.fields i q) hs (hold i q)
    · obtain rfl : i = m.L.length := by omega
      have e : m'.L[m.L.length] = o := by simp only [hm]; simp
      rw [e, if_pos rfl]
      exact ownsRow_mono hf (Nat.zero_le _)
  · intro i j hij hj hne
    rw [hlen] at hj
    rw [if_neg (by omega)] at hne ⊢
    rcases Nat.lt_or_ge j m.L.length with q | q
    · rw [if_neg (by omega)]; exact h.apart i j hij q hne
    · obtain rfl : j = m.L.length := by omega
      rw [if_pos rfl]
      intro e
      obtain ⟨k, hk⟩ := Option.ne_none_iff_exists'.1 hne
      have h1 := h.lt k (h.inR.2.2 i hij k hk)
      rw [hk] at e
      have h2 := (hf.lt k e.symm).1
      omega
  · refine ⟨.inl h.inR.1, fun k hk => ?_, fun i hi k hk => ?_⟩
    · rcases hlv with e | ⟨k', e, hk'⟩
      · rw [e] at hk; exact .inl (h.inR.2.1 k hk)
      · rw [hk] at e; cases e; exact .inr ⟨hk', (hown.lt k hk).2⟩
    · rw [hlen] at hi
      rcases Nat.lt_or_ge i m.L.length with q | q
      · rw [if_neg (by omega)] at hk; exact .inl (h.inR.2.2 i q k hk)
      · obtain rfl : i = m.L.length := by omega
        rw [if_pos rfl] at hk
        exact .inr (hf.lt k hk)
  · rintro k (hk | hk)
    · exact Nat.lt_of_lt_of_le (h.lt k hk) hs
    · exact hk.2
end Go.Proofs.Ytfinpgkehjbcpaa
/- Chapter 02: the contract of the reference's Make. -/
namespace Go.Proofs.Ytfinpgkehjbcpaa
open Go.ChangeShapes Go.WideShapes Go.ChangeAt Go.RowKit Go.Deep Go.Joins Go.Maps
set_option linter.unusedVariables false
set_option linter.unusedSimpArgs false

set_option maxRecDepth 100000 in
set_option maxHeartbeats 16000000 in
theorem rmake_in {w : World} {R : Nat → Prop} {r : Nat} {m : Hp} {lv : Value} {fv : Nat → Value} (h : RM w R r m lv fv) (c f n : Int) (hc : InI c) (hff : InI f) (hn : InI n) (pl : Int) (hv : plcV m.L c = pl) (hcl : (decide (c = 0) || isV m.L c) = true) (cc : Bool) (e0 : (c == 0) = cc) (hcp : cc = false → decide (0 ≤ pl) = true) (q0 : ¬ f < 0) (q1 : ¬ 2 < f) (q2 : ¬ n < 0) (q3 : ¬ 256 < n) :
    Calls Try.prog 26 #[.pointer (some ⟨r, 0, none⟩), .int .i64 c, .int .i64 f, .int .i64 n] w (fun e w' => e = .returned (.tuple #[.int .i64 (makeV m c f n).2.1, .int .i64 (makeV m c f n).2.2]) ∧ RPost R r (makeV m c f n).1 w w') := by
  have H := Lib.hid h
  have HPL := Lib.hid hv
  have d0 : decide (f < 0) = false := decide_eq_false q0
  have d1 : decide (2 < f) = false := decide_eq_false q1
  have d2 : decide (n < 0) = false := decide_eq_false q2
  have d3 : decide (256 < n) = false := decide_eq_false q3
  have hb : badM m c f n = false := by unfold badM; rw [hcl, d0, d1, d2, d3]; rfl
  have hsz := h.good.hi
  obtain ⟨t, ht⟩ : ∃ t, adr m.L m.L.length = t := ⟨_, rfl⟩
  have htb := adr_bd h.good m.L.length
  rw [ht] at htb
  obtain ⟨Q, hQ⟩ : ∃ Q : Int, (m.size : Int) - (t : Int) = Q := ⟨_, rfl⟩
  have HRM : Hid (Calls Try.prog 22 #[.pointer (some ⟨r, 0, none⟩)] w fun e w' => e = .returned (.int .i64 Q) ∧ ∃ n, w' = w.drewN n) := by have := rroom_any h; rw [ht, hQ] at this; exact this
  by_cases q4 : Q < n + 3
  · have d4 : decide (Q < n + 3) = true := decide_eq_true q4
    have HV : Hid (makeV m c f n = (m, 0, 4)) := by show _ = _; unfold makeV; rw [hb, if_neg (by simp), if_pos (by unfold fullM; rw [ht, hQ, d4]; rfl)]
    rw [HV.out]
    clear h hcl hc hn hff hv ht hQ hb htb
    cases cc
    · have e1 := hcp rfl
      have e2 : 0 ≤ pl := of_decide_eq_true e1
      clear hcp
      go_enter Try.func26, Try.ntmps26
      go_wp2_with (first | (go_at_call 65; (with_reducible refine (rplace_any H.out c).mono ?_); rw [HPL.out]; rintro e w1 ⟨rfl, hw1⟩; replace hw1 := hw1.symm; subst hw1) | (go_at_call 22; (with_reducible refine HRM.out.mono ?_); rintro e w2 ⟨rfl, n2, rfl⟩))
      go_ret2
      exact ⟨rfl, R, lv, fv, H.out.drewN _, (Turns.refl _ _).drewN _, fun k hk => .inl hk⟩
    · clear hcp
      go_enter Try.func26, Try.ntmps26
      go_wp2_with (first | (go_at_call 65; (with_reducible refine (rplace_any H.out c).mono ?_); rw [HPL.out]; rintro e w1 ⟨rfl, hw1⟩; replace hw1 := hw1.symm; subst hw1) | (go_at_call 22; (with_reducible refine HRM.out.mono ?_); rintro e w2 ⟨rfl, n2, rfl⟩))
      go_ret2
      exact ⟨rfl, R, lv, fv, H.out.drewN _, (Turns.refl _ _).drewN _, fun k hk => .inl hk⟩
  have d4 : decide (Q < n + 3) = false := decide_eq_false q4
  have c1 := h.c1
  have hmade := h.good.made
  by_cases q5 : 1099511627776 ≤ (m.made : Int)
  · have d5 : decide (1099511627776 ≤ (m.made : Int)) = true := decide_eq_true q5
    have hme : m.made = 1099511627776 := by omega
    have HV : Hid (makeV m c f n = (m, 0, 4)) := by show _ = _; unfold makeV; rw [hb, if_neg (by simp), if_pos (by unfold fullM; rw [d5]; simp)]
    rw [HV.out]
    rw [hme] at c1
    have c1' : w.cell? ⟨r, 1, none⟩ = some (.int .i64 1099511627776) := c1
    clear h hcl hc hn hff hv ht hQ hb htb hme c1 q5 d5 hmade
    cases cc
    · have e1 := hcp rfl
      have e2 : 0 ≤ pl := of_decide_eq_true e1
      clear hcp
      go_enter Try.func26, Try.ntmps26
      go_wp2_with (first | (go_at_call 65; (with_reducible refine (rplace_any H.out c).mono ?_); rw [HPL.out]; rintro e w1 ⟨rfl, hw1⟩; replace hw1 := hw1.symm; subst hw1) | (go_at_call 22; (with_reducible refine HRM.out.mono ?_); rintro e w2 ⟨rfl, n2, rfl⟩))
      go_ret2
      exact ⟨rfl, R, lv, fv, H.out.drewN _, (Turns.refl _ _).drewN _, fun k hk => .inl hk⟩
    · clear hcp
      go_enter Try.func26, Try.ntmps26
      go_wp2_with (first | (go_at_call 65; (with_reducible refine (rplace_any H.out c).mono ?_); rw [HPL.out]; rintro e w1 ⟨rfl, hw1⟩; replace hw1 := hw1.symm; subst hw1) | (go_at_call 22; (with_reducible refine HRM.out.mono ?_); rintro e w2 ⟨rfl, n2, rfl⟩))
      go_ret2
      exact ⟨rfl, R, lv, fv, H.out.drewN _, (Turns.refl _ _).drewN _, fun k hk => .inl hk⟩
  have d5 : ((m.made : Int) == 1099511627776) = false := by simp; omega
  have hf : fullM m n = false := by unfold fullM; rw [ht, hQ, d4, decide_eq_false q5]; rfl
  obtain ⟨g1, g2, g3, g4, g5, g6, g7⟩ := good_make h.good hc hb hf
  obtain ⟨nn, rfl⟩ : ∃ nn : Nat, n = (nn : Int) := ⟨n.toNat, by omega⟩
  have hmk : makeV m c f (nn : Int) = ({ m with made := m.made + 1, L := m.L ++ [newO c f ((m.made : Int) + 1) nn] }, ptr m.L m.L.length, 0) := by unfold makeV; rw [hb, hf]; rfl
  rw [hmk] at g1 ⊢
  have hat : ∀ d, Calls Try.prog 32 #[.pointer (some ⟨r, 0, none⟩), .int .i64 (m.L.length : Int)] (w.drewN d) fun e w' => e = .returned (.int .i64 (2 * (t : Int))) ∧ w' = w.drewN d := fun d => by
    have := rat_any (h.drewN d) m.L.length (Nat.le_refl _)
    unfold ptr at this
    rw [ht] at this
    exact this
  have hptr : ptr m.L m.L.length = 2 * (t : Int) := by unfold ptr; rw [ht]
  obtain ⟨A, cL, hlv, hcL, _⟩ := h.list
  have c2 := h.c2
  rw [hlv] at c2
  have hll := len_bd h.good
  obtain ⟨nl, hnl⟩ : ∃ nl, m.L.length = nl := ⟨_, rfl⟩
  rw [hnl] at hat c2 hll
  have fs : w.frozen? ⟨r, 1, none⟩ = false := by simp [World.frozen?, h.box]
  have hlr := lt_of_block h.box
  have hnn : nn ≤ 256 := by omega
  have hm1 : m.made < 1099511627776 := by omega
  have HAT := Lib.hid hat
  have HG := Lib.hid g1
  have HPTR := Lib.hid hptr
  have HLV := Lib.hid hlv
  have HNL := Lib.hid hnl
  obtain ⟨i0, hi, hz0, hz1, hz2⟩ := info_parts infoI
  obtain ⟨j0, hj, hy0, hy1, hy2⟩ := info_parts infoO
  have hbx3 : (w.drewN 0).heap[r]? = some (.cells #[.int .i64 (m.size : Int), .int .i64 (m.made : Int), lv] 61 (0, 0)) := h.box
  have HBX := Lib.hid hbx3
  clear h hcl hc hn hff hv ht hQ hb htb hf g1 hmk hat hptr hlv hnl hbx3 hmade
  cases cc
  · have e1 := hcp rfl
    have e2 : 0 ≤ pl := of_decide_eq_true e1
    clear hcp
    go_enter Try.func26, Try.ntmps26
    go_upto_region 9 with (first | (go_at_call 65; (with_reducible refine (rplace_any H.out c).mono ?_); rw [HPL.out]; rintro e w1 ⟨rfl, hw1⟩; replace hw1 := hw1.symm; subst hw1) | (go_at_call 22; (with_reducible refine HRM.out.mono ?_); rintro e w2 ⟨rfl, n2, rfl⟩) | (go_at_call 32; (with_reducible refine (HAT.out _).mono ?_); rintro e w4 ⟨rfl, hw4⟩; replace hw4 := hw4.symm; subst hw4))
    obtain ⟨w3, hw3⟩ : ∃ w3, (w.drewN n2).setCell ⟨r, 1, none⟩ (.int .i64 ((m.made : Int) + 1)) = w3 := ⟨_, rfl⟩
    obtain ⟨w4, hw4⟩ : ∃ w4, w3.alloc (.cells #[.int .i64 c, .int .i64 f, .int .i64 ((m.made : Int) + 1), .slice none 0 0] 75) = w4 := ⟨_, rfl⟩
    rw [hw3, hw4]
    have s3 : w3.heap.size = w.heap.size := by rw [← hw3]; simp
    have t3 : Turns (fun b => b = r) w w3 := by rw [← hw3]; exact ((Turns.refl _ _).drewN _).setCell _ _ rfl
    have r3 : w3.heap[r]? = some (.cells #[.int .i64 (m.size : Int), .int .i64 ((m.made : Int) + 1), lv] 61 (0, 0)) := by
      rw [← hw3, heap_setCell_same (w.drewN n2) r 1 _ _ _ HBX.out]; rfl
    have b4 : Below w.heap.size w3 w4 := by rw [← hw4]; exact (Below.refl _ _).alloc (by omega) _
    have x4 : w4.heap[w.heap.size]? = some (.cells #[.int .i64 c, .int .i64 f, .int .i64 ((m.made : Int) + 1), .slice none 0 0] 75 (0, 0)) := by rw [← hw4, ← s3]; exact heap_alloc_new _ _
    have S3 := Lib.hid s3
    have T3_ := Lib.hid t3
    have R3_ := Lib.hid r3
    have B4 := Lib.hid b4
    have X4 := Lib.hid x4
    clear hw3 hw4 s3 t3 r3 b4 x4
    go_wp2_with fail
    go_loopw [13] (fun i wr => ∃ k : Nat, k ≤ nn ∧ i = .int .i64 k ∧ ∃ v, wr.heap[w.heap.size]? = some (.cells #[.int .i64 c, .int .i64 f, .int .i64 ((m.made : Int) + 1), v] 75 (0, 0)) ∧ wr.ownsRow (w.heap.size + 1) 3 1 v k ((List.replicate k (0 : Int)).map (Value.int .i64)) ∧ Below w.heap.size w3 wr) (fun i _ => nn - (intOf i).toNat)
    case atStart => exact ⟨0, Nat.zero_le _, rfl, _, X4.out, World.ownsRow_nil _ _ _ _, B4.out⟩
    case round =>
      obtain ⟨k, hk, rfl, v, hxb, hown, hbw⟩ := hrel
      have hlx := lt_of_block hxb
      have hc3 : wr.cell? ⟨w.heap.size, 3, none⟩ = some v := by simp [World.cell?, hxb]
      have HXB := Lib.hid hxb
      have HOWN := Lib.hid hown
      have HBW := Lib.hid hbw
      by_cases hlt : k < nn
      · have z1 : decide (k < nn) = true := decide_eq_true hlt
        have HBX0 : Hid ((wr.alloc (.cells #[.int .i64 0] 3)).heap[w.heap.size]? = some (.cells #[.int .i64 c, .int .i64 f, .int .i64 ((m.made : Int) + 1), v] 75 (0, 0))) := by show _ = _; rw [Below.heap_alloc _ _ _ hlx]; exact hxb
        have hne : ∀ k, v.ownBlock = some k → k ≠ w.heap.size := fun k hk => by have := hown.lt k hk; omega
        have HNE := Lib.hid hne
        clear hne hxb hown hbw
        go_wp2_with (at_builtin; refine wpList_append_own _ rfl _ _ 23 rfl (w.heap.size + 1) 3 i0 (.int .i64 0) 1 8 Try.underlying23 hi hz0 hz1 hz2 rfl (by decide) _ _ _ rfl (HOWN.out.alloc _) ⟨wr.heap.size, 0, none⟩ 1 1 [.int .i64 0] rfl rfl (cells_newN _ _ _ _ (by simp)) (by simp [Value.oneCell']) (by unfold maxLen; omega) (by omega) (by simp only [World.size_alloc]; omega) ?_; intro v2 w5 hown3 hg2 _; obtain ⟨gq, cq, rfl, _, _⟩ := World.ownsRow.form hown3 (by omega); have hb5 := (hg2.block w.heap.size (by simp only [World.size_alloc]; omega) (fun q => HNE.out w.heap.size q.symm rfl)).trans HBX0.out; have hc5 : w5.cell? ⟨w.heap.size, 3, none⟩ = some v := by { simp [World.cell?, hb5] }; have hf5 : w5.frozen? ⟨w.heap.size, 3, none⟩ = false := by { simp [World.frozen?, hb5] }; have HB5 := Lib.hid hb5; have HG5 := Lib.hid hg2; have HO5 := Lib.hid hown3; clear hb5 hg2 hown3)
        go_roundw
        case rel =>
          refine ⟨k + 1, hlt, by go_num, .slice (some ⟨gq, 0, none⟩) (k + 1) cq, ?_, ?_, ?_⟩
          · rw [heap_setCell_same _ w.heap.size 3 _ _ _ HB5.out]; rfl
          · have := ownsRow_setCell_below HO5.out (a := ⟨w.heap.size, 3, none⟩) (by show w.heap.size < w.heap.size + 1; omega) (.slice (some ⟨gq, 0, none⟩) (k + 1) cq)
            rw [List.replicate_succ', List.map_append]
            exact this
          · have hb := below_of_append (HOWN.out.alloc (.cells #[.int .i64 0] 3)) HG5.out (by simp only [World.size_alloc]; omega)
            exact (((HBW.out.alloc (Nat.le_of_lt hlx) _).trans (hb.mono (Nat.le_succ _))).setCell (Nat.le_refl _) _)
        case measure => simp [intOf]; omega
      · have hkn : k = nn := by omega
        have z1 : decide (k < nn) = false := decide_eq_false hlt
        clear hlt
        subst hkn
        obtain ⟨a1, a2⟩ := H.out.apart1
        obtain ⟨VA, vc, rfl⟩ := own_slice hown
        have hxc0 : wr.cell? ⟨w.heap.size, 0, none⟩ = some (.int .i64 c) := by simp [World.cell?, hxb]
        have hxc1 : wr.cell? ⟨w.heap.size, 1, none⟩ = some (.int .i64 f) := by simp [World.cell?, hxb]
        have hxc2 : wr.cell? ⟨w.heap.size, 2, none⟩ = some (.int .i64 ((m.made : Int) + 1)) := by simp [World.cell?, hxb]
        have hrr : wr.heap[r]? = some (.cells #[.int .i64 (m.size : Int), .int .i64 ((m.made : Int) + 1), lv] 61 (0, 0)) := (hbw.block r (by omega)).trans R3_.out
        have hr2 : wr.cell? ⟨r, 2, none⟩ = some (.slice A nl cL) := by rw [← HNL.out, ← HLV.out]; simp [World.cell?, hrr]
        have hold : ∀ j, j < w.heap.size → j ≠ r → wr.heap[j]? = w.heap[j]? := fun j hj hne => (hbw.block j hj).trans (T3_.out.block j hj hne)
        have hz : w.heap.size < wr.heap.size := hlx
        have hol : wr.ownsRow 0 75 4 lv nl (rowsL nl 4 (objF m.L fv)) := by
          rw [← HNL.out]
          exact ownsRow_same H.out.own (Nat.le_of_lt hz) (fun j hj => hold j ((H.out.own.lt j hj).2) (fun e => a1 (by rw [hj, e])))
        have hlb : ∀ j, lv.ownBlock = some j → j < w.heap.size ∧ j ≠ r := fun j hj => ⟨(H.out.own.lt j hj).2, fun e => a1 (by rw [hj, e])⟩
        have hrA : (wr.alloc (.cells #[.int .i64 c, .int .i64 f, .int .i64 ((m.made : Int) + 1), .slice VA k vc] 75)).cell? ⟨r, 2, none⟩ = some (.slice A nl cL) := by rw [World.cell?_alloc_lt _ _ _ (by show r < _; omega)]; exact hr2
        have HV_ := Lib.hid hown
        have HBWR := Lib.hid hbw
        have HRR := Lib.hid hrr
        have HOL := Lib.hid hol
        have HLB := Lib.hid hlb
        have HOLD := Lib.hid hold
        have hlv2 : lv = .slice A nl cL := by rw [← HNL.out]; exact HLV.out
        have HLV2 := Lib.hid hlv2
        clear hrr hol hlb hold hxb hown hbw a1 a2 hlv2
        go_upto_region 13 with fail
        go_region_law (refine step_append_lies _ (by rfl) _ _ _ (by rfl) 0 75 j0 _ 4 48 Try.underlying59 hj hy0 hy1 hy2 rfl (by omega) (.slice A nl cL) nl (rowsL nl 4 (objF m.L fv)) (by rfl) (show World.ownsRow _ 0 75 4 (.slice A nl cL) nl _ by { rw [← HLV2.out]; exact (HOL.out.alloc _).drew }) ⟨wr.heap.size, 0, none⟩ 1 1 [.int .i64 c, .int .i64 f, .int .i64 ((m.made : Int) + 1), .slice VA k vc] (by rfl) (by rfl) (World.news_of_block (cs := #[.int .i64 c, .int .i64 f, .int .i64 ((m.made : Int) + 1), .slice VA k vc]) (t := 75) (fr := (0, 0)) (heap_alloc_new wr _)) (by simp [Value.oneCell']) (by omega) (by unfold maxLen; omega) (by omega) (by simp) (wr.heap.size + 1) (by simp) ?_; intro gg cap w6 hown6 hgrow hat6 hlt6; have hr6 := (hgrow.block r (by simp; omega) (fun e => (HLB.out r (by rw [HLV2.out]; exact e.symm)).2 rfl)).trans ((Below.heap_alloc _ _ _ (by omega)).trans HRR.out); have hc6 : w6.cell? ⟨r, 2, none⟩ = some lv := by { simp [World.cell?, hr6] }; have hf6 : w6.frozen? ⟨r, 2, none⟩ = false := by { simp [World.frozen?, hr6] }; have HR6 := Lib.hid hr6; have HG6 := Lib.hid hgrow; have HO6 := Lib.hid hown6; have HA6 := Lib.hid hat6; clear hr6 hgrow hown6 hat6)
        all_goals
          go_wp2_with fail
          go_ret2
          have hszw : wr.heap.size < w6.heap.size := Nat.lt_of_lt_of_le (by simp) HG6.out.size
          have hvk : ∀ j, (Value.slice VA k vc).ownBlock = some j → w.heap.size + 1 ≤ j := fun j hj => (HV_.out.lt j hj).1
          have hne6 : ∀ j, j < wr.heap.size → lv.ownBlock ≠ some j → w6.heap[j]? = wr.heap[j]? := fun j hj hne => (HG6.out.block j (by simp; omega) (fun e => hne (by rw [HLV2.out]; exact e.symm))).trans (Below.heap_alloc _ _ _ hj)
          have hv6 : w6.ownsRow (w.heap.size + 1) 3 1 (.slice VA k vc) k ((List.replicate k (0 : Int)).map (Value.int .i64)) := ownsRow_same HV_.out (Nat.le_of_lt hszw) (fun j hj => hne6 j (HV_.out.lt j hj).2 (fun e => by have := (HLB.out j e).1; have := hvk j hj; omega))
          have t5 : Turns R w wr := (T3_.out.mono (T := R) (fun j _ e => by subst e; exact H.out.inR.1)).trans (Turns.of_below (by rw [S3.out]; exact HBWR.out))
          have t6 : Turns R w w6 := ⟨HG6.out.os.trans t5.os, HG6.out.tape.trans t5.tape, HG6.out.output.trans t5.output, Nat.le_trans t5.size (Nat.le_of_lt hszw), fun j hj hn => (hne6 j (Nat.lt_of_lt_of_le hj t5.size) (fun e => hn (H.out.inR.2.1 j e))).trans (t5.block j hj hn)⟩
          refine ⟨by rw [HPTR.out]; rfl, _, _, _, H.out.push (o := newO c f ((m.made : Int) + 1) k) (v := .slice VA k vc) (lv' := .slice (some ⟨gg, 0, none⟩) (nl + 1) cap) rfl HG.out ?_ ?_ ?_ ?_ ?_ ?_, ?_, ?_⟩
          · rw [heap_setCell_same w6 r 2 _ _ _ HR6.out]; rfl
          · rw [HNL.out]
            refine ownsRow_setCell_other HO6.out (fun e => ?_) _
            have e' : gg = r := by cases e; rfl
            rcases HA6.out with q | q
            · exact (HLB.out gg (by rw [HLV2.out]; exact q)).2 e'
            · omega
          · show World.ownsRow _ _ _ _ _ (List.replicate k (0 : Int)).length _
            rw [List.length_replicate]
            exact ownsRow_mono (ownsRow_setCell_other hv6 (fun e => by have := hvk _ e; have : (⟨r, 2, none⟩ : Addr).block = r := rfl; omega) _) (Nat.le_succ _)
          · intro j hj hjr hjl
            rw [Below.heap_setCell _ _ _ _ hjr, hne6 j (Nat.lt_trans (H.out.lt j hj) (by omega)) hjl]
            exact HOLD.out j (H.out.lt j hj) hjr
          · rcases HA6.out with q | q
            · exact .inl (by rw [HLV2.out, q]; rfl)
            · exact .inr ⟨gg, rfl, by omega⟩
          · simp; omega
          · exact t6.setCell _ _ H.out.inR.1
          · rintro j (hj | hj)
            · exact .inl hj
            · exact .inr hj.1
  · clear hcp
    go_enter Try.func26, Try.ntmps26
    go_upto_region 9 with (first | (go_at_call 65; (with_reducible refine (rplace_any H.out c).mono ?_); rw [HPL.out]; rintro e w1 ⟨rfl, hw1⟩; replace hw1 := hw1.symm; subst hw1) | (go_at_call 22; (with_reducible refine HRM.out.mono ?_); rintro e w2 ⟨rfl, n2, rfl⟩) | (go_at_call 32; (with_reducible refine (HAT.out _).mono ?_); rintro e w4 ⟨rfl, hw4⟩; replace hw4 := hw4.symm; subst hw4))
    obtain ⟨w3, hw3⟩ : ∃ w3, (w.drewN n2).setCell ⟨r, 1, none⟩ (.int .i64 ((m.made : Int) + 1)) = w3 := ⟨_, rfl⟩
    obtain ⟨w4, hw4⟩ : ∃ w4, w3.alloc (.cells #[.int .i64 c, .int .i64 f, .int .i64 ((m.made : Int) + 1), .slice none 0 0] 75) = w4 := ⟨_, rfl⟩
    rw [hw3, hw4]
    have s3 : w3.heap.size = w.heap.size := by rw [← hw3]; simp
    have t3 : Turns (fun b => b = r) w w3 := by rw [← hw3]; exact ((Turns.refl _ _).drewN _).setCell _ _ rfl
    have r3 : w3.heap[r]? = some (.cells #[.int .i64 (m.size : Int), .int .i64 ((m.made : Int) + 1), lv] 61 (0, 0)) := by
      rw [← hw3, heap_setCell_same (w.drewN n2) r 1 _ _ _ HBX.out]; rfl
    have b4 : Below w.heap.size w3 w4 := by rw [← hw4]; exact (Below.refl _ _).alloc (by omega) _
    have x4 : w4.heap[w.heap.size]? = some (.cells #[.int .i64 c, .int .i64 f, .int .i64 ((m.made : Int) + 1), .slice none 0 0] 75 (0, 0)) := by rw [← hw4, ← s3]; exact heap_alloc_new _ _
    have S3 := Lib.hid s3
    have T3_ := Lib.hid t3
    have R3_ := Lib.hid r3
    have B4 := Lib.hid b4
    have X4 := Lib.hid x4
    clear hw3 hw4 s3 t3 r3 b4 x4
    go_wp2_with fail
    go_loopw [13] (fun i wr => ∃ k : Nat, k ≤ nn ∧ i = .int .i64 k ∧ ∃ v, wr.heap[w.heap.size]? = some (.cells #[.int .i64 c, .int .i64 f, .int .i64 ((m.made : Int) + 1), v] 75 (0, 0)) ∧ wr.ownsRow (w.heap.size + 1) 3 1 v k ((List.replicate k (0 : Int)).map (Value.int .i64)) ∧ Below w.heap.size w3 wr) (fun i _ => nn - (intOf i).toNat)
    case atStart => exact ⟨0, Nat.zero_le _, rfl, _, X4.out, World.ownsRow_nil _ _ _ _, B4.out⟩
    case round =>
      obtain ⟨k, hk, rfl, v, hxb, hown, hbw⟩ := hrel
      have hlx := lt_of_block hxb
      have hc3 : wr.cell? ⟨w.heap.size, 3, none⟩ = some v := by simp [World.cell?, hxb]
      have HXB := Lib.hid hxb
      have HOWN := Lib.hid hown
      have HBW := Lib.hid hbw
      by_cases hlt : k < nn
      · have z1 : decide (k < nn) = true := decide_eq_true hlt
        have HBX0 : Hid ((wr.alloc (.cells #[.int .i64 0] 3)).heap[w.heap.size]? = some (.cells #[.int .i64 c, .int .i64 f, .int .i64 ((m.made : Int) + 1), v] 75 (0, 0))) := by show _ = _; rw [Below.heap_alloc _ _ _ hlx]; exact hxb
        have hne : ∀ k, v.ownBlock = some k → k ≠ w.heap.size := fun k hk => by have := hown.lt k hk; omega
        have HNE := Lib.hid hne
        clear hne hxb hown hbw
        go_wp2_with (at_builtin; refine wpList_append_own _ rfl _ _ 23 rfl (w.heap.size + 1) 3 i0 (.int .i64 0) 1 8 Try.underlying23 hi hz0 hz1 hz2 rfl (by decide) _ _ _ rfl (HOWN.out.alloc _) ⟨wr.heap.size, 0, none⟩ 1 1 [.int .i64 0] rfl rfl (cells_newN _ _ _ _ (by simp)) (by simp [Value.oneCell']) (by unfold maxLen; omega) (by omega) (by simp only [World.size_alloc]; omega) ?_; intro v2 w5 hown3 hg2 _; obtain ⟨gq, cq, rfl, _, _⟩ := World.ownsRow.form hown3 (by omega); have hb5 := (hg2.block w.heap.size (by simp only [World.size_alloc]; omega) (fun q => HNE.out w.heap.size q.symm rfl)).trans HBX0.out; have hc5 : w5.cell? ⟨w.heap.size, 3, none⟩ = some v := by { simp [World.cell?, hb5] }; have hf5 : w5.frozen? ⟨w.heap.size, 3, none⟩ = false := by { simp [World.frozen?, hb5] }; have HB5 := Lib.hid hb5; have HG5 := Lib.hid hg2; have HO5 := Lib.hid hown3; clear hb5 hg2 hown3)
        go_roundw
        case rel =>
          refine ⟨k + 1, hlt, by go_num, .slice (some ⟨gq, 0, none⟩) (k + 1) cq, ?_, ?_, ?_⟩
          · rw [heap_setCell_same _ w.heap.size 3 _ _ _ HB5.out]; rfl
          · have := ownsRow_setCell_below HO5.out (a := ⟨w.heap.size, 3, none⟩) (by show w.heap.size < w.heap.size + 1; omega) (.slice (some ⟨gq, 0, none⟩) (k + 1) cq)
            rw [List.replicate_succ', List.map_append]
            exact this
          · have hb := below_of_append (HOWN.out.alloc (.cells #[.int .i64 0] 3)) HG5.out (by simp only [World.size_alloc]; omega)
            exact (((HBW.out.alloc (Nat.le_of_lt hlx) _).trans (hb.mono (Nat.le_succ _))).setCell (Nat.le_refl _) _)
        case measure => simp [intOf]; omega
      · have hkn : k = nn := by omega
        have z1 : decide (k < nn) = false := decide_eq_false hlt
        clear hlt
        subst hkn
        obtain ⟨a1, a2⟩ := H.out.apart1
        obtain ⟨VA, vc, rfl⟩ := own_slice hown
        have hxc0 : wr.cell? ⟨w.heap.size, 0, none⟩ = some (.int .i64 c) := by simp [World.cell?, hxb]
        have hxc1 : wr.cell? ⟨w.heap.size, 1, none⟩ = some (.int .i64 f) := by simp [World.cell?, hxb]
        have hxc2 : wr.cell? ⟨w.heap.size, 2, none⟩ = some (.int .i64 ((m.made : Int) + 1)) := by simp [World.cell?, hxb]
        have hrr : wr.heap[r]? = some (.cells #[.int .i64 (m.size : Int), .int .i64 ((m.made : Int) + 1), lv] 61 (0, 0)) := (hbw.block r (by omega)).trans R3_.out
        have hr2 : wr.cell? ⟨r, 2, none⟩ = some (.slice A nl cL) := by rw [← HNL.out, ← HLV.out]; simp [World.cell?, hrr]
        have hold : ∀ j, j < w.heap.size → j ≠ r → wr.heap[j]? = w.heap[j]? := fun j hj hne => (hbw.block j hj).trans (T3_.out.block j hj hne)
        have hz : w.heap.size < wr.heap.size := hlx
        have hol : wr.ownsRow 0 75 4 lv nl (rowsL nl 4 (objF m.L fv)) := by
          rw [← HNL.out]
          exact ownsRow_same H.out.own (Nat.le_of_lt hz) (fun j hj => hold j ((H.out.own.lt j hj).2) (fun e => a1 (by rw [hj, e])))
        have hlb : ∀ j, lv.ownBlock = some j → j < w.heap.size ∧ j ≠ r := fun j hj => ⟨(H.out.own.lt j hj).2, fun e => a1 (by rw [hj, e])⟩
        have hrA : (wr.alloc (.cells #[.int .i64 c, .int .i64 f, .int .i64 ((m.made : Int) + 1), .slice VA k vc] 75)).cell? ⟨r, 2, none⟩ = some (.slice A nl cL) := by rw [World.cell?_alloc_lt _ _ _ (by show r < _; omega)]; exact hr2
        have HV_ := Lib.hid hown
        have HBWR := Lib.hid hbw
        have HRR := Lib.hid hrr
        have HOL := Lib.hid hol
        have HLB := Lib.hid hlb
        have HOLD := Lib.hid hold
        have hlv2 : lv = .slice A nl cL := by rw [← HNL.out]; exact HLV.out
        have HLV2 := Lib.hid hlv2
        clear hrr hol hlb hold hxb hown hbw a1 a2 hlv2
        go_upto_region 13 with fail
        go_region_law (refine step_append_lies _ (by rfl) _ _ _ (by rfl) 0 75 j0 _ 4 48 Try.underlying59 hj hy0 hy1 hy2 rfl (by omega) (.slice A nl cL) nl (rowsL nl 4 (objF m.L fv)) (by rfl) (show World.ownsRow _ 0 75 4 (.slice A nl cL) nl _ by { rw [← HLV2.out]; exact (HOL.out.alloc _).drew }) ⟨wr.heap.size, 0, none⟩ 1 1 [.int .i64 c, .int .i64 f, .int .i64 ((m.made : Int) + 1), .slice VA k vc] (by rfl) (by rfl) (World.news_of_block (cs := #[.int .i64 c, .int .i64 f, .int .i64 ((m.made : Int) + 1), .slice VA k vc]) (t := 75) (fr := (0, 0)) (heap_alloc_new wr _)) (by simp [Value.oneCell']) (by omega) (by unfold maxLen; omega) (by omega) (by simp) (wr.heap.size + 1) (by simp) ?_; intro gg cap w6 hown6 hgrow hat6 hlt6; have hr6 := (hgrow.block r (by simp; omega) (fun e => (HLB.out r (by rw [HLV2.out]; exact e.symm)).2 rfl)).trans ((Below.heap_alloc _ _ _ (by omega)).trans HRR.out); have hc6 : w6.cell? ⟨r, 2, none⟩ = some lv := by { simp [World.cell?, hr6] }; have hf6 : w6.frozen? ⟨r, 2, none⟩ = false := by { simp [World.frozen?, hr6] }; have HR6 := Lib.hid hr6; have HG6 := Lib.hid hgrow; have HO6 := Lib.hid hown6; have HA6 := Lib.hid hat6; clear hr6 hgrow hown6 hat6)
        all_goals
          go_wp2_with fail
          go_ret2
          have hszw : wr.heap.size < w6.heap.size := Nat.lt_of_lt_of_le (by simp) HG6.out.size
          have hvk : ∀ j, (Value.slice VA k vc).ownBlock = some j → w.heap.size + 1 ≤ j := fun j hj => (HV_.out.lt j hj).1
          have hne6 : ∀ j, j < wr.heap.size → lv.ownBlock ≠ some j → w6.heap[j]? = wr.heap[j]? := fun j hj hne => (HG6.out.block j (by simp; omega) (fun e => hne (by rw [HLV2.out]; exact e.symm))).trans (Below.heap_alloc _ _ _ hj)
          have hv6 : w6.ownsRow (w.heap.size + 1) 3 1 (.slice VA k vc) k ((List.replicate k (0 : Int)).map (Value.int .i64)) := ownsRow_same HV_.out (Nat.le_of_lt hszw) (fun j hj => hne6 j (HV_.out.lt j hj).2 (fun e => by have := (HLB.out j e).1; have := hvk j hj; omega))
          have t5 : Turns R w wr := (T3_.out.mono (T := R) (fun j _ e => by subst e; exact H.out.inR.1)).trans (Turns.of_below (by rw [S3.out]; exact HBWR.out))
          have t6 : Turns R w w6 := ⟨HG6.out.os.trans t5.os, HG6.out.tape.trans t5.tape, HG6.out.output.trans t5.output, Nat.le_trans t5.size (Nat.le_of_lt hszw), fun j hj hn => (hne6 j (Nat.lt_of_lt_of_le hj t5.size) (fun e => hn (H.out.inR.2.1 j e))).trans (t5.block j hj hn)⟩
          refine ⟨by rw [HPTR.out]; rfl, _, _, _, H.out.push (o := newO c f ((m.made : Int) + 1) k) (v := .slice VA k vc) (lv' := .slice (some ⟨gg, 0, none⟩) (nl + 1) cap) rfl HG.out ?_ ?_ ?_ ?_ ?_ ?_, ?_, ?_⟩
          · rw [heap_setCell_same w6 r 2 _ _ _ HR6.out]; rfl
          · rw [HNL.out]
            refine ownsRow_setCell_other HO6.out (fun e => ?_) _
            have e' : gg = r := by cases e; rfl
            rcases HA6.out with q | q
            · exact (HLB.out gg (by rw [HLV2.out]; exact q)).2 e'
            · omega
          · show World.ownsRow _ _ _ _ _ (List.replicate k (0 : Int)).length _
            rw [List.length_replicate]
            exact ownsRow_mono (ownsRow_setCell_other hv6 (fun e => by have := hvk _ e; have : (⟨r, 2, none⟩ : Addr).block = r := rfl; omega) _) (Nat.le_succ _)
          · intro j hj hjr hjl
            rw [Below.heap_setCell _ _ _ _ hjr, hne6 j (Nat.lt_trans (H.out.lt j hj) (by omega)) hjl]
            exact HOLD.out j (H.out.lt j hj) hjr
          · rcases HA6.out with q | q
            · exact .inl (by rw [HLV2.out, q]; rfl)
            · exact .inr ⟨gg, rfl, by omega⟩
          · simp; omega
          · exact t6.setCell _ _ H.out.inR.1
          · rintro j (hj | hj)
            · exact .inl hj
            · exact .inr hj.1

set_option maxRecDepth 100000 in
set_option maxHeartbeats 16000000 in
theorem rmake_any {w : World} {R : Nat → Prop} {r : Nat} {m : Hp} {lv : Value} {fv : Nat → Value} (h : RM w R r m lv fv) (c f n : Int) (hc : InI c) (hff : InI f) (hn : InI n) : Calls Try.prog 26 #[.pointer (some ⟨r, 0, none⟩), .int .i64 c, .int .i64 f, .int .i64 n] w (fun e w' => e = .returned (.tuple #[.int .i64 (makeV m c f n).2.1, .int .i64 (makeV m c f n).2.2]) ∧ RPost R r (makeV m c f n).1 w w') := by
  have H := Lib.hid h
  obtain ⟨pl, hv⟩ : ∃ pl, plcV m.L c = pl := ⟨_, rfl⟩
  have HPL := Lib.hid hv
  cases hcl : (decide (c = 0) || isV m.L c)
  · have c0_ : ¬ c = 0 := by simp only [Bool.or_eq_false_iff, decide_eq_false_iff_not] at hcl; exact hcl.1
    have e0 : (c == 0) = false := by simpa using c0_
    have e1 : decide (0 ≤ pl) = false := by rw [← hv, plcV_is]; simp only [Bool.or_eq_false_iff] at hcl; exact hcl.2
    have e2 : ¬ 0 ≤ pl := of_decide_eq_false e1
    have HV : Hid (makeV m c f n = (m, 0, 1)) := by show _ = _; unfold makeV; rw [if_pos (by unfold badM; rw [hcl]; simp [*])]
    rw [HV.out]
    clear h hcl hc hn hff hv
    go_enter Try.func26, Try.ntmps26
    go_wp2_with (first | (go_at_call 65; (with_reducible refine (rplace_any H.out c).mono ?_); rw [HPL.out]; rintro e w1 ⟨rfl, hw1⟩; replace hw1 := hw1.symm; subst hw1))
    go_ret2
    exact ⟨rfl, R, lv, fv, H.out, Turns.refl _ _, fun k hk => .inl hk⟩
  have hcc : c = 0 ∨ (¬ c = 0 ∧ 0 ≤ pl) := by
    by_cases q : c = 0
    · exact .inl q
    · refine .inr ⟨q, ?_⟩
      rw [decide_eq_false q, Bool.false_or, ← plcV_is, hv] at hcl
      exact of_decide_eq_true hcl
  rcases hcc with c0_ | ⟨c0_, c1_⟩
  rotate_left
  · have e0 : (c == 0) = false := by simpa using c0_
    have e1 : decide (0 ≤ pl) = true := decide_eq_true c1_
    by_cases q0 : f < 0
    · have d0 : decide (f < 0) = true := decide_eq_true q0
      have HV : Hid (makeV m c f n = (m, 0, 1)) := by show _ = _; unfold makeV; rw [if_pos (by unfold badM; rw [hcl]; simp [*])]
      rw [HV.out]
      clear h hcl hc hn hff hv
      go_enter Try.func26, Try.ntmps26
      go_wp2_with (first | (go_at_call 65; (with_reducible refine (rplace_any H.out c).mono ?_); rw [HPL.out]; rintro e w1 ⟨rfl, hw1⟩; replace hw1 := hw1.symm; subst hw1))
      go_ret2
      exact ⟨rfl, R, lv, fv, H.out, Turns.refl _ _, fun k hk => .inl hk⟩
    have d0 : decide (f < 0) = false := decide_eq_false q0
    by_cases q1 : 2 < f
    · have d1 : decide (2 < f) = true := decide_eq_true q1
      have HV : Hid (makeV m c f n = (m, 0, 1)) := by show _ = _; unfold makeV; rw [if_pos (by unfold badM; rw [hcl]; simp [*])]
      rw [HV.out]
      clear h hcl hc hn hff hv
      go_enter Try.func26, Try.ntmps26
      go_wp2_with (first | (go_at_call 65; (with_reducible refine (rplace_any H.out c).mono ?_); rw [HPL.out]; rintro e w1 ⟨rfl, hw1⟩; replace hw1 := hw1.symm; subst hw1))
      go_ret2
      exact ⟨rfl, R, lv, fv, H.out, Turns.refl _ _, fun k hk => .inl hk⟩
    have d1 : decide (2 < f) = false := decide_eq_false q1
    by_cases q2 : n < 0
    · have d2 : decide (n < 0) = true := decide_eq_true q2
      have HV : Hid (makeV m c f n = (m, 0, 1)) := by show _ = _; unfold makeV; rw [if_pos (by unfold badM; rw [hcl]; simp [*])]
      rw [HV.out]
      clear h hcl hc hn hff hv
      go_enter Try.func26, Try.ntmps26
      go_wp2_with (first | (go_at_call 65; (with_reducible refine (rplace_any H.out c).mono ?_); rw [HPL.out]; rintro e w1 ⟨rfl, hw1⟩; replace hw1 := hw1.symm; subst hw1))
      go_ret2
      exact ⟨rfl, R, lv, fv, H.out, Turns.refl _ _, fun k hk => .inl hk⟩
    have d2 : decide (n < 0) = false := decide_eq_false q2
    by_cases q3 : 256 < n
    · have d3 : decide (256 < n) = true := decide_eq_true q3
      have HV : Hid (makeV m c f n = (m, 0, 1)) := by show _ = _; unfold makeV; rw [if_pos (by unfold badM; rw [hcl]; simp [*])]
      rw [HV.out]
      clear h hcl hc hn hff hv
      go_enter Try.func26, Try.ntmps26
      go_wp2_with (first | (go_at_call 65; (with_reducible refine (rplace_any H.out c).mono ?_); rw [HPL.out]; rintro e w1 ⟨rfl, hw1⟩; replace hw1 := hw1.symm; subst hw1))
      go_ret2
      exact ⟨rfl, R, lv, fv, H.out, Turns.refl _ _, fun k hk => .inl hk⟩
    have d3 : decide (256 < n) = false := decide_eq_false q3
    exact rmake_in h c f n hc hff hn pl hv hcl false e0 (fun _ => e1) q0 q1 q2 q3
  · have e0 : (c == 0) = true := by simpa using c0_
    have e1 : True := trivial
    by_cases q0 : f < 0
    · have d0 : decide (f < 0) = true := decide_eq_true q0
      have HV : Hid (makeV m c f n = (m, 0, 1)) := by show _ = _; unfold makeV; rw [if_pos (by unfold badM; rw [hcl]; simp [*])]
      rw [HV.out]
      clear h hcl hc hn hff hv
      go_enter Try.func26, Try.ntmps26
      go_wp2_with (first | (go_at_call 65; (with_reducible refine (rplace_any H.out c).mono ?_); rw [HPL.out]; rintro e w1 ⟨rfl, hw1⟩; replace hw1 := hw1.symm; subst hw1))
      go_ret2
      exact ⟨rfl, R, lv, fv, H.out, Turns.refl _ _, fun k hk => .inl hk⟩
    have d0 : decide (f < 0) = false := decide_eq_false q0
    by_cases q1 : 2 < f
    · have d1 : decide (2 < f) = true := decide_eq_true q1
      have HV : Hid (makeV m c f n = (m, 0, 1)) := by show _ = _; unfold makeV; rw [if_pos (by unfold badM; rw [hcl]; simp [*])]
      rw [HV.out]
      clear h hcl hc hn hff hv
      go_enter Try.func26, Try.ntmps26
      go_wp2_with (first | (go_at_call 65; (with_reducible refine (rplace_any H.out c).mono ?_); rw [HPL.out]; rintro e w1 ⟨rfl, hw1⟩; replace hw1 := hw1.symm; subst hw1))
      go_ret2
      exact ⟨rfl, R, lv, fv, H.out, Turns.refl _ _, fun k hk => .inl hk⟩
    have d1 : decide (2 < f) = false := decide_eq_false q1
    by_cases q2 : n < 0
    · have d2 : decide (n < 0) = true := decide_eq_true q2
      have HV : Hid (makeV m c f n = (m, 0, 1)) := by show _ = _; unfold makeV; rw [if_pos (by unfold badM; rw [hcl]; simp [*])]
      rw [HV.out]
      clear h hcl hc hn hff hv
      go_enter Try.func26, Try.ntmps26
      go_wp2_with (first | (go_at_call 65; (with_reducible refine (rplace_any H.out c).mono ?_); rw [HPL.out]; rintro e w1 ⟨rfl, hw1⟩; replace hw1 := hw1.symm; subst hw1))
      go_ret2
      exact ⟨rfl, R, lv, fv, H.out, Turns.refl _ _, fun k hk => .inl hk⟩
    have d2 : decide (n < 0) = false := decide_eq_false q2
    by_cases q3 : 256 < n
    · have d3 : decide (256 < n) = true := decide_eq_true q3
      have HV : Hid (makeV m c f n = (m, 0, 1)) := by show _ = _; unfold makeV; rw [if_pos (by unfold badM; rw [hcl]; simp [*])]
      rw [HV.out]
      clear h hcl hc hn hff hv
      go_enter Try.func26, Try.ntmps26
      go_wp2_with (first | (go_at_call 65; (with_reducible refine (rplace_any H.out c).mono ?_); rw [HPL.out]; rintro e w1 ⟨rfl, hw1⟩; replace hw1 := hw1.symm; subst hw1))
      go_ret2
      exact ⟨rfl, R, lv, fv, H.out, Turns.refl _ _, fun k hk => .inl hk⟩
    have d3 : decide (256 < n) = false := decide_eq_false q3
    exact rmake_in h c f n hc hff hn pl hv hcl true e0 (fun q => by cases q) q0 q1 q2 q3
end Go.Proofs.Ytfinpgkehjbcpaa
