/- Chapter 02: what a deed leaves as it was; stores. -/
import Derived.Test.YtfinpgkehjbcpaaHDeeds
import Derived.Test.YtfinpgkehjbcpaaHMaps
namespace Go.Proofs.Ytfinpgkehjbcpaa
open Go.ChangeShapes Go.WideShapes Go.ChangeAt Go.RowKit Go.Deep Go.Joins Go.Maps
set_option linter.unusedVariables false
set_option linter.unusedSimpArgs false

/-- all blocks but those of S are as they were -/
structure Turns (S : Nat → Prop) (w w' : World) : Prop where
  os : w'.os = w.os
  tape : w'.tape = w.tape
  output : w'.output = w.output
  size : w.heap.size ≤ w'.heap.size
  block : ∀ k, k < w.heap.size → ¬ S k → w'.heap[k]? = w.heap[k]?
section
variable {S T : Nat → Prop} {w w' w'' : World}
theorem Turns.refl (S : Nat → Prop) (w : World) : Turns S w w := ⟨rfl, rfl, rfl, Nat.le_refl _, fun _ _ _ => rfl⟩
theorem Turns.drewN (h : Turns S w w') (n : Nat) : Turns S w (w'.drewN n) := ⟨h.os, h.tape, h.output, h.size, h.block⟩
theorem Turns.trans (h : Turns S w w') (k : Turns S w' w'') : Turns S w w'' := ⟨k.os.trans h.os, k.tape.trans h.tape, k.output.trans h.output, Nat.le_trans h.size k.size, fun j hj hs => (k.block j (Nat.lt_of_lt_of_le hj h.size) hs).trans (h.block j hj hs)⟩
theorem Turns.mono (h : Turns S w w') (hs : ∀ k, k < w.heap.size → S k → T k) : Turns T w w' := ⟨h.os, h.tape, h.output, h.size, fun k hk ht => h.block k hk (fun q => ht (hs k hk q))⟩
theorem Turns.setCell (h : Turns S w w') (a : Addr) (v : Value) (ha : S a.block) : Turns S w (w'.setCell a v) := ⟨h.os, h.tape, h.output, by simpa using h.size, fun k hk hs => by rw [Below.heap_setCell _ _ _ _ (fun e => hs (by rw [e]; exact ha))]; exact h.block k hk hs⟩
theorem Turns.of_below (h : Below w.heap.size w w') : Turns S w w' := ⟨h.os, h.tape, h.output, h.size, fun k hk _ => h.block k hk⟩
theorem Turns.below (h : Turns S w w') {B : Nat} (hs : ∀ k, S k → B ≤ k) (hB : B ≤ w.heap.size) : Below B w w' := ⟨h.os, h.tape, h.output, h.size, fun k hk => h.block k (Nat.lt_of_lt_of_le hk hB) (fun q => by have := hs k q; omega)⟩
end
def pset (s bw bm : Nat) (k : Nat) : Prop := k = s ∨ k = bw ∨ k = bm
section
variable {w w' : World} {s bw bm : Nat} {m : Hp}
theorem BoolMap.block {b n : Nat} {f : Int → Bool} (h : BoolMap w b n f) : ∃ es clock, w.heap[b]? = some (.map es clock) := by
  obtain ⟨D, ⟨es, clock, h1, _⟩, _⟩ := h
  exact ⟨es, clock, h1⟩
theorem PM.ne (h : PM w s bw bm m) : s ≠ bw ∧ s ≠ bm ∧ bw ≠ bm := by
  obtain ⟨ys, y1, y2, y3⟩ := h.row
  obtain ⟨n, f, m1, m2, m3⟩ := h.map
  obtain ⟨es, clock, m4⟩ := m2.block
  refine ⟨fun e => ?_, fun e => ?_, fun e => ?_⟩
  · have := h.box; rw [e, y3] at this; simp at this
  · have := h.box; rw [e, m4] at this; simp at this
  · rw [e, m4] at y3; simp at y3
theorem PM.lt (h : PM w s bw bm m) : ∀ k, pset s bw bm k → k < w.heap.size := by
  obtain ⟨ys, y1, y2, y3⟩ := h.row
  obtain ⟨n, f, m1, m2, m3⟩ := h.map
  rintro k (rfl | rfl | rfl)
  · exact lt_of_block h.box
  · exact lt_of_block y3
  · exact m2.lt
theorem PM.turns (h : PM w s bw bm m) {T : Nat → Prop} (ht : Turns T w w') (hd : ∀ k, pset s bw bm k → ¬ T k) : PM w' s bw bm m :=
  h.same (ht.block _ (h.lt _ (.inl rfl)) (hd _ (.inl rfl))) (ht.block _ (h.lt _ (.inr (.inl rfl))) (hd _ (.inr (.inl rfl)))) (ht.block _ (h.lt _ (.inr (.inr rfl))) (hd _ (.inr (.inr rfl))))
theorem PM.free (h : PM w s bw bm m) (k : Nat) : w.frozen? ⟨bw, k, none⟩ = false := by
  obtain ⟨ys, y1, y2, y3⟩ := h.row
  exact ints_free y3 k
theorem PM.freeS (h : PM w s bw bm m) (k : Nat) : w.frozen? ⟨s, k, none⟩ = false := by simp [World.frozen?, h.box]
/-- a word of an object is stored -/
theorem PM.store (h : PM w s bw bm m) {i k : Nat} (hi : i < m.L.length) (hk : k < m.L[i].F.length + 3) {o' : Ob} {x : Int} (ho : encO o' = (encO m.L[i]).set k x) (hl : o'.F.length = m.L[i].F.length) (hg : Good { m with L := m.L.set i o' }) :
    PM (w.setCell ⟨bw, adr m.L i + k, none⟩ (.int .i64 x)) s bw bm { m with L := m.L.set i o' } := by
  obtain ⟨n1, n2, n3⟩ := h.ne
  obtain ⟨ys, y1, y2, y3⟩ := h.row
  obtain ⟨n, f, m1, m2, m3⟩ := h.map
  have hla := set_lens hi hl
  refine ⟨hg, ?_, ⟨ys.set (adr m.L i + k) x, by simpa using y1, words_set y2 hi hk ho, ?_⟩, n, f, by simpa using m1, m2.same (Below.heap_setCell _ _ _ _ (fun e => n3 e.symm)), fun a ha => ?_⟩
  · rw [Below.heap_setCell _ _ _ _ n1, h.box]
    show some (Obj.cells #[_, .int .i64 (adr m.L m.L.length : Int), _, _] _ _) = some (Obj.cells #[_, .int .i64 (adr (m.L.set i o') (m.L.set i o').length : Int), _, _] _ _)
    rw [adr_congr hla, List.length_set]
  · rw [heap_setCell_same w bw (adr m.L i + k) _ _ _ y3, List.map_set]
    simp
  · rw [m3 a ha]
    show (∃ j, j < m.L.length ∧ (adr m.L j : Int) = a) ↔ ∃ j, j < (m.L.set i o').length ∧ (adr (m.L.set i o') j : Int) = a
    rw [List.length_set]
    simp only [adr_congr hla]
theorem PM.setMade (h : PM w s bw bm m) (n : Nat) (hn : n ≤ 1099511627776) : PM (w.setCell ⟨s, 2, none⟩ (.int .i64 (n : Int))) s bw bm { m with made := n } := by
  obtain ⟨n1, n2, n3⟩ := h.ne
  obtain ⟨ys, y1, y2, y3⟩ := h.row
  obtain ⟨k, f, m1, m2, m3⟩ := h.map
  have g := h.good
  refine ⟨⟨g.lo, g.hi, hn, g.fits, g.fmt, g.len, g.word⟩, ?_, ⟨ys, y1, y2, ?_⟩, k, f, m1, m2.same (Below.heap_setCell _ _ _ _ (fun e => n2 e.symm)), m3⟩
  · rw [heap_setCell_same w s 2 _ _ _ h.box]; rfl
  · rw [Below.heap_setCell _ _ _ _ (fun e => n1 e.symm)]; exact y3
end
end Go.Proofs.Ytfinpgkehjbcpaa
/- Chapter 02: contracts of the program's setters. -/
namespace Go.Proofs.Ytfinpgkehjbcpaa
open Go.ChangeShapes Go.WideShapes Go.ChangeAt Go.RowKit Go.Deep Go.Joins Go.Maps
set_option linter.unusedVariables false
set_option linter.unusedSimpArgs false

set_option maxRecDepth 100000 in
set_option maxHeartbeats 8000000 in
theorem setMade_any {w : World} {s bw bm : Nat} {m : Hp} (h : PM w s bw bm m) (n : Int) (hn : InI n) : Calls Try.prog 88 #[.pointer (some ⟨s, 0, none⟩), .int .i64 n] w (fun e w' => e = .returned (.int .i64 (setMadeV m n).2) ∧ PM w' s bw bm (setMadeV m n).1 ∧ Turns (pset s bw bm) w w') := by
  have c2 := h.c2
  have fs := h.freeS 2
  unfold InI at hn
  obtain ⟨hn1, hn2⟩ := hn
  by_cases x1 : n < (m.made : Int)
  · have d1 : decide (n < (m.made : Int)) = true := decide_eq_true x1
    have HV : Hid (setMadeV m n = (m, 1)) := if_pos (.inl x1)
    rw [HV.out]
    have H := Lib.hid h
    clear h
    go_enter Try.func88, Try.ntmps88
    go_wp2_with fail
    go_ret
    exact ⟨rfl, H.out, Turns.refl _ _⟩
  · have d1 : decide (n < (m.made : Int)) = false := decide_eq_false x1
    by_cases x2 : 1099511627776 < n
    · have d2 : decide (1099511627776 < n) = true := decide_eq_true x2
      have HV : Hid (setMadeV m n = (m, 1)) := if_pos (.inr x2)
      rw [HV.out]
      have H := Lib.hid h
      clear h
      go_enter Try.func88, Try.ntmps88
      go_wp2_with fail
      go_ret
      exact ⟨rfl, H.out, Turns.refl _ _⟩
    · have d2 : decide (1099511627776 < n) = false := decide_eq_false x2
      have HV : Hid (setMadeV m n = (_, 0)) := if_neg (by omega)
      rw [HV.out]
      have H := Lib.hid h
      obtain ⟨k, rfl⟩ : ∃ k : Nat, n = (k : Int) := ⟨n.toNat, by omega⟩
      clear h
      go_enter Try.func88, Try.ntmps88
      go_wp2_with fail
      go_ret
      exact ⟨rfl, H.out.setMade k (by omega), (Turns.refl _ _).setCell _ _ (.inl rfl)⟩

set_option maxRecDepth 100000 in
set_option maxHeartbeats 8000000 in
theorem setHash_any {w : World} {s bw bm : Nat} {m : Hp} (h : PM w s bw bm m) (a x : Int) (hx : InI x) : Calls Try.prog 87 #[.pointer (some ⟨s, 0, none⟩), .int .i64 a, .int .i64 x] w (fun e w' => e = .returned (.int .i64 (setHashV m a x).2) ∧ PM w' s bw bm (setHashV m a x).1 ∧ Turns (pset s bw bm) w w') := by
  obtain ⟨t, ht⟩ : ∃ t, atN m.L a = t := ⟨_, rfl⟩
  have HT := Lib.hid ht
  have H := Lib.hid h
  unfold InI at hx
  obtain ⟨hx1, hx2⟩ := hx
  cases hv : isV m.L a
  · have HV : Hid (setHashV m a x = (m, 1)) := by show _ = _; unfold setHashV; rw [hv]; rfl
    rw [HV.out]
    obtain rfl : t = 0 := by rw [← ht]; exact (atN_no hv).1
    clear h ht hv
    go_enter Try.func87, Try.ntmps87
    go_wp2_with (go_at_call 66; (with_reducible refine (at_any H.out a).mono ?_); rw [HT.out]; rintro e w1 ⟨rfl, n1, rfl⟩)
    go_ret
    exact ⟨rfl, H.out.drewN _, (Turns.refl _ _).drewN _⟩
  · have h3 := atN_pos (m := m) hv
    rw [ht] at h3
    have e0 : ((t : Int) == 0) = false := by simp; omega
    by_cases x1 : x < -1099511627776
    · have d1 : decide (x < -1099511627776) = true := decide_eq_true x1
      have HV : Hid (setHashV m a x = (m, 1)) := by show _ = _; unfold setHashV; rw [hv, if_pos rfl, if_pos (.inl x1)]
      rw [HV.out]
      clear h ht hv
      go_enter Try.func87, Try.ntmps87
      go_wp2_with (go_at_call 66; (with_reducible refine (at_any H.out a).mono ?_); rw [HT.out]; rintro e w1 ⟨rfl, n1, rfl⟩)
      go_ret
      exact ⟨rfl, H.out.drewN _, (Turns.refl _ _).drewN _⟩
    · have d1 : decide (x < -1099511627776) = false := decide_eq_false x1
      by_cases x2 : 1099511627776 < x
      · have d2 : decide (1099511627776 < x) = true := decide_eq_true x2
        have HV : Hid (setHashV m a x = (m, 1)) := by show _ = _; unfold setHashV; rw [hv, if_pos rfl, if_pos (.inr x2)]
        rw [HV.out]
        clear h ht hv
        go_enter Try.func87, Try.ntmps87
        go_wp2_with (go_at_call 66; (with_reducible refine (at_any H.out a).mono ?_); rw [HT.out]; rintro e w1 ⟨rfl, n1, rfl⟩)
        go_ret
        exact ⟨rfl, H.out.drewN _, (Turns.refl _ _).drewN _⟩
      · have d2 : decide (1099511627776 < x) = false := decide_eq_false x2
        obtain ⟨i, hi, hp, hae, e1, e2⟩ := atN_yes hv
        clear hae
        have HV : Hid (setHashV m a x = ({ m with L := m.L.set i ⟨m.L[i].cls, m.L[i].fmt, x, m.L[i].F⟩ }, 0)) := by show _ = _; unfold setHashV; rw [hv, if_pos rfl, if_neg (by omega), updL_yes hp hi]
        rw [HV.out]
        have hg : Good { m with L := m.L.set i ⟨m.L[i].cls, m.L[i].fmt, x, m.L[i].F⟩ } := h.good.set hi rfl (show 0 ≤ m.L[i].fmt ∧ m.L[i].fmt ≤ 2 from h.good.fmt _ (List.getElem_mem hi)) (by have := h.good.word _ (List.getElem_mem hi); exact ⟨this.1, ⟨by show _ ≤ x; omega, by show x ≤ _; omega⟩, this.2.2⟩)
        have HG := Lib.hid hg
        have HST : Hid (∀ n, PM ((w.drewN n).setCell ⟨bw, t + 2, none⟩ (.int .i64 x)) s bw bm { m with L := m.L.set i ⟨m.L[i].cls, m.L[i].fmt, x, m.L[i].F⟩ }) := fun n => by
          have := (h.drewN n).store hi (show 2 < m.L[i].F.length + 3 by omega) (o' := ⟨m.L[i].cls, m.L[i].fmt, x, m.L[i].F⟩) rfl rfl hg
          rw [← e1, ht] at this
          exact this
        have c0 := h.c0
        obtain ⟨hc, hlt⟩ := h.head a (show 2 < 3 by decide)
        have fb := h.free (t + 2)
        rw [ht] at hc hlt
        have hsz := h.good.hi
        have g0 : (0 : Int) ≤ (t : Int) + 2 := by omega
        have g1 : (t : Int) + 2 < (m.size : Int) := by omega
        have g2 : ((t : Int) + 2).toNat = t + 2 := by omega
        clear h ht hv hg e1 e2 hp
        go_enter Try.func87, Try.ntmps87
        go_wp2_with (go_at_call 66; (with_reducible refine (at_any H.out a).mono ?_); rw [HT.out]; rintro e w1 ⟨rfl, n1, rfl⟩)
        go_ret
        exact ⟨rfl, HST.out _, ((Turns.refl _ _).drewN _).setCell _ _ (.inr (.inl rfl))⟩

set_option maxRecDepth 100000 in
set_option maxHeartbeats 8000000 in
theorem mayClass_any {w : World} {s bw bm : Nat} {m : Hp} (h : PM w s bw bm m) (c : Int) : Calls Try.prog 62 #[.pointer (some ⟨s, 0, none⟩), .int .i64 c] w fun e w' => e = .returned (.bool (decide (c = 0) || isV m.L c)) ∧ ∃ n, w' = w.drewN n := by
  obtain ⟨v, hv⟩ : ∃ v, isV m.L c = v := ⟨_, rfl⟩
  have HI := Lib.hid hv
  have H := Lib.hid h
  rw [hv]
  clear h hv
  by_cases h0 : c = 0
  · have e0 : (c == 0) = true := by simpa using h0
    have HC : Hid ((decide (c = 0) || v) = true) := by show _ = _; rw [decide_eq_true h0]; rfl
    clear h0
    go_enter Try.func62, Try.ntmps62
    go_wp2_with fail
    go_ret
    exact ⟨ret_bool HC.out.symm, 0, rfl⟩
  · have e0 : (c == 0) = false := by simpa using h0
    have HC : Hid ((decide (c = 0) || v) = v) := by show _ = _; rw [decide_eq_false h0]; rfl
    clear h0
    go_enter Try.func62, Try.ntmps62
    go_wp2_with (go_at_call 70; (with_reducible refine (is_any (by first | exact H.out | exact H.out.drewN _ | exact (H.out.drewN _).drewN _) c).mono ?_); rw [HI.out]; rintro e w2 ⟨rfl, n2, rfl⟩)
    go_ret
    exact ⟨ret_bool HC.out.symm, _, rfl⟩

set_option maxRecDepth 100000 in
set_option maxHeartbeats 8000000 in
theorem setClass_any {w : World} {s bw bm : Nat} {m : Hp} (h : PM w s bw bm m) (a c : Int) (hc : InI c) : Calls Try.prog 28 #[.pointer (some ⟨s, 0, none⟩), .int .i64 a, .int .i64 c] w (fun e w' => e = .returned (.int .i64 (setClassV m a c).2) ∧ PM w' s bw bm (setClassV m a c).1 ∧ Turns (pset s bw bm) w w') := by
  obtain ⟨t, ht⟩ : ∃ t, atN m.L a = t := ⟨_, rfl⟩
  have HT := Lib.hid ht
  have H := Lib.hid h
  unfold InI at hc
  cases hv : isV m.L a
  · have HV : Hid (setClassV m a c = (m, 1)) := by show _ = _; unfold setClassV; rw [hv]; rfl
    rw [HV.out]
    obtain rfl : t = 0 := by rw [← ht]; exact (atN_no hv).1
    clear h ht hv hc
    go_enter Try.func28, Try.ntmps28
    go_wp2_with (go_at_call 66; (with_reducible refine (at_any H.out a).mono ?_); rw [HT.out]; rintro e w1 ⟨rfl, n1, rfl⟩)
    go_ret
    exact ⟨rfl, H.out.drewN _, (Turns.refl _ _).drewN _⟩
  · have h3 := atN_pos (m := m) hv
    rw [ht] at h3
    have e0 : ((t : Int) == 0) = false := by simp; omega
    cases hcl : (decide (c = 0) || isV m.L c)
    · have HC := Lib.hid hcl
      have HV : Hid (setClassV m a c = (m, 1)) := by
        show _ = _; unfold setClassV; rw [hv, if_pos rfl, if_neg]
        simpa using hcl
      rw [HV.out]
      clear h ht hv hcl hc
      go_enter Try.func28, Try.ntmps28
      go_wp2_with (first | (go_at_call 66; (with_reducible refine (at_any H.out a).mono ?_); rw [HT.out]; rintro e w1 ⟨rfl, n1, rfl⟩) | (go_at_call 62; (with_reducible refine (mayClass_any (H.out.drewN _) c).mono ?_); rw [HC.out]; rintro e w2 ⟨rfl, n2, rfl⟩))
      go_ret
      exact ⟨rfl, H.out.drewN _, (Turns.refl _ _).drewN _⟩
    · have HC := Lib.hid hcl
      obtain ⟨i, hi, hp, hae, e1, e2⟩ := atN_yes hv
      clear hae
      have HV : Hid (setClassV m a c = ({ m with L := m.L.set i ⟨c, m.L[i].fmt, m.L[i].hash, m.L[i].F⟩ }, 0)) := by
        show _ = _; unfold setClassV; rw [hv, if_pos rfl, if_pos (by simpa using hcl), updL_yes hp hi]
      rw [HV.out]
      have hg : Good { m with L := m.L.set i ⟨c, m.L[i].fmt, m.L[i].hash, m.L[i].F⟩ } := h.good.set hi rfl (show 0 ≤ m.L[i].fmt ∧ m.L[i].fmt ≤ 2 from h.good.fmt _ (List.getElem_mem hi)) (by have := h.good.word _ (List.getElem_mem hi); exact ⟨hc, this.2.1, this.2.2⟩)
      have HST : Hid (∀ n, PM ((w.drewN n).setCell ⟨bw, t + 1, none⟩ (.int .i64 c)) s bw bm { m with L := m.L.set i ⟨c, m.L[i].fmt, m.L[i].hash, m.L[i].F⟩ }) := fun n => by
        have := (h.drewN n).store hi (show 1 < m.L[i].F.length + 3 by omega) (o' := ⟨c, m.L[i].fmt, m.L[i].hash, m.L[i].F⟩) rfl rfl hg
        rw [← e1, ht] at this
        exact this
      have c0 := h.c0
      obtain ⟨hcc, hlt⟩ := h.head a (show 1 < 3 by decide)
      have fb := h.free (t + 1)
      rw [ht] at hcc hlt
      have hsz := h.good.hi
      have g0 : (0 : Int) ≤ (t : Int) + 1 := by omega
      have g1 : (t : Int) + 1 < (m.size : Int) := by omega
      have g2 : ((t : Int) + 1).toNat = t + 1 := by omega
      clear h ht hv hg e1 e2 hp hcl hc
      go_enter Try.func28, Try.ntmps28
      go_wp2_with (first | (go_at_call 66; (with_reducible refine (at_any H.out a).mono ?_); rw [HT.out]; rintro e w1 ⟨rfl, n1, rfl⟩) | (go_at_call 62; (with_reducible refine (mayClass_any (H.out.drewN _) c).mono ?_); rw [HC.out]; rintro e w2 ⟨rfl, n2, rfl⟩))
      go_ret
      exact ⟨rfl, HST.out _, ((Turns.refl _ _).drewN _).setCell _ _ (.inr (.inl rfl))⟩

set_option maxRecDepth 100000 in
set_option maxHeartbeats 8000000 in
theorem put_any {w : World} {s bw bm : Nat} {m : Hp} (h : PM w s bw bm m) (a i x : Int) (hi : InI i) (hx : InI x) : Calls Try.prog 30 #[.pointer (some ⟨s, 0, none⟩), .int .i64 a, .int .i64 i, .int .i64 x] w (fun e w' => e = .returned (.int .i64 (putV m a i x).2) ∧ PM w' s bw bm (putV m a i x).1 ∧ Turns (pset s bw bm) w w') := by
  have H := Lib.hid h
  cases hv : isV m.L a
  · have HF : Hid (fieldV m.L a i = (0, 1)) := by show _ = _; unfold fieldV; rw [hv]; rfl
    have HV : Hid (putV m a i x = (m, 1)) := by show _ = _; unfold putV; rw [hv]; rfl
    rw [HV.out]
    clear h hv hx
    go_enter Try.func30, Try.ntmps30
    go_wp2_with (first | (go_at_call 67; (with_reducible refine (field_any H.out a i hi).mono ?_); rw [HF.out]; rintro e w1 ⟨rfl, n1, rfl⟩))
    go_ret
    exact ⟨rfl, by first | exact H.out.drewN _ | exact (H.out.drewN _).drewN _, by first | exact (Turns.refl _ _).drewN _ | exact ((Turns.refl _ _).drewN _).drewN _⟩
  by_cases c1 : i < 0 ∨ ((lookO m.L a).F.length : Int) ≤ i
  · have HF : Hid (fieldV m.L a i = (0, 5)) := by show _ = _; unfold fieldV; rw [hv, if_pos rfl, if_pos c1]
    have HV : Hid (putV m a i x = (m, 5)) := by show _ = _; unfold putV; rw [hv, if_pos rfl, if_pos c1]
    rw [HV.out]
    clear h hv hx c1
    go_enter Try.func30, Try.ntmps30
    go_wp2_with (first | (go_at_call 67; (with_reducible refine (field_any H.out a i hi).mono ?_); rw [HF.out]; rintro e w1 ⟨rfl, n1, rfl⟩))
    go_ret
    exact ⟨rfl, by first | exact H.out.drewN _ | exact (H.out.drewN _).drewN _, by first | exact (Turns.refl _ _).drewN _ | exact ((Turns.refl _ _).drewN _).drewN _⟩
  obtain ⟨j, rfl⟩ : ∃ j : Nat, i = (j : Int) := ⟨i.toNat, by omega⟩
  have hj : j < (lookO m.L a).F.length := by omega
  obtain ⟨t, ht⟩ : ∃ t, atN m.L a = t := ⟨_, rfl⟩
  have HF : Hid (fieldV m.L a (j : Int) = ((t : Int) + 3 + (j : Int), 0)) := by show _ = _; unfold fieldV; rw [hv, if_pos rfl, if_neg c1, ht]
  have hfm := look_fmt h.good a
  obtain ⟨f, hf⟩ : ∃ f, (lookO m.L a).fmt = f := ⟨_, rfl⟩
  have HFM := Lib.hid hf
  rw [hf] at hfm
  obtain ⟨hf1, hf2, _⟩ := hfm
  obtain ⟨b, hb⟩ : ∃ b, badW m.L (lookO m.L a) x = b := ⟨_, rfl⟩
  have HB : Hid (((f == 0) && !mayV m.L x || (f == 2) && (decide (x < 0) || decide (255 < x))) = b) := by show _ = _; rw [← hb, ← hf]; rfl
  obtain ⟨hc, hlt⟩ := h.field hv hj
  rw [ht] at hc hlt
  have hsz := h.good.hi
  have HBAD : Hid (b = true → putV m a (j : Int) x = (m, 6)) := fun e => by unfold putV; rw [hv, if_pos rfl, if_neg c1, hb, e]; rfl
  have hgood : b = false → ∃ m', putV m a (j : Int) x = (m', 0) ∧ ∀ n, PM ((w.drewN n).setCell ⟨bw, t + 3 + j, none⟩ (.int .i64 x)) s bw bm m' := fun e => by
    obtain ⟨k, hk, hp, hae, e1, e2⟩ := atN_yes hv
    have hjk : j < m.L[k].F.length := by rw [← e2]; exact hj
    refine ⟨{ m with L := m.L.set k ⟨m.L[k].cls, m.L[k].fmt, m.L[k].hash, m.L[k].F.set j x⟩ }, ?_, fun n => ?_⟩
    · unfold putV; rw [hv, if_pos rfl, if_neg c1, hb, e, if_neg (by simp), updL_yes hp hk, Int.toNat_natCast]
    · have hg : Good { m with L := m.L.set k ⟨m.L[k].cls, m.L[k].fmt, m.L[k].hash, m.L[k].F.set j x⟩ } := h.good.set hk (by simp) (show 0 ≤ m.L[k].fmt ∧ m.L[k].fmt ≤ 2 from h.good.fmt _ (List.getElem_mem hk)) (by
        have := h.good.word _ (List.getElem_mem hk)
        refine ⟨this.1, this.2.1, fun y hy => ?_⟩
        rcases List.mem_or_eq_of_mem_set hy with h1 | rfl
        · exact this.2.2 y h1
        · exact hx)
      have := (h.drewN n).store hk (show j + 3 < m.L[k].F.length + 3 by omega) (o' := ⟨m.L[k].cls, m.L[k].fmt, m.L[k].hash, m.L[k].F.set j x⟩) (x := x) (by simp [encO]) (by simp) hg
      rw [← e1, ht, show t + (j + 3) = t + 3 + j by omega] at this
      exact this
  have HGOOD := Lib.hid hgood
  have c0 := h.c0
  have fb := h.free (t + 3 + j)
  have g0 : (0 : Int) ≤ (t : Int) + 3 + (j : Int) := by omega
  have g1 : (t : Int) + 3 + (j : Int) < (m.size : Int) := by omega
  have g2 : ((t : Int) + 3 + (j : Int)).toNat = t + 3 + j := by omega
  clear h hv c1 hj ht hf hb hgood
  by_cases f0 : f = 0
  · subst f0
    cases hmy : mayV m.L x
    · have HMY := Lib.hid hmy
      have hbt : b = true := by rw [← HB.out, hmy]; rfl
      rw [HBAD.out hbt]
      clear hmy hbt hx
      go_enter Try.func30, Try.ntmps30
      go_wp2_with (first | (go_at_call 67; (with_reducible refine (field_any H.out a (j : Int) hi).mono ?_); rw [HF.out]; rintro e w1 ⟨rfl, n1, rfl⟩) | (go_at_call 57; (with_reducible refine (format_any (H.out.drewN _) a).mono ?_); rw [HFM.out]; rintro e w2 ⟨rfl, n2, rfl⟩) | (go_at_call 35; (with_reducible refine (may_any (H.out.drewN _) x).mono ?_); rw [HMY.out]; rintro e w3 ⟨rfl, n3, rfl⟩))
      go_ret
      exact ⟨rfl, by first | exact H.out.drewN _ | exact (H.out.drewN _).drewN _, by first | exact (Turns.refl _ _).drewN _ | exact ((Turns.refl _ _).drewN _).drewN _⟩
    · have HMY := Lib.hid hmy
      have hbt : b = false := by rw [← HB.out, hmy]; rfl
      obtain ⟨m', hpv, hst⟩ := HGOOD.out hbt
      have HST := Lib.hid hst
      rw [hpv]
      clear hmy hbt hx hpv hst
      go_enter Try.func30, Try.ntmps30
      go_wp2_with (first | (go_at_call 67; (with_reducible refine (field_any H.out a (j : Int) hi).mono ?_); rw [HF.out]; rintro e w1 ⟨rfl, n1, rfl⟩) | (go_at_call 57; (with_reducible refine (format_any (H.out.drewN _) a).mono ?_); rw [HFM.out]; rintro e w2 ⟨rfl, n2, rfl⟩) | (go_at_call 35; (with_reducible refine (may_any (H.out.drewN _) x).mono ?_); rw [HMY.out]; rintro e w3 ⟨rfl, n3, rfl⟩))
      go_ret
      exact ⟨rfl, HST.out _, ((Turns.refl _ _).drewN _).setCell _ _ (.inr (.inl rfl))⟩
  have n0 : (f == 0) = false := by simpa using f0
  by_cases f2 : f = 2
  · subst f2
    by_cases x1 : x < 0
    · have d1 : decide (x < 0) = true := decide_eq_true x1
      have hbt : b = true := by rw [← HB.out, d1]; rfl
      rw [HBAD.out hbt]
      clear hbt hx
      go_enter Try.func30, Try.ntmps30
      go_wp2_with (first | (go_at_call 67; (with_reducible refine (field_any H.out a (j : Int) hi).mono ?_); rw [HF.out]; rintro e w1 ⟨rfl, n1, rfl⟩) | (go_at_call 57; (with_reducible refine (format_any (H.out.drewN _) a).mono ?_); rw [HFM.out]; rintro e w2 ⟨rfl, n2, rfl⟩))
      go_ret
      exact ⟨rfl, by first | exact H.out.drewN _ | exact (H.out.drewN _).drewN _, by first | exact (Turns.refl _ _).drewN _ | exact ((Turns.refl _ _).drewN _).drewN _⟩
    · have d1 : decide (x < 0) = false := decide_eq_false x1
      by_cases x2 : 255 < x
      · have d2 : decide (255 < x) = true := decide_eq_true x2
        have hbt : b = true := by rw [← HB.out, d1, d2]; rfl
        rw [HBAD.out hbt]
        clear hbt hx
        go_enter Try.func30, Try.ntmps30
        go_wp2_with (first | (go_at_call 67; (with_reducible refine (field_any H.out a (j : Int) hi).mono ?_); rw [HF.out]; rintro e w1 ⟨rfl, n1, rfl⟩) | (go_at_call 57; (with_reducible refine (format_any (H.out.drewN _) a).mono ?_); rw [HFM.out]; rintro e w2 ⟨rfl, n2, rfl⟩))
        go_ret
        exact ⟨rfl, by first | exact H.out.drewN _ | exact (H.out.drewN _).drewN _, by first | exact (Turns.refl _ _).drewN _ | exact ((Turns.refl _ _).drewN _).drewN _⟩
      · have d2 : decide (255 < x) = false := decide_eq_false x2
        have hbt : b = false := by rw [← HB.out, d1, d2]; rfl
        obtain ⟨m', hpv, hst⟩ := HGOOD.out hbt
        have HST := Lib.hid hst
        rw [hpv]
        clear hbt hx hpv hst
        go_enter Try.func30, Try.ntmps30
        go_wp2_with (first | (go_at_call 67; (with_reducible refine (field_any H.out a (j : Int) hi).mono ?_); rw [HF.out]; rintro e w1 ⟨rfl, n1, rfl⟩) | (go_at_call 57; (with_reducible refine (format_any (H.out.drewN _) a).mono ?_); rw [HFM.out]; rintro e w2 ⟨rfl, n2, rfl⟩))
        go_ret
        exact ⟨rfl, HST.out _, ((Turns.refl _ _).drewN _).setCell _ _ (.inr (.inl rfl))⟩
  · have n2 : (f == 2) = false := by simpa using f2
    have hbt : b = false := by rw [← HB.out, n0, n2]; rfl
    obtain ⟨m', hpv, hst⟩ := HGOOD.out hbt
    have HST := Lib.hid hst
    rw [hpv]
    clear hbt hx hpv hst
    go_enter Try.func30, Try.ntmps30
    go_wp2_with (first | (go_at_call 67; (with_reducible refine (field_any H.out a (j : Int) hi).mono ?_); rw [HF.out]; rintro e w1 ⟨rfl, n1, rfl⟩) | (go_at_call 57; (with_reducible refine (format_any (H.out.drewN _) a).mono ?_); rw [HFM.out]; rintro e w2 ⟨rfl, n2, rfl⟩))
    go_ret
    exact ⟨rfl, HST.out _, ((Turns.refl _ _).drewN _).setCell _ _ (.inr (.inl rfl))⟩
end Go.Proofs.Ytfinpgkehjbcpaa
