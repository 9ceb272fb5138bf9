/- Chapter 02: both memories side by side. -/
import Derived.Test.YtfinpgkehjbcpaaLW1
import Derived.Test.YtfinpgkehjbcpaaNEW
import Derived.Test.YtfinpgkehjbcpaaHM0
import Derived.Test.YtfinpgkehjbcpaaRM0
import Derived.Test.YtfinpgkehjbcpaaHD0
import Derived.Test.YtfinpgkehjbcpaaRD0
namespace Go.Proofs.Ytfinpgkehjbcpaa
open Go.ChangeShapes Go.WideShapes Go.ChangeAt Go.RowKit Go.Deep Go.Joins Go.Maps
set_option linter.unusedVariables false
set_option linter.unusedSimpArgs false
/-- the program's memory mp and the reference's mr lie side by side, and off the blocks of X -/
def Duo (X : Nat → Prop) (w : World) (s bw bm r : Nat) (R : Nat → Prop) (mp mr : Hp) : Prop :=
  ∃ lv fv, PM w s bw bm mp ∧ RM w R r mr lv fv ∧ (∀ k, pset s bw bm k → ¬ R k) ∧ ∀ k, X k → ¬ pset s bw bm k ∧ ¬ R k ∧ k < w.heap.size
def Keeps (X : Nat → Prop) (w w' : World) : Prop := Turns (fun k => ¬ X k) w w'
section
variable {X Y : Nat → Prop} {w w' w'' : World} {s bw bm r : Nat} {R R' : Nat → Prop} {mp mr m' : Hp}
theorem Keeps.below (h : Keeps X w w') {base : Nat} (hx : ∀ k, k < base → X k) (hb : base ≤ w.heap.size) : Below base w w' := Turns.below h (fun k q => Nat.le_of_not_lt (fun z => q (hx k z))) hb
theorem Keeps.refl : Keeps X w w := Turns.refl _ _
theorem Keeps.trans (h : Keeps X w w') (k : Keeps X w' w'') : Keeps X w w'' := Turns.trans h k
theorem Keeps.of_below (h : Below w.heap.size w w') : Keeps X w w' := Turns.of_below h
theorem Keeps.block (h : Keeps X w w') {k : Nat} (hx : X k) (hk : k < w.heap.size) : w'.heap[k]? = w.heap[k]? := Turns.block h k hk (fun q => q hx)
theorem Keeps.mono (h : Keeps X w w') (hy : ∀ k, Y k → X k) : Keeps Y w w' := Turns.mono h (fun k _ q z => q (hy k z))
theorem Duo.less (D : Duo X w s bw bm r R mp mr) (hy : ∀ k, Y k → X k) : Duo Y w s bw bm r R mp mr := by
  obtain ⟨lv, fv, P, Q, h1, h2⟩ := D
  exact ⟨lv, fv, P, Q, h1, fun k hk => h2 k (hy k hk)⟩
/-- the blocks that are new belong to neither memory -/
theorem Duo.more (D : Duo X w s bw bm r R mp mr) (hb : Below w.heap.size w w') (hy : ∀ k, Y k → X k ∨ (w.heap.size ≤ k ∧ k < w'.heap.size)) : Duo Y w' s bw bm r R mp mr := by
  obtain ⟨lv, fv, P, Q, h1, h2⟩ := D
  refine ⟨lv, fv, P.below hb, Q.below hb, h1, fun k hk => ?_⟩
  rcases hy k hk with q | ⟨q, q2⟩
  · obtain ⟨a, b, c⟩ := h2 k q
    exact ⟨a, b, Nat.lt_of_lt_of_le c hb.size⟩
  · exact ⟨fun z => absurd (P.lt k z) (by omega), fun z => absurd (Q.lt k z) (by omega), q2⟩
theorem Duo.below (D : Duo X w s bw bm r R mp mr) (hb : Below w.heap.size w w') : Duo X w' s bw bm r R mp mr := D.more hb (fun _ h => .inl h)
theorem Duo.drewN (D : Duo X w s bw bm r R mp mr) (n : Nat) : Duo X (w.drewN n) s bw bm r R mp mr := D.below (below_drewN (Below.refl _ _) n)
theorem Duo.goP (D : Duo X w s bw bm r R mp mr) (hP : PM w' s bw bm m') (ht : Turns (pset s bw bm) w w') : Duo X w' s bw bm r R m' mr ∧ Keeps X w w' := by
  obtain ⟨lv, fv, P, Q, h1, h2⟩ := D
  exact ⟨⟨lv, fv, hP, Q.same ht.size (fun k hk => ht.block k (Q.lt k hk) (fun q => h1 k q hk)), h1, fun k hk => ⟨(h2 k hk).1, (h2 k hk).2.1, Nat.lt_of_lt_of_le (h2 k hk).2.2 ht.size⟩⟩, ht.mono (fun k _ q z => (h2 k z).1 q)⟩
theorem Duo.goR (D : Duo X w s bw bm r R mp mr) (hQ : RPost R r m' w w') : ∃ R', Duo X w' s bw bm r R' mp m' ∧ Keeps X w w' := by
  obtain ⟨lv, fv, P, Q, h1, h2⟩ := D
  obtain ⟨R', lv', fv', Q', ht, hn⟩ := hQ
  refine ⟨R', ⟨lv', fv', P.turns ht h1, Q', fun k hk hr => ?_, fun k hk => ⟨(h2 k hk).1, fun q => ?_, Nat.lt_of_lt_of_le (h2 k hk).2.2 ht.size⟩⟩, ht.mono (fun k _ q z => (h2 k z).2.1 q)⟩
  · have := P.lt k hk
    rcases hn k hr with q | q
    · exact h1 k hk q
    · omega
  · have := (h2 k hk).2.2
    rcases hn k q with z | z
    · exact (h2 k hk).2.1 z
    · omega
theorem Duo.goS (D : Duo X w s bw bm r R mp mr) {lv : Value} {fv : Nat → Value} (hQ : RM w' R r m' lv fv) (ht : Turns R w w') : Duo X w' s bw bm r R mp m' ∧ Keeps X w w' := by
  obtain ⟨lv0, fv0, P, Q, h1, h2⟩ := D
  exact ⟨⟨lv, fv, P.turns ht h1, hQ, h1, fun k hk => ⟨(h2 k hk).1, (h2 k hk).2.1, Nat.lt_of_lt_of_le (h2 k hk).2.2 ht.size⟩⟩, ht.mono (fun k _ q z => (h2 k z).2.1 q)⟩
/-- what the program's Keep answers lies off its memory -/
theorem Duo.answer (D : Duo X w s bw bm r R mp mr) {v : Value} {l : List Int} {b0 : Nat} (hv : Ints w b0 v l) (hR : ∀ k, R k → k < b0) (hs : s < b0 ∧ bw < b0) : Duo (fun k => X k ∨ v.ownBlock = some k) w s bw bm r R mp mr := by
  obtain ⟨lv, fv, P, Q, h1, h2⟩ := D
  refine ⟨lv, fv, P, Q, h1, fun k hk => ?_⟩
  rcases hk with q | q
  · exact h2 k q
  · obtain ⟨hb, hl⟩ := World.ownsRow.lt hv k q
    refine ⟨?_, fun z => absurd (hR k z) (by omega), hl⟩
    rintro (z | z | z)
    · omega
    · omega
    · obtain ⟨n, f, _, hm, _⟩ := P.map
      obtain ⟨es, ck, he⟩ := hm.block
      obtain ⟨cur, hc⟩ := own_block_of hv q
      rw [← z, hc] at he
      simp at he
end
theorem d_put {X : Nat → Prop} {w : World} {s bw bm r : Nat} {R : Nat → Prop} {mp mr : Hp} (D : Duo X w s bw bm r R mp mr) (a i x : Int) (hi : InI i) (hx : InI x) : Calls Try.prog 30 #[.pointer (some ⟨s, 0, none⟩), .int .i64 a, .int .i64 i, .int .i64 x] w fun e w' => e = .returned (.int .i64 (putV mp a i x).2) ∧ Duo X w' s bw bm r R ((putV mp a i x).1) mr ∧ Keeps X w w' := by
  obtain ⟨lv, fv, P, Q, h1, h2⟩ := D
  refine (put_any P a i x hi hx).mono ?_
  rintro e w' ⟨rfl, hP, ht⟩
  exact ⟨rfl, Duo.goP ⟨lv, fv, P, Q, h1, h2⟩ hP ht⟩
theorem dr_put {X : Nat → Prop} {w : World} {s bw bm r : Nat} {R : Nat → Prop} {mp mr : Hp} (D : Duo X w s bw bm r R mp mr) (a i x : Int) (hi : InI i) (hx : InI x) : Calls Try.prog 31 #[.pointer (some ⟨r, 0, none⟩), .int .i64 a, .int .i64 i, .int .i64 x] w fun e w' => e = .returned (.int .i64 (putV mr a i x).2) ∧ Duo X w' s bw bm r R mp ((putV mr a i x).1) ∧ Keeps X w w' := by
  obtain ⟨lv, fv, P, Q, h1, h2⟩ := D
  refine (rput_any Q a i x hi hx).mono ?_
  rintro e w' ⟨rfl, hQ, ht⟩
  exact ⟨rfl, Duo.goS ⟨lv, fv, P, Q, h1, h2⟩ hQ ht⟩
theorem d_setHash {X : Nat → Prop} {w : World} {s bw bm r : Nat} {R : Nat → Prop} {mp mr : Hp} (D : Duo X w s bw bm r R mp mr) (a x : Int) (hx : InI x) : Calls Try.prog 87 #[.pointer (some ⟨s, 0, none⟩), .int .i64 a, .int .i64 x] w fun e w' => e = .returned (.int .i64 (setHashV mp a x).2) ∧ Duo X w' s bw bm r R ((setHashV mp a x).1) mr ∧ Keeps X w w' := by
  obtain ⟨lv, fv, P, Q, h1, h2⟩ := D
  refine (setHash_any P a x hx).mono ?_
  rintro e w' ⟨rfl, hP, ht⟩
  exact ⟨rfl, Duo.goP ⟨lv, fv, P, Q, h1, h2⟩ hP ht⟩
theorem d_setClass {X : Nat → Prop} {w : World} {s bw bm r : Nat} {R : Nat → Prop} {mp mr : Hp} (D : Duo X w s bw bm r R mp mr) (a c : Int) (hc : InI c) : Calls Try.prog 28 #[.pointer (some ⟨s, 0, none⟩), .int .i64 a, .int .i64 c] w fun e w' => e = .returned (.int .i64 (setClassV mp a c).2) ∧ Duo X w' s bw bm r R ((setClassV mp a c).1) mr ∧ Keeps X w w' := by
  obtain ⟨lv, fv, P, Q, h1, h2⟩ := D
  refine (setClass_any P a c hc).mono ?_
  rintro e w' ⟨rfl, hP, ht⟩
  exact ⟨rfl, Duo.goP ⟨lv, fv, P, Q, h1, h2⟩ hP ht⟩
theorem dr_setClass {X : Nat → Prop} {w : World} {s bw bm r : Nat} {R : Nat → Prop} {mp mr : Hp} (D : Duo X w s bw bm r R mp mr) (a c : Int) (hc : InI c) : Calls Try.prog 29 #[.pointer (some ⟨r, 0, none⟩), .int .i64 a, .int .i64 c] w fun e w' => e = .returned (.int .i64 (setClassV mr a c).2) ∧ Duo X w' s bw bm r R mp ((setClassV mr a c).1) ∧ Keeps X w w' := by
  obtain ⟨lv, fv, P, Q, h1, h2⟩ := D
  refine (rsetClass_any Q a c hc).mono ?_
  rintro e w' ⟨rfl, hQ, ht⟩
  exact ⟨rfl, Duo.goS ⟨lv, fv, P, Q, h1, h2⟩ hQ ht⟩
theorem d_setMade {X : Nat → Prop} {w : World} {s bw bm r : Nat} {R : Nat → Prop} {mp mr : Hp} (D : Duo X w s bw bm r R mp mr) (n : Int) (hn : InI n) : Calls Try.prog 88 #[.pointer (some ⟨s, 0, none⟩), .int .i64 n] w fun e w' => e = .returned (.int .i64 (setMadeV mp n).2) ∧ Duo X w' s bw bm r R ((setMadeV mp n).1) mr ∧ Keeps X w w' := by
  obtain ⟨lv, fv, P, Q, h1, h2⟩ := D
  refine (setMade_any P n hn).mono ?_
  rintro e w' ⟨rfl, hP, ht⟩
  exact ⟨rfl, Duo.goP ⟨lv, fv, P, Q, h1, h2⟩ hP ht⟩
theorem d_make {X : Nat → Prop} {w : World} {s bw bm r : Nat} {R : Nat → Prop} {mp mr : Hp} (D : Duo X w s bw bm r R mp mr) (c f n : Int) (hc : InI c) (hff : InI f) (hn : InI n) : Calls Try.prog 25 #[.pointer (some ⟨s, 0, none⟩), .int .i64 c, .int .i64 f, .int .i64 n] w fun e w' => e = .returned (.tuple #[.int .i64 (makeV mp c f n).2.1, .int .i64 (makeV mp c f n).2.2]) ∧ Duo X w' s bw bm r R ((makeV mp c f n).1) mr ∧ Keeps X w w' := by
  obtain ⟨lv, fv, P, Q, h1, h2⟩ := D
  refine (make_any P c f n hc hff hn).mono ?_
  rintro e w' ⟨rfl, hP, ht⟩
  exact ⟨rfl, Duo.goP ⟨lv, fv, P, Q, h1, h2⟩ hP ht⟩
theorem dr_make {X : Nat → Prop} {w : World} {s bw bm r : Nat} {R : Nat → Prop} {mp mr : Hp} (D : Duo X w s bw bm r R mp mr) (c f n : Int) (hc : InI c) (hff : InI f) (hn : InI n) : Calls Try.prog 26 #[.pointer (some ⟨r, 0, none⟩), .int .i64 c, .int .i64 f, .int .i64 n] w fun e w' => e = .returned (.tuple #[.int .i64 (makeV mr c f n).2.1, .int .i64 (makeV mr c f n).2.2]) ∧ ∃ R', Duo X w' s bw bm r R' mp ((makeV mr c f n).1) ∧ Keeps X w w' := by
  obtain ⟨lv, fv, P, Q, h1, h2⟩ := D
  refine (rmake_any Q c f n hc hff hn).mono ?_
  rintro e w' ⟨rfl, hQ⟩
  exact ⟨rfl, Duo.goR ⟨lv, fv, P, Q, h1, h2⟩ hQ⟩
end Go.Proofs.Ytfinpgkehjbcpaa
