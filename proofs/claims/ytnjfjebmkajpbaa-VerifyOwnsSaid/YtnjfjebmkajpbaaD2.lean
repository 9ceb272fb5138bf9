/- The state of the depths at its beginning. -/
import Derived.Test.YtnjfjebmkajpbaaD1
namespace Go.Proofs.Ytnjfjebmkajpbaa
open Go.ChangeShapes Go.WideShapes Go.ChangeAt Go.RowKit
set_option linter.unusedVariables false
set_option linter.unusedSimpArgs false

structure DT (b0 : Nat) (p po : Option Addr) (n c co : Nat) (ys : List Int) (wt : List Nat) (v : Value) (w : World) : Prop where
  l : w.heap[b0]? = some (.cells #[.slice p n c] 23 (0, 0))
  o : w.heap[b0 + 1]? = some (.cells #[.slice po n co] 29 (0, 0))
  own : OwnI w (b0 + 2) (b0 + 2) n n ys
  u : w.heap[b0 + 3]? = some (.cells #[.slice (some ⟨b0 + 2, 0, none⟩) n n] 29 (0, 0))
  x : w.heap[b0 + 4]? = some (.cells #[v] 29 (0, 0))
  wait : w.ownsRow (b0 + 5) 3 1 v wt.length ((wt.map (fun q : Nat => (q : Int))).map (Value.int .i64))
section
variable {b0 : Nat} {p po : Option Addr} {n c co : Nat} {ys : List Int} {wt : List Nat} {v : Value} {w : World}
theorem DT.put (h : DT b0 p po n c co ys wt v w) (q : Nat) (d : Int) : DT b0 p po n c co (ys.set q d) wt v (w.setCell ⟨b0 + 2, q, none⟩ (.int .i64 d)) where
  l := one_other h.l (by simp)
  o := one_other h.o (by simp)
  own := h.own.put q d
  u := one_other h.u (by simp)
  x := one_other h.x (by simp)
  wait := by
    refine ownsRow_setCell_other h.wait ?_ _
    rcases h.wait.2 with ⟨rfl, _⟩ | ⟨g, cap, cur, rfl, hg, _⟩
    · simp [Value.ownBlock]
    · simp [Value.ownBlock]; omega
theorem DT.below (h : DT b0 p po n c co ys wt v w) {w' : World} (hb : Below w.heap.size w w') : DT b0 p po n c co ys wt v w' where
  l := (hb.block _ (lt_of_block h.l)).trans h.l
  o := (hb.block _ (lt_of_block h.o)).trans h.o
  own := h.own.below hb
  u := (hb.block _ (lt_of_block h.u)).trans h.u
  x := (hb.block _ (lt_of_block h.x)).trans h.x
  wait := ownsRow_below h.wait hb
theorem DT.push (h : DT b0 p po n c co ys wt v w) {w' : World} {v' : Value} (hg : w.grownBy w' v.ownBlock) {wt' : List Nat} (hw : w'.ownsRow (b0 + 5) 3 1 v' wt'.length ((wt'.map (fun q : Nat => (q : Int))).map (Value.int .i64))) : DT b0 p po n c co ys wt' v' (w'.setCell ⟨b0 + 4, 0, none⟩ v') := by
  have hv : ∀ k, v.ownBlock = some k → b0 + 5 ≤ k := fun k hk => (h.wait.lt k hk).1
  have blk : ∀ k, k < b0 + 5 → ∀ o, w.heap[k]? = some o → w'.heap[k]? = some o := fun k hk o ho => (hg.block k (lt_of_block ho) (fun e => by have := hv k e.symm; omega)).trans ho
  have hown : OwnI w' (b0 + 2) (b0 + 2) n n ys := World.ownsRow.kept h.own hg (.inr (fun e => by
    simp only [Value.ownBlock] at e
    have := hv (b0 + 2) e.symm
    omega))
  refine ⟨one_other (blk b0 (by omega) _ h.l) (by simp), one_other (blk (b0 + 1) (by omega) _ h.o) (by simp), ownsRow_setCell_other hown (by simp [Value.ownBlock]) _, one_other (blk (b0 + 3) (by omega) _ h.u) (by simp), one_setCell (blk (b0 + 4) (by omega) _ h.x), ?_⟩
  refine ownsRow_setCell_other hw ?_ _
  rcases hw.2 with ⟨rfl, _⟩ | ⟨g, cap, cur, rfl, hgb, _⟩
  · simp [Value.ownBlock]
  · simp [Value.ownBlock]; omega
theorem DT.size (h : DT b0 p po n c co ys wt v w) : b0 + 4 < w.heap.size := lt_of_block h.x
theorem DT.right (h : DT b0 p po n c co ys wt v w) : DS b0 w.heap.size p po n c co ys wt v true (w.alloc (.cells #[.bool true] 4)) := by
  have hb : Below w.heap.size w (w.alloc (.cells #[.bool true] 4)) := (Below.refl _ _).alloc (Nat.le_refl _) _
  have k := h.below hb
  exact ⟨k.l, k.o, k.own, k.u, k.x, k.wait, heap_alloc_new w _, h.size⟩
/-- a slice of what waits, without its last one -/
theorem DS.pop {R : Nat} {rt : Bool} {q g cap : Nat} (h : DS b0 R p po n c co ys (wt ++ [q]) (.slice (some ⟨g, 0, none⟩) (wt.length + 1) cap) rt w) : DS b0 R p po n c co ys wt (.slice (some ⟨g, 0, none⟩) wt.length cap) rt (w.setCell ⟨b0 + 4, 0, none⟩ (.slice (some ⟨g, 0, none⟩) wt.length cap)) := by
  have hw := h.wait
  rw [List.length_append] at hw
  have hg := hw.lt g rfl
  have hr := wait_other hw h.r (by decide)
  refine ⟨one_other h.l (by simp), one_other h.o (by simp), ownsRow_setCell_other h.own (by simp [Value.ownBlock]) _, one_other h.u (by simp), one_setCell h.x, ?_, one_other h.r (by have := h.hR; simp; omega), h.hR⟩
  refine ownsRow_setCell_other ?_ (by simp [Value.ownBlock]; omega) _
  have := row_take hw g cap rfl (m := wt.length) (by simp)
  rw [← List.map_take, ← List.map_take, List.take_left] at this
  exact this
theorem DS.top {R : Nat} {rt : Bool} {q g cap : Nat} (h : DS b0 R p po n c co ys (wt ++ [q]) (.slice (some ⟨g, 0, none⟩) (wt.length + 1) cap) rt w) : w.cell? ⟨g, wt.length, none⟩ = some (.int .i64 (q : Int)) := by
  have hw := h.wait
  rw [List.length_append] at hw
  rw [World.ownsRow.cellAt hw wt.length (by simp)]
  simp
end
/-- what stands at the beginning -/
def startF (C : Nat → Ins) (p : Nat) : Int := if rootD C p then 0 else -1
theorem negs_start (C : Nat → Ins) : ∀ n, ((List.range n).filter (rootD C)).length + negs ((List.range n).map (startF C)) = n
  | 0 => rfl
  | n + 1 => by
    have ih := negs_start C n
    unfold negs at ih ⊢
    rw [List.range_succ, List.filter_append, List.map_append, List.length_append, List.countP_append]
    cases h : rootD C n
    · simp [h, startF] at ih ⊢; omega
    · simp [h, startF] at ih ⊢; omega
theorem list_of_getD {ys : List Int} {n : Nat} {F : Nat → Int} (hl : ys.length = n) (h : ∀ j, j < n → ys.getD j 0 = F j) : ys = (List.range n).map F := by
  apply List.ext_getElem
  · simp [hl]
  · intro i h1 h2
    have := h i (by omega)
    rw [List.getD_eq_getElem?_getD, List.getElem?_eq_getElem h1] at this
    simpa using this
theorem work_start {n : Nat} {C : Nat → Ins} {ys : List Int} (hl : ys.length = n) (h : ∀ j, j < n → ys.getD j 0 = startF C j) : Work n C ys ((List.range n).filter (rootD C)) (fun _ => False) := by
  have hv : ∀ p, p < n → gF ys p = if rootD C p then 0 else -1 := h
  refine ⟨hl, ⟨fun p hp h0 => ?_, fun p hp => ?_, fun p hp hr => ?_⟩, fun q hq => ?_, fun p hp h0 => ?_, ?_⟩
  · have e := hv p hp
    cases hr : rootD C p
    · rw [hr] at e; simp at e; omega
    · rw [hr] at e; simp at e; rw [e]; exact Reach.start p hp hr
  · rw [hv p hp]; cases rootD C p <;> simp
  · rw [hv p hp, hr]; rfl
  · obtain ⟨h1, h2⟩ := List.mem_filter.1 hq
    have hqn := List.mem_range.1 h1
    exact ⟨hqn, by rw [hv q hqn, h2]; simp⟩
  · left
    have e := hv p hp
    cases hr : rootD C p
    · rw [hr] at e; simp at e; omega
    · exact List.mem_filter.2 ⟨List.mem_range.2 hp, hr⟩
  · rw [list_of_getD hl h]
    exact Nat.le_of_eq (negs_start C n)
def DepPost (n : Nat) (C : Nat → Ins) (w : World) (e : Ending) (w' : World) : Prop := Below w.heap.size w w' ∧
  ((∃ v F, e = .returned (.tuple #[v, .bool true]) ∧ IntRow w' w.heap.size v n F ∧ SoundD n C F ∧ ClosedD n C F) ∨ (BadD n C ∧ ∃ A k c, e = .returned (.tuple #[.slice A k c, .bool false])))
end Go.Proofs.Ytnjfjebmkajpbaa
