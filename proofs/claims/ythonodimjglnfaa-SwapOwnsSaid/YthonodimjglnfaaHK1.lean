/- Chapter 02: the contract of Keep's look at an object. -/
import Derived.Test.YthonodimjglnfaaHT2
import Derived.Deep.RegionWith
namespace Go.Proofs.Ythonodimjglnfaa
open Go.ChangeShapes Go.WideShapes Go.ChangeAt Go.RowKit Go.Deep Go.Joins Go.Maps
set_option linter.unusedVariables false
set_option linter.unusedSimpArgs false

/-- a goal that no tactic looks into -/
structure BoxS (p : Prop) : Prop where
  out : p
section
variable {P : Program} {ops : Array Oper} {w : World} {Q : Act → Prop} {a : Act} {o : Oper} {rest : List Oper}
theorem boxS_nil (h : Q a) : BoxS (wpStill P ops w Q [] a) := ⟨wpStill_nil h⟩
theorem boxS_step (h : ∀ K : Act → Prop, (∀ a, BoxS (wpStill P ops w Q rest a) → K a) → if Region.wanted o (yielded ops a.tmps) then o.still P a w K else K (a.put o.dst undef)) : BoxS (wpStill P ops w Q (o :: rest) a) := ⟨wpStill_step (fun K hK => h K (fun a h => hK a h.out))⟩
theorem boxS_skip (h : Region.wanted o (yielded ops a.tmps) = false) (hk : ∀ K : Act → Prop, (∀ a, BoxS (wpStill P ops w Q rest a) → K a) → K (a.put o.dst undef)) : BoxS (wpStill P ops w Q (o :: rest) a) := boxS_step (fun K hK => by rw [if_neg (by rw [h]; simp)]; exact hk K hK)
theorem boxS_want (h : Region.wanted o (yielded ops a.tmps) = true) (hk : ∀ K : Act → Prop, (∀ a, BoxS (wpStill P ops w Q rest a) → K a) → o.still P a w K) : BoxS (wpStill P ops w Q (o :: rest) a) := boxS_step (fun K hK => by rw [if_pos h]; exact hk K hK)
end

theorem IntMap.upd {w : World} {b n : Nat} {f : Int → Int} (h : IntMap w b n f) (hn : n < maxLen) {k y : Int} (hk : InI k) (hy : InI y) : ∃ w', (Instr.mapUpdate 80 (.map (some b)) (.int .i64 k) (.int .i64 y)).run Try.prog w = .ok () w' ∧ IntMap w' b (n + 1) (fun c => if c = k then y else f c) ∧ w.grownBy w' (some b) := by
  obtain ⟨D, h1, h2⟩ := h
  obtain ⟨w', hrun, r1, r2⟩ := h1.update keyedI Try.underlying80 hn (key_i hk) (plainElem_int Try.underlying3 hy.wf)
  exact ⟨w', hrun, IntMap.put h1 h2 r1, r2⟩

def okW (l : List Int) (x : Int) : Bool := !isPointerV x || l.contains x
def fitQ (l : List Int) (o : Ob) (q : Nat) : Bool := (List.range q).all (fun j => okW l (wordO o j))
theorem fitQ_succ (l : List Int) (o : Ob) (q : Nat) : fitQ l o (q + 1) = (fitQ l o q && okW l (wordO o q)) := by unfold fitQ; rw [List.range_succ, List.all_append]; simp
theorem fitQ_end (l : List Int) (o : Ob) : fitQ l o (npO o) = fitsO l o := by unfold fitQ fitsO; rw [wordsO_at, List.all_map]; rfl
theorem fitsTo_succ {L : List Ob} {l : List Int} {k : Nat} (hk : k < L.length) : fitsTo L l (k + 1) = if kp L l k then fitsTo L l k && fitsO l L[k] else fitsTo L l k := by
  unfold fitsTo
  rw [keptTo_succ hk]
  split
  · rw [List.all_append]; simp
  · rfl
/-- what the look at the first k objects has laid -/
def toK (L : List Ob) (l : List Int) (k : Nat) (a : Int) : Int := match plc L a with | some i => if i < k ∧ kp L l i = true then toAt L l i else 0 | none => 0
theorem toK_zero (L : List Ob) (l : List Int) (a : Int) : toK L l 0 a = 0 := by unfold toK; cases plc L a <;> simp
theorem toK_end (L : List Ob) (l : List Int) (a : Int) : toK L l L.length a = toV L l a := by
  unfold toK toV
  cases h : plc L a with
  | none => rfl
  | some i => have := (plc_some h).1; simp [this]
theorem toK_no {L : List Ob} {l : List Int} {k : Nat} (hn : kp L l k = false) (a : Int) : toK L l (k + 1) a = toK L l k a := by
  unfold toK
  cases h : plc L a with
  | none => rfl
  | some i =>
    dsimp only
    by_cases e : i = k
    · subst e; rw [hn]; simp
    · have : i < k + 1 ↔ i < k := by omega
      simp only [this]
theorem toK_yes {L : List Ob} {l : List Int} {k : Nat} (hk : k < L.length) (hy : kp L l k = true) (a : Int) : toK L l (k + 1) a = if a = ptr L k then toAt L l k else toK L l k a := by
  by_cases ha : a = ptr L k
  · subst ha
    unfold toK
    rw [plc_at hk, if_pos rfl]
    simp [hy]
  · rw [if_neg ha]
    unfold toK
    cases h : plc L a with
    | none => rfl
    | some i =>
      dsimp only
      have hne : i ≠ k := fun e => by subst e; exact ha (plc_some h).2.symm
      have : i < k + 1 ↔ i < k := by omega
      simp only [this]
def kset (fb eb tm : Nat) (b : Nat) : Prop := b = fb ∨ b = eb ∨ b = tm
/-- behind the look at the first k objects -/
def KeepP (fb eb tm : Nat) (L : List Ob) (l : List Int) (w : World) (k : Nat) (w' : World) : Prop := w'.heap[fb]? = some (.cells #[.bool (fitsTo L l k)] 4 (0, 0)) ∧ w'.heap[eb]? = some (.cells #[.int .i64 ((3 + szs (keptTo L l k) : Nat) : Int)] 3 (0, 0)) ∧ IntMap w' tm k (toK L l k) ∧ Turns (kset fb eb tm) w w'
theorem lt_blockX {w w' : World} {b : Nat} (h : b < w.heap.size) (e : w'.heap[b]? = w.heap[b]?) : b < w'.heap.size := by
  rcases Nat.lt_or_ge b w'.heap.size with q | q
  · exact q
  · rw [Array.getElem?_eq_none q, Array.getElem?_eq_getElem h] at e; cases e

end Go.Proofs.Ythonodimjglnfaa
