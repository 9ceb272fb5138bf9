/- Chapter 02: maps of ints to bools and to ints: what they hold. -/
import Derived.Test.YtfinpgkehjbcpaaChecked
import Derived.Test.YtfinpgkehjbcpaaMem
import Derived.Test.YtfinpgkehjbcpaaHPlain
import Derived.Maps.Own
import Derived.Maps.OwnOps
import Derived.Maps.Views
import Derived.Maps.OwnSet
namespace Go.Proofs.Ytfinpgkehjbcpaa
open Go.ChangeShapes Go.WideShapes Go.ChangeAt Go.RowKit Go.Deep Go.Joins Go.Maps
set_option linter.unusedVariables false
set_option linter.unusedSimpArgs false
theorem keyedI : Keyed Try.prog 3 := int_keyed Try.underlying3
theorem zeroI (w : World) : (zeroValue 3).run Try.prog w = .ok (.int .i64 0) w := by kernel_rfl
theorem zeroB (w : World) : (zeroValue 4).run Try.prog w = .ok (.bool false) w := by kernel_rfl
def InI (a : Int) : Prop := -9223372036854775808 ≤ a ∧ a ≤ 9223372036854775807
theorem InI.wf {a : Int} (h : InI a) : (Lit.int .i64 a).wf = true := WalkArith.wf_i64 h
theorem key_i {a : Int} (h : InI a) : keyOf Try.prog 3 (.int .i64 a) = some (.int .i64 a) := keyOf_int_mk Try.underlying3 h.wf
theorem plainElem_bool_inv {H : Type} {P : Program} {e : TypeId} (he : P.underlying e = some .bool) {v : Value} {z : DataW H × List MemPlace} (h : plainElem P e v = some z) : ∃ x : Bool, v = .bool x ∧ z = (.lit (.bool x), []) := by
  unfold plainElem at h
  rw [he] at h
  cases v <;> simp at h
  exact ⟨_, rfl, h.symm⟩
/-- block b is a map of at most n ints to bools, which holds what f says -/
def BoolMap (w : World) (b n : Nat) (f : Int → Bool) : Prop := ∃ D : DataW Unit, w.ownsMap Try.prog 3 (plainElem Try.prog 4) b n D ∧ ∀ a, InI a → D.atKey (.int .i64 a) (.lit (.bool false)) = .lit (.bool (f a))
def IntMap (w : World) (b n : Nat) (f : Int → Int) : Prop := ∃ D : DataW Unit, w.ownsMap Try.prog 3 (plainElem Try.prog 3) b n D ∧ ∀ a, InI a → D.atKey (.int .i64 a) (.lit (.int .i64 0)) = .lit (.int .i64 (f a))

theorem BoolMap.made (w : World) : BoolMap (w.alloc (.map #[] 0)) w.heap.size 0 (fun _ => false) := ⟨_, World.ownsMap_made _ _ _ _, fun a _ => rfl⟩
theorem BoolMap.mono {w : World} {b n n' : Nat} {f : Int → Bool} (h : BoolMap w b n f) (hn : n ≤ n') : BoolMap w b n' f := by
  obtain ⟨D, h1, h2⟩ := h; exact ⟨D, h1.mono hn, h2⟩
theorem BoolMap.lt {w : World} {b n : Nat} {f : Int → Bool} (h : BoolMap w b n f) : b < w.heap.size := by
  obtain ⟨D, h1, h2⟩ := h; exact h1.lt
theorem BoolMap.same {w w' : World} {b n : Nat} {f : Int → Bool} (h : BoolMap w b n f) (hb : w'.heap[b]? = w.heap[b]?) : BoolMap w' b n f := by
  obtain ⟨D, ⟨es, clock, h1, h3⟩, h2⟩ := h
  exact ⟨D, ⟨es, clock, hb.trans h1, h3⟩, h2⟩
theorem BoolMap.look {w : World} {b n : Nat} {f : Int → Bool} (h : BoolMap w b n f) {a : Int} (ha : InI a) : (Instr.lookup 94 (.map (some b)) (.int .i64 a) false).run Try.prog w = .ok (.bool (f a)) w := by
  obtain ⟨D, h1, h2⟩ := h
  obtain ⟨v, ps, hrun, hv⟩ := h1.lookup keyedI Try.underlying94 (zeroB w) (plainElem_bool Try.underlying4 false) (key_i ha)
  rw [h2 a ha] at hv
  obtain ⟨x, rfl, hx⟩ := plainElem_bool_inv Try.underlying4 hv
  simp only [Prod.mk.injEq, DataW.lit.injEq, Lit.bool.injEq] at hx
  skip
  first | (rw [hrun, ← hx.1]) | (rw [hrun]; rw [hx.1.1.2]) | (rw [hrun]; simp [hx.1])
theorem BoolMap.put {w w1 : World} {b n : Nat} {f : Int → Bool} {a : Int} {x : Bool} {D : DataW Unit} (hD : w.ownsMap Try.prog 3 (plainElem Try.prog 4) b n D) (hf : ∀ a, InI a → D.atKey (.int .i64 a) (.lit (.bool false)) = .lit (.bool (f a))) (h : w1.ownsMap Try.prog 3 (plainElem Try.prog 4) b (n + 1) (D.put (.int .i64 a) (.lit (.bool x)))) : BoolMap w1 b (n + 1) (fun c => if c = a then x else f c) := by
  refine ⟨_, h, fun c hc => ?_⟩
  dsimp only
  by_cases e : c = a
  · subst e
    rw [if_pos rfl]
    exact atKey_put_same (hD.isMap) (show WideAt.IsKeyLit (.int .i64 c) from trivial) _ _
  · rw [if_neg e, atKey_put_other (by intro q; cases q; exact e rfl), hf c hc]

theorem IntMap.made (w : World) : IntMap (w.alloc (.map #[] 0)) w.heap.size 0 (fun _ => 0) := ⟨_, World.ownsMap_made _ _ _ _, fun a _ => rfl⟩
theorem IntMap.mono {w : World} {b n n' : Nat} {f : Int → Int} (h : IntMap w b n f) (hn : n ≤ n') : IntMap w b n' f := by
  obtain ⟨D, h1, h2⟩ := h; exact ⟨D, h1.mono hn, h2⟩
theorem IntMap.lt {w : World} {b n : Nat} {f : Int → Int} (h : IntMap w b n f) : b < w.heap.size := by
  obtain ⟨D, h1, h2⟩ := h; exact h1.lt
theorem IntMap.same {w w' : World} {b n : Nat} {f : Int → Int} (h : IntMap w b n f) (hb : w'.heap[b]? = w.heap[b]?) : IntMap w' b n f := by
  obtain ⟨D, ⟨es, clock, h1, h3⟩, h2⟩ := h
  exact ⟨D, ⟨es, clock, hb.trans h1, h3⟩, h2⟩
theorem IntMap.look {w : World} {b n : Nat} {f : Int → Int} (h : IntMap w b n f) {a : Int} (ha : InI a) : (Instr.lookup 66 (.map (some b)) (.int .i64 a) false).run Try.prog w = .ok (.int .i64 (f a)) w := by
  obtain ⟨D, h1, h2⟩ := h
  obtain ⟨v, ps, hrun, hv⟩ := h1.lookup keyedI Try.underlying66 (zeroI w) (plainElem_int Try.underlying3 (by decide)) (key_i ha)
  rw [h2 a ha] at hv
  obtain ⟨x, rfl, hx⟩ := plainElem_int_inv Try.underlying3 hv
  simp only [Prod.mk.injEq, DataW.lit.injEq, Lit.int.injEq] at hx
  skip
  first | (rw [hrun, ← hx.1]) | (rw [hrun]; rw [hx.1.1.2]) | (rw [hrun]; simp [hx.1])
theorem IntMap.put {w w1 : World} {b n : Nat} {f : Int → Int} {a : Int} {x : Int} {D : DataW Unit} (hD : w.ownsMap Try.prog 3 (plainElem Try.prog 3) b n D) (hf : ∀ a, InI a → D.atKey (.int .i64 a) (.lit (.int .i64 0)) = .lit (.int .i64 (f a))) (h : w1.ownsMap Try.prog 3 (plainElem Try.prog 3) b (n + 1) (D.put (.int .i64 a) (.lit (.int .i64 x)))) : IntMap w1 b (n + 1) (fun c => if c = a then x else f c) := by
  refine ⟨_, h, fun c hc => ?_⟩
  dsimp only
  by_cases e : c = a
  · subst e
    rw [if_pos rfl]
    exact atKey_put_same (hD.isMap) (show WideAt.IsKeyLit (.int .i64 c) from trivial) _ _
  · rw [if_neg e, atKey_put_other (by intro q; cases q; exact e rfl), hf c hc]

/-- 'm[k] = v', at the operation -/
theorem wpList_putBool (w : World) {ops : Array Oper} {rest : List Oper} {o : Oper} {a : Act} {Q : Exit → Act → World → Prop} (hg : o.guard = none) (m x v : Operand) (hop : o.op = Op.mapUpdate 94 m x v) {b n : Nat} {f : Int → Bool} (hm : a.eval m = .map (some b)) (h : BoolMap w b n f) (hn : n < maxLen) {k : Int} {y : Bool} (hx : a.eval x = .int .i64 k) (hv : a.eval v = .bool y) (hk : InI k) 
    (hK : ∀ w', BoolMap w' b (n + 1) (fun c => if c = k then y else f c) → w.grownBy w' (some b) → wpList Try.prog ops Q rest (a.put o.dst undef) w') : wpList Try.prog ops Q (o :: rest) a w := by
  obtain ⟨D, h1, h2⟩ := h
  refine wpList_mapUpdate_own w hg m x v 94 hop 3 4 keyedI Try.underlying94 _ b n D hm h1 hn _ _ (.int .i64 k) hx hv (key_i hk) (.lit (.bool y)) [] (plainElem_bool Try.underlying4 y) (fun w' r1 r2 => hK w' (BoolMap.put h1 h2 r1) r2)
/-- 'm[k]', at the operation -/
theorem wpList_lookBool (w : World) {ops : Array Oper} {rest : List Oper} {o : Oper} {a : Act} {Q : Exit → Act → World → Prop} (hg : o.guard = none) (m x : Operand) (hop : o.op = Op.lookup 94 m x false) {b n : Nat} {f : Int → Bool} (hm : a.eval m = .map (some b)) (h : BoolMap w b n f) {k : Int} (hx : a.eval x = .int .i64 k) (hk : InI k)
    (hK : wpList Try.prog ops Q rest (a.put o.dst (.bool (f k))) w) : wpList Try.prog ops Q (o :: rest) a w := by
  refine wpList_plain hg fun K' hK' => ?_
  have hrun := h.look hk
  unfold Oper.wp
  simp [execOp, hop, hm, hx, hrun, Result.andThen]
  exact hK' _ _ hK

/-- 'm[k] = v', at the operation -/
theorem wpList_putInt (w : World) {ops : Array Oper} {rest : List Oper} {o : Oper} {a : Act} {Q : Exit → Act → World → Prop} (hg : o.guard = none) (m x v : Operand) (hop : o.op = Op.mapUpdate 66 m x v) {b n : Nat} {f : Int → Int} (hm : a.eval m = .map (some b)) (h : IntMap w b n f) (hn : n < maxLen) {k : Int} {y : Int} (hx : a.eval x = .int .i64 k) (hv : a.eval v = .int .i64 y) (hk : InI k) (hx2 : InI y) 
    (hK : ∀ w', IntMap w' b (n + 1) (fun c => if c = k then y else f c) → w.grownBy w' (some b) → wpList Try.prog ops Q rest (a.put o.dst undef) w') : wpList Try.prog ops Q (o :: rest) a w := by
  obtain ⟨D, h1, h2⟩ := h
  refine wpList_mapUpdate_own w hg m x v 66 hop 3 3 keyedI Try.underlying66 _ b n D hm h1 hn _ _ (.int .i64 k) hx hv (key_i hk) (.lit (.int .i64 y)) [] (plainElem_int Try.underlying3 hx2.wf) (fun w' r1 r2 => hK w' (IntMap.put h1 h2 r1) r2)
/-- 'm[k]', at the operation -/
theorem wpList_lookInt (w : World) {ops : Array Oper} {rest : List Oper} {o : Oper} {a : Act} {Q : Exit → Act → World → Prop} (hg : o.guard = none) (m x : Operand) (hop : o.op = Op.lookup 66 m x false) {b n : Nat} {f : Int → Int} (hm : a.eval m = .map (some b)) (h : IntMap w b n f) {k : Int} (hx : a.eval x = .int .i64 k) (hk : InI k)
    (hK : wpList Try.prog ops Q rest (a.put o.dst (.int .i64 (f k))) w) : wpList Try.prog ops Q (o :: rest) a w := by
  refine wpList_plain hg fun K' hK' => ?_
  have hrun := h.look hk
  unfold Oper.wp
  simp [execOp, hop, hm, hx, hrun, Result.andThen]
  exact hK' _ _ hK
end Go.Proofs.Ytfinpgkehjbcpaa
