/- Chapter 02: maps of ints to bools and to ints: what they hold. -/
import Derived.Test.YtfinpgkehjbcpaaChecked
import Derived.Test.YtfinpgkehjbcpaaMem
import Derived.Test.YtfinpgkehjbcpaaHPlain
import Derived.Maps.Own
import Derived.Maps.OwnOps
import Derived.Maps.Views
import Derived.Maps.OwnSet
import Derived.Test.YtfinpgkehjbcpaaWWalks
import Derived.BigGuard
import Derived.Deep.Draws
import Derived.LoopN
import Derived.WalkMore
import Derived.Deep.DeepCutAuto
import Derived.Deep.CutRange
import Derived.OneCell
namespace Go.Proofs.Ytfinpgkehjbcpaa
open Go.ChangeShapes Go.WideShapes Go.ChangeAt Go.RowKit Go.Deep Go.Joins Go.Maps
set_option linter.unusedVariables false
set_option linter.unusedSimpArgs false
theorem keyedI : Keyed Try.prog 3 := int_keyed Try.underlying3
theorem zeroI (w : World) : (zeroValue 3).run Try.prog w = .ok (.int .i64 0) w := by kernel_rfl
theorem zeroB (w : World) : (zeroValue 4).run Try.prog w = .ok (.bool false) w := by kernel_rfl
def InI (a : Int) : Prop := -9223372036854775808 ≤ a ∧ a ≤ 9223372036854775807
theorem InI.wf {a : Int} (h : InI a) : (Lit.int .i64 a).wf = true := WalkArith.wf_i64 h
theorem key_i {a : Int} (h : InI a) : keyOf Try.prog 3 (.int .i64 a) = some (.int .i64 a) := keyOf_int_mk Try.underlying3 h.wf
theorem plainElem_bool_inv {H : Type} {P : Program} {e : TypeId} (he : P.underlying e = some .bool) {v : Value} {z : DataW H × List MemPlace} (h : plainElem P e v = some z) : ∃ x : Bool, v = .bool x ∧ z = (.lit (.bool x), []) := by
  unfold plainElem at h
  rw [he] at h
  cases v <;> simp at h
  exact ⟨_, rfl, h.symm⟩
/-- block b is a map of at most n ints to bools, which holds what f says -/
def BoolMap (w : World) (b n : Nat) (f : Int → Bool) : Prop := ∃ D : DataW Unit, w.ownsMap Try.prog 3 (plainElem Try.prog 4) b n D ∧ ∀ a, InI a → D.atKey (.int .i64 a) (.lit (.bool false)) = .lit (.bool (f a))
def IntMap (w : World) (b n : Nat) (f : Int → Int) : Prop := ∃ D : DataW Unit, w.ownsMap Try.prog 3 (plainElem Try.prog 3) b n D ∧ ∀ a, InI a → D.atKey (.int .i64 a) (.lit (.int .i64 0)) = .lit (.int .i64 (f a))

theorem BoolMap.made (w : World) : BoolMap (w.alloc (.map #[] 0)) w.heap.size 0 (fun _ => false) := ⟨_, World.ownsMap_made _ _ _ _, fun a _ => rfl⟩
theorem BoolMap.mono {w : World} {b n n' : Nat} {f : Int → Bool} (h : BoolMap w b n f) (hn : n ≤ n') : BoolMap w b n' f := by
  obtain ⟨D, h1, h2⟩ := h; exact ⟨D, h1.mono hn, h2⟩
theorem BoolMap.lt {w : World} {b n : Nat} {f : Int → Bool} (h : BoolMap w b n f) : b < w.heap.size := by
  obtain ⟨D, h1, h2⟩ := h; exact h1.lt
theorem BoolMap.same {w w' : World} {b n : Nat} {f : Int → Bool} (h : BoolMap w b n f) (hb : w'.heap[b]? = w.heap[b]?) : BoolMap w' b n f := by
  obtain ⟨D, ⟨es, clock, h1, h3⟩, h2⟩ := h
  exact ⟨D, ⟨es, clock, hb.trans h1, h3⟩, h2⟩
theorem BoolMap.look {w : World} {b n : Nat} {f : Int → Bool} (h : BoolMap w b n f) {a : Int} (ha : InI a) : (Instr.lookup 94 (.map (some b)) (.int .i64 a) false).run Try.prog w = .ok (.bool (f a)) w := by
  obtain ⟨D, h1, h2⟩ := h
  obtain ⟨v, ps, hrun, hv⟩ := h1.lookup keyedI Try.underlying94 (zeroB w) (plainElem_bool Try.underlying4 false) (key_i ha)
  rw [h2 a ha] at hv
  obtain ⟨x, rfl, hx⟩ := plainElem_bool_inv Try.underlying4 hv
  simp only [Prod.mk.injEq, DataW.lit.injEq, Lit.bool.injEq] at hx
  skip
  first | (rw [hrun, ← hx.1]) | (rw [hrun]; rw [hx.1.1.2]) | (rw [hrun]; simp [hx.1])
theorem BoolMap.put {w w1 : World} {b n : Nat} {f : Int → Bool} {a : Int} {x : Bool} {D : DataW Unit} (hD : w.ownsMap Try.prog 3 (plainElem Try.prog 4) b n D) (hf : ∀ a, InI a → D.atKey (.int .i64 a) (.lit (.bool false)) = .lit (.bool (f a))) (h : w1.ownsMap Try.prog 3 (plainElem Try.prog 4) b (n + 1) (D.put (.int .i64 a) (.lit (.bool x)))) : BoolMap w1 b (n + 1) (fun c => if c = a then x else f c) := by
  refine ⟨_, h, fun c hc => ?_⟩
  dsimp only
  by_cases e : c = a
  · subst e
    rw [if_pos rfl]
    exact atKey_put_same (hD.isMap) (show WideAt.IsKeyLit (.int .i64 c) from trivial) _ _
  · rw [if_neg e, atKey_put_other (by intro q; cases q; exact e rfl), hf c hc]

theorem IntMap.made (w : World) : IntMap (w.alloc (.map #[] 0)) w.heap.size 0 (fun _ => 0) := ⟨_, World.ownsMap_made _ _ _ _, fun a _ => rfl⟩
theorem IntMap.mono {w : World} {b n n' : Nat} {f : Int → Int} (h : IntMap w b n f) (hn : n ≤ n') : IntMap w b n' f := by
  obtain ⟨D, h1, h2⟩ := h; exact ⟨D, h1.mono hn, h2⟩
theorem IntMap.lt {w : World} {b n : Nat} {f : Int → Int} (h : IntMap w b n f) : b < w.heap.size := by
  obtain ⟨D, h1, h2⟩ := h; exact h1.lt
theorem IntMap.same {w w' : World} {b n : Nat} {f : Int → Int} (h : IntMap w b n f) (hb : w'.heap[b]? = w.heap[b]?) : IntMap w' b n f := by
  obtain ⟨D, ⟨es, clock, h1, h3⟩, h2⟩ := h
  exact ⟨D, ⟨es, clock, hb.trans h1, h3⟩, h2⟩
theorem IntMap.look {w : World} {b n : Nat} {f : Int → Int} (h : IntMap w b n f) {a : Int} (ha : InI a) : (Instr.lookup 66 (.map (some b)) (.int .i64 a) false).run Try.prog w = .ok (.int .i64 (f a)) w := by
  obtain ⟨D, h1, h2⟩ := h
  obtain ⟨v, ps, hrun, hv⟩ := h1.lookup keyedI Try.underlying66 (zeroI w) (plainElem_int Try.underlying3 (by decide)) (key_i ha)
  rw [h2 a ha] at hv
  obtain ⟨x, rfl, hx⟩ := plainElem_int_inv Try.underlying3 hv
  simp only [Prod.mk.injEq, DataW.lit.injEq, Lit.int.injEq] at hx
  skip
  first | (rw [hrun, ← hx.1]) | (rw [hrun]; rw [hx.1.1.2]) | (rw [hrun]; simp [hx.1])
theorem IntMap.put {w w1 : World} {b n : Nat} {f : Int → Int} {a : Int} {x : Int} {D : DataW Unit} (hD : w.ownsMap Try.prog 3 (plainElem Try.prog 3) b n D) (hf : ∀ a, InI a → D.atKey (.int .i64 a) (.lit (.int .i64 0)) = .lit (.int .i64 (f a))) (h : w1.ownsMap Try.prog 3 (plainElem Try.prog 3) b (n + 1) (D.put (.int .i64 a) (.lit (.int .i64 x)))) : IntMap w1 b (n + 1) (fun c => if c = a then x else f c) := by
  refine ⟨_, h, fun c hc => ?_⟩
  dsimp only
  by_cases e : c = a
  · subst e
    rw [if_pos rfl]
    exact atKey_put_same (hD.isMap) (show WideAt.IsKeyLit (.int .i64 c) from trivial) _ _
  · rw [if_neg e, atKey_put_other (by intro q; cases q; exact e rfl), hf c hc]

/-- 'm[k] = v', at the operation -/
theorem wpList_putBool (w : World) {ops : Array Oper} {rest : List Oper} {o : Oper} {a : Act} {Q : Exit → Act → World → Prop} (hg : o.guard = none) (m x v : Operand) (hop : o.op = Op.mapUpdate 94 m x v) {b n : Nat} {f : Int → Bool} (hm : a.eval m = .map (some b)) (h : BoolMap w b n f) (hn : n < maxLen) {k : Int} {y : Bool} (hx : a.eval x = .int .i64 k) (hv : a.eval v = .bool y) (hk : InI k) 
    (hK : ∀ w', BoolMap w' b (n + 1) (fun c => if c = k then y else f c) → w.grownBy w' (some b) → wpList Try.prog ops Q rest (a.put o.dst undef) w') : wpList Try.prog ops Q (o :: rest) a w := by
  obtain ⟨D, h1, h2⟩ := h
  refine wpList_mapUpdate_own w hg m x v 94 hop 3 4 keyedI Try.underlying94 _ b n D hm h1 hn _ _ (.int .i64 k) hx hv (key_i hk) (.lit (.bool y)) [] (plainElem_bool Try.underlying4 y) (fun w' r1 r2 => hK w' (BoolMap.put h1 h2 r1) r2)
/-- 'm[k]', at the operation -/
theorem wpList_lookBool (w : World) {ops : Array Oper} {rest : List Oper} {o : Oper} {a : Act} {Q : Exit → Act → World → Prop} (hg : o.guard = none) (m x : Operand) (hop : o.op = Op.lookup 94 m x false) {b n : Nat} {f : Int → Bool} (hm : a.eval m = .map (some b)) (h : BoolMap w b n f) {k : Int} (hx : a.eval x = .int .i64 k) (hk : InI k)
    (hK : wpList Try.prog ops Q rest (a.put o.dst (.bool (f k))) w) : wpList Try.prog ops Q (o :: rest) a w := by
  refine wpList_plain hg fun K' hK' => ?_
  have hrun := h.look hk
  unfold Oper.wp
  simp [execOp, hop, hm, hx, hrun, Result.andThen]
  exact hK' _ _ hK

/-- 'm[k] = v', at the operation -/
theorem wpList_putInt (w : World) {ops : Array Oper} {rest : List Oper} {o : Oper} {a : Act} {Q : Exit → Act → World → Prop} (hg : o.guard = none) (m x v : Operand) (hop : o.op = Op.mapUpdate 66 m x v) {b n : Nat} {f : Int → Int} (hm : a.eval m = .map (some b)) (h : IntMap w b n f) (hn : n < maxLen) {k : Int} {y : Int} (hx : a.eval x = .int .i64 k) (hv : a.eval v = .int .i64 y) (hk : InI k) (hx2 : InI y) 
    (hK : ∀ w', IntMap w' b (n + 1) (fun c => if c = k then y else f c) → w.grownBy w' (some b) → wpList Try.prog ops Q rest (a.put o.dst undef) w') : wpList Try.prog ops Q (o :: rest) a w := by
  obtain ⟨D, h1, h2⟩ := h
  refine wpList_mapUpdate_own w hg m x v 66 hop 3 3 keyedI Try.underlying66 _ b n D hm h1 hn _ _ (.int .i64 k) hx hv (key_i hk) (.lit (.int .i64 y)) [] (plainElem_int Try.underlying3 hx2.wf) (fun w' r1 r2 => hK w' (IntMap.put h1 h2 r1) r2)
/-- 'm[k]', at the operation -/
theorem wpList_lookInt (w : World) {ops : Array Oper} {rest : List Oper} {o : Oper} {a : Act} {Q : Exit → Act → World → Prop} (hg : o.guard = none) (m x : Operand) (hop : o.op = Op.lookup 66 m x false) {b n : Nat} {f : Int → Int} (hm : a.eval m = .map (some b)) (h : IntMap w b n f) {k : Int} (hx : a.eval x = .int .i64 k) (hk : InI k)
    (hK : wpList Try.prog ops Q rest (a.put o.dst (.int .i64 (f k))) w) : wpList Try.prog ops Q (o :: rest) a w := by
  refine wpList_plain hg fun K' hK' => ?_
  have hrun := h.look hk
  unfold Oper.wp
  simp [execOp, hop, hm, hx, hrun, Result.andThen]
  exact hK' _ _ hK
end Go.Proofs.Ytfinpgkehjbcpaa
/- Chapter 02: how a memory lies in the program's memory. -/
namespace Go.Proofs.Ytfinpgkehjbcpaa
open Go.ChangeShapes Go.WideShapes Go.ChangeAt Go.RowKit Go.Deep Go.Joins Go.Maps
set_option linter.unusedVariables false
set_option linter.unusedSimpArgs false

structure PM (w : World) (s bw bm : Nat) (m : Hp) : Prop where
  good : Good m
  box : w.heap[s]? = some (.cells #[.slice (some ⟨bw, 0, none⟩) m.size m.size, .int .i64 (adr m.L m.L.length : Int), .int .i64 (m.made : Int), .map (some bm)] 96 (0, 0))
  row : ∃ ys : List Int, ys.length = m.size ∧ Words m.L ys ∧ w.heap[bw]? = some (.cells (ys.map (Value.int .i64)).toArray 3 (0, 0))
  map : ∃ n f, n ≤ m.L.length ∧ BoolMap w bm n f ∧ ∀ a, InI a → (f a = true ↔ ∃ i, i < m.L.length ∧ (adr m.L i : Int) = a)
section
variable {w w' : World} {s bw bm : Nat} {m : Hp}
theorem PM.same (h : PM w s bw bm m) (h1 : w'.heap[s]? = w.heap[s]?) (h2 : w'.heap[bw]? = w.heap[bw]?) (h3 : w'.heap[bm]? = w.heap[bm]?) : PM w' s bw bm m := by
  obtain ⟨g, b, ⟨ys, y1, y2, y3⟩, n, f, m1, m2, m3⟩ := h
  exact ⟨g, h1.trans b, ⟨ys, y1, y2, h2.trans y3⟩, n, f, m1, m2.same h3, m3⟩
theorem PM.drewN (h : PM w s bw bm m) (n : Nat) : PM (w.drewN n) s bw bm m := h.same rfl rfl rfl
theorem PM.c0 (h : PM w s bw bm m) : w.cell? ⟨s, 0, none⟩ = some (.slice (some ⟨bw, 0, none⟩) m.size m.size) := by simp [World.cell?, h.box]
theorem PM.c1 (h : PM w s bw bm m) : w.cell? ⟨s, 1, none⟩ = some (.int .i64 (adr m.L m.L.length : Int)) := by simp [World.cell?, h.box]
theorem PM.c2 (h : PM w s bw bm m) : w.cell? ⟨s, 2, none⟩ = some (.int .i64 (m.made : Int)) := by simp [World.cell?, h.box]
theorem PM.c3 (h : PM w s bw bm m) : w.cell? ⟨s, 3, none⟩ = some (.map (some bm)) := by simp [World.cell?, h.box]
theorem ints_cell {b : Nat} {ys : List Int} (h : w.heap[b]? = some (.cells (ys.map (Value.int .i64)).toArray 3 (0, 0))) {k : Nat} (hk : k < ys.length) : w.cell? ⟨b, k, none⟩ = some (.int .i64 (ys.getD k 0)) := by
  unfold World.cell?
  rw [h]
  simp [List.getD_eq_getElem?_getD, List.getElem?_eq_getElem hk]
theorem ints_free {b : Nat} {ys : List Int} (h : w.heap[b]? = some (.cells (ys.map (Value.int .i64)).toArray 3 (0, 0))) (k : Nat) : w.frozen? ⟨b, k, none⟩ = false := by simp [World.frozen?, h]
theorem PM.low (h : PM w s bw bm m) {k : Nat} (hk : k < 3) : w.cell? ⟨bw, k, none⟩ = some (.int .i64 0) := by
  obtain ⟨ys, y1, y2, y3⟩ := h.row
  have := h.good.lo
  rw [ints_cell y3 (by omega), words_low y2 hk]
theorem PM.at_ (h : PM w s bw bm m) {i k : Nat} (hi : i < m.L.length) (hk : k < m.L[i].F.length + 3) : w.cell? ⟨bw, adr m.L i + k, none⟩ = some (.int .i64 ((encO m.L[i]).getD k 0)) ∧ adr m.L i + k < m.size := by
  obtain ⟨ys, y1, y2, y3⟩ := h.row
  have h1 := adr_succ m.L i hi
  have h2 := adr_le h.good (i + 1)
  have h3 : adr m.L i + k < m.size := by omega
  exact ⟨by rw [ints_cell y3 (by omega), words_at y2 hi hk], h3⟩
theorem adr_bd (h : Good m) (i : Nat) : 3 ≤ adr m.L i ∧ adr m.L i ≤ 131072 := by
  have := adr_le h i; have := h.hi; exact ⟨adr_ge _ _, by omega⟩
theorem adr_lt_size (h : Good m) {i : Nat} (hi : i < m.L.length) : adr m.L i + 3 ≤ m.size := by
  have h1 := adr_succ m.L i hi
  have h2 := adr_le h (i + 1)
  omega
theorem pointer_bounds {a : Int} (h : isPointerV a = true) : 6 ≤ a ∧ a ≤ 262144 ∧ a % 2 = 0 := of_decide_eq_true h
theorem address_of {a : Int} (h : isPointerV a = true) : addressV a = a / 2 := by unfold addressV; rw [h]; rfl
/-- the map tells, of a pointer's address, whether it is an object's -/
theorem PM.look (h : PM w s bw bm m) {a : Int} (hp : isPointerV a = true) : (Instr.lookup 94 (.map (some bm)) (.int .i64 (addressV a)) false).run Try.prog w = .ok (.bool (isV m.L a)) w := by
  obtain ⟨n, f, m1, m2, m3⟩ := h.map
  have hb := pointer_bounds hp
  have e := address_of hp
  have hin : InI (addressV a) := by rw [e]; unfold InI; omega
  rw [m2.look hin]
  have : f (addressV a) = isV m.L a := by
    cases hv : isV m.L a
    · cases hf : f (addressV a)
      · rfl
      · obtain ⟨i, hi, h2⟩ := (m3 _ hin).1 hf
        have : isV m.L a = true := isV_iff.2 ⟨i, hi, by unfold ptr; rw [h2, e]; omega⟩
        rw [hv] at this; cases this
    · obtain ⟨i, hi, h2⟩ := isV_iff.1 hv
      exact (m3 _ hin).2 ⟨i, hi, by rw [e]; unfold ptr at h2; omega⟩
  rw [this]
/-- what is an object's pointer is a pointer -/
theorem isV_pointer (h : Good m) {a : Int} (hv : isV m.L a = true) : isPointerV a = true := by
  obtain ⟨i, hi, h2⟩ := isV_iff.1 hv
  have := adr_bd h i
  unfold ptr at h2
  exact decide_eq_true (by omega)
end
def zeroO : Ob := ⟨0, 0, 0, []⟩
def lookO (L : List Ob) (a : Int) : Ob := match plc L a with | some i => L.getD i zeroO | none => zeroO
def atN (L : List Ob) (a : Int) : Nat := match plc L a with | some i => adr L i | none => 0
theorem atN_yes {L : List Ob} {a : Int} (h : isV L a = true) : ∃ i, ∃ hi : i < L.length, plc L a = some i ∧ a = ptr L i ∧ atN L a = adr L i ∧ lookO L a = L[i] := by
  obtain ⟨i, hi, rfl⟩ := isV_iff.1 h
  refine ⟨i, hi, plc_at hi, rfl, ?_, ?_⟩
  · unfold atN; rw [plc_at hi]
  · unfold lookO; rw [plc_at hi]; simp [List.getD_eq_getElem?_getD, List.getElem?_eq_getElem hi]
theorem atN_no {L : List Ob} {a : Int} (h : isV L a = false) : atN L a = 0 ∧ lookO L a = zeroO ∧ plc L a = none := by
  unfold isV at h
  unfold atN lookO
  cases hp : plc L a with
  | none => exact ⟨rfl, rfl, rfl⟩
  | some i => rw [hp] at h; cases h
theorem PM.head {w : World} {s bw bm : Nat} {m : Hp} (h : PM w s bw bm m) (a : Int) {k : Nat} (hk : k < 3) : w.cell? ⟨bw, atN m.L a + k, none⟩ = some (.int .i64 ((encO (lookO m.L a)).getD k 0)) ∧ atN m.L a + k < m.size := by
  cases hv : isV m.L a
  · obtain ⟨e1, e2, _⟩ := atN_no hv
    have := h.good.lo
    rw [e1, e2, Nat.zero_add, h.low hk]
    refine ⟨?_, by omega⟩
    match k, hk with
    | 0, _ => rfl
    | 1, _ => rfl
    | 2, _ => rfl
  · obtain ⟨i, hi, _, _, e1, e2⟩ := atN_yes hv
    rw [e1, e2]
    exact h.at_ hi (by omega)
theorem look_fmt {m : Hp} (h : Good m) (a : Int) : 0 ≤ (lookO m.L a).fmt ∧ (lookO m.L a).fmt ≤ 2 ∧ (lookO m.L a).F.length ≤ 256 := by
  cases hv : isV m.L a
  · rw [(atN_no hv).2.1]; decide
  · obtain ⟨i, hi, _, _, _, e2⟩ := atN_yes hv
    rw [e2]
    have h1 := h.fmt _ (List.getElem_mem hi)
    have h2 := h.len _ (List.getElem_mem hi)
    exact ⟨h1.1, h1.2, h2⟩
theorem and_3 (a : Int) : bits .and .i64 a 3 = a % 4 := by
  have h := and_nat a 3 (by omega)
  have e : (a % 18446744073709551616).toNat &&& 3 = (a % 18446744073709551616).toNat % 4 := Nat.and_two_pow_sub_one_eq_mod _ 2
  rw [e] at h
  rw [show (3 : Int) = ((3 : Nat) : Int) from rfl, h]; omega
theorem ret_int {a b : Int} (h : a = b) : Ending.returned (.int .i64 a) = .returned (.int .i64 b) := by rw [h]
theorem ret_bool {a b : Bool} (h : a = b) : Ending.returned (.bool a) = .returned (.bool b) := by rw [h]
def mayV (L : List Ob) (a : Int) : Bool := a == 0 || a == 2 || a == 4 || isSmallV a || isV L a
def fieldV (L : List Ob) (a i : Int) : Int × Int := if isV L a then (if i < 0 ∨ (lookO L a).F.length ≤ i then (0, 5) else ((atN L a : Int) + 3 + i, 0)) else (0, 1)
def getV (L : List Ob) (a i : Int) : Int × Int := if isV L a then (if i < 0 ∨ (lookO L a).F.length ≤ i then (0, 5) else ((lookO L a).F.getD i.toNat 0, 0)) else (0, 1)
theorem PM.field {w : World} {s bw bm : Nat} {m : Hp} (h : PM w s bw bm m) {a : Int} (hv : isV m.L a = true) {j : Nat} (hj : j < (lookO m.L a).F.length) : w.cell? ⟨bw, atN m.L a + 3 + j, none⟩ = some (.int .i64 ((lookO m.L a).F.getD j 0)) ∧ atN m.L a + 3 + j < m.size := by
  obtain ⟨i, hi, _, _, e1, e2⟩ := atN_yes hv
  rw [e2] at hj ⊢
  rw [e1]
  obtain ⟨h1, h2⟩ := h.at_ hi (show 3 + j < m.L[i].F.length + 3 by omega)
  rw [← Nat.add_assoc] at h1 h2
  refine ⟨by rw [h1]; congr 2; unfold encO; rw [show 3 + j = j + 1 + 1 + 1 by omega]; rfl, h2⟩
theorem atN_pos {m : Hp} {a : Int} (hv : isV m.L a = true) : 3 ≤ atN m.L a := by
  obtain ⟨i, hi, _, _, e1, _⟩ := atN_yes hv
  rw [e1]; exact adr_ge _ _
end Go.Proofs.Ytfinpgkehjbcpaa
/- Chapter 02: contracts of the memory's methods that only read. -/
namespace Go.Proofs.Ytfinpgkehjbcpaa
open Go.ChangeShapes Go.WideShapes Go.ChangeAt Go.RowKit
set_option linter.unusedVariables false
set_option linter.unusedSimpArgs false

set_option maxRecDepth 100000 in
set_option maxHeartbeats 8000000 in
theorem is_any {w : World} {s bw bm : Nat} {m : Hp} (h : PM w s bw bm m) (a : Int) : Calls Try.prog 70 #[.pointer (some ⟨s, 0, none⟩), .int .i64 a] w fun e w' => e = .returned (.bool (isV m.L a)) ∧ ∃ n, w' = w.drewN n := by
  have c3 := h.c3
  cases hp : isPointerV a
  · have hv : isV m.L a = false := by
      cases hv : isV m.L a
      · rfl
      · rw [isV_pointer h.good hv] at hp; cases hp
    have HV := Lib.hid hv
    have hip : ∀ w', Calls Try.prog 78 #[.int .i64 a] w' fun e w'' => e = .returned (.bool false) ∧ w'' = w' := fun w' => by have := isPointer_any a w'; rw [hp] at this; exact this
    have HIP := Lib.hid hip
    clear hv hp hip h
    go_enter Try.func70, Try.ntmps70
    go_wp2_with fail
    go_quiet ((go_at_call 78; exact Calls.quiet_of_same (HIP.out _)))
    go_wp2_with fail
    go_ret
    refine ⟨?_, _, rfl⟩
    rw [HV.out]; rfl
  · have hip : ∀ w', Calls Try.prog 78 #[.int .i64 a] w' fun e w'' => e = .returned (.bool true) ∧ w'' = w' := fun w' => by have := isPointer_any a w'; rw [hp] at this; exact this
    have hlk : ∀ n, (Instr.lookup 94 (.map (some bm)) (.int .i64 (addressV a)) false).run Try.prog (w.drewN n) = .ok (.bool (isV m.L a)) (w.drewN n) := fun n => (h.drewN n).look hp
    have HIP := Lib.hid hip
    obtain ⟨v, hv⟩ : ∃ v, isV m.L a = v := ⟨_, rfl⟩
    rw [hv] at hlk ⊢
    obtain ⟨ad, had'⟩ : ∃ ad, addressV a = ad := ⟨_, rfl⟩
    rw [had'] at hlk
    have had : ∀ w', Calls Try.prog 93 #[.int .i64 a] w' fun e w'' => e = .returned (.int .i64 ad) ∧ w'' = w' := fun w' => by have := address_any a w'; rw [had'] at this; exact this
    have HAD := Lib.hid had
    clear hv hp hip had h had'
    go_enter Try.func70, Try.ntmps70
    go_wp2_with fail
    go_quiet ((first | (go_at_call 78; exact Calls.quiet_of_same (HIP.out _)) | (go_at_call 93; exact Calls.quiet_of_same (HAD.out _))))
    go_wp2_with fail
    go_ret
    exact ⟨rfl, _, rfl⟩

set_option maxRecDepth 100000 in
set_option maxHeartbeats 8000000 in
theorem at_any {w : World} {s bw bm : Nat} {m : Hp} (h : PM w s bw bm m) (a : Int) : Calls Try.prog 66 #[.pointer (some ⟨s, 0, none⟩), .int .i64 a] w fun e w' => e = .returned (.int .i64 (atN m.L a : Int)) ∧ ∃ n, w' = w.drewN n := by
  cases hv : isV m.L a
  · have HV := Lib.hid hv
    have HA : Hid (atN m.L a = 0) := (atN_no hv).1
    clear hv
    go_enter Try.func66, Try.ntmps66
    go_wp2_with (go_at_call 70; (with_reducible refine (is_any h a).mono ?_); rw [HV.out]; rintro e w1 ⟨rfl, n1, rfl⟩)
    go_ret
    exact ⟨by rw [HA.out]; rfl, _, rfl⟩
  · have HV := Lib.hid hv
    have HA : Hid (addressV a = (atN m.L a : Int)) := by
      obtain ⟨i, hi, _, e, e1, _⟩ := atN_yes hv
      show _ = _
      rw [address_of (isV_pointer h.good hv), e1, e]; unfold ptr; omega
    clear hv
    go_enter Try.func66, Try.ntmps66
    go_wp2_with (first | (go_at_call 70; (with_reducible refine (is_any h a).mono ?_); rw [HV.out]; rintro e w1 ⟨rfl, n1, rfl⟩) | (go_at_call 93; (with_reducible refine (address_any a _).mono ?_); rw [HA.out]; rintro e w2 ⟨rfl, rfl⟩))
    go_ret
    exact ⟨rfl, _, rfl⟩

set_option maxRecDepth 100000 in
set_option maxHeartbeats 8000000 in
theorem class_any {w : World} {s bw bm : Nat} {m : Hp} (h : PM w s bw bm m) (a : Int) : Calls Try.prog 56 #[.pointer (some ⟨s, 0, none⟩), .int .i64 a] w fun e w' => e = .returned (.int .i64 (lookO m.L a).cls) ∧ ∃ n, w' = w.drewN n := by
  have c0 := h.c0
  obtain ⟨hc, hlt⟩ := h.head a (show 1 < 3 by decide)
  obtain ⟨t, ht⟩ : ∃ t, atN m.L a = t := ⟨_, rfl⟩
  have HT := Lib.hid ht
  have hsz := h.good.hi
  have hff := look_fmt h.good a
  rw [ht] at hc hlt
  obtain ⟨x, hx⟩ : ∃ x, (encO (lookO m.L a)).getD 1 0 = x := ⟨_, rfl⟩
  have HX := Lib.hid hx
  rw [hx] at hc
  have g0 : (0 : Int) ≤ (t : Int) + 1 := by omega
  have g1 : (t : Int) + 1 < (m.size : Int) := by omega
  have hand := and_3 x

  
  clear hx ht hff
  have hat : ∀ n, Calls Try.prog 66 #[.pointer (some ⟨s, 0, none⟩), .int .i64 a] (w.drewN n) fun e w' => e = .returned (.int .i64 (t : Int)) ∧ ∃ k, w' = (w.drewN n).drewN k := fun n => by have := at_any (h.drewN n) a; rw [HT.out] at this; exact this
  have HAT := Lib.hid hat
  have hwr : IntKind.i64.wrap ((t : Int) + 1) = (t : Int) + 1 := by rw [IntKind.wrap_i64]; omega
  clear hat h
  go_enter Try.func56, Try.ntmps56
  go_wp2_with fail
  go_quiet ((go_at_call 66; exact Calls.quiet_of (HAT.out _)))
  go_wp2_with fail
  go_ret
  exact ⟨ret_int (HX.out.symm), _, rfl⟩

set_option maxRecDepth 100000 in
set_option maxHeartbeats 8000000 in
theorem hash_any {w : World} {s bw bm : Nat} {m : Hp} (h : PM w s bw bm m) (a : Int) : Calls Try.prog 58 #[.pointer (some ⟨s, 0, none⟩), .int .i64 a] w fun e w' => e = .returned (.int .i64 (lookO m.L a).hash) ∧ ∃ n, w' = w.drewN n := by
  have c0 := h.c0
  obtain ⟨hc, hlt⟩ := h.head a (show 2 < 3 by decide)
  obtain ⟨t, ht⟩ : ∃ t, atN m.L a = t := ⟨_, rfl⟩
  have HT := Lib.hid ht
  have hsz := h.good.hi
  have hff := look_fmt h.good a
  rw [ht] at hc hlt
  obtain ⟨x, hx⟩ : ∃ x, (encO (lookO m.L a)).getD 2 0 = x := ⟨_, rfl⟩
  have HX := Lib.hid hx
  rw [hx] at hc
  have g0 : (0 : Int) ≤ (t : Int) + 2 := by omega
  have g1 : (t : Int) + 2 < (m.size : Int) := by omega
  have hand := and_3 x

  
  clear hx ht hff
  have hat : ∀ n, Calls Try.prog 66 #[.pointer (some ⟨s, 0, none⟩), .int .i64 a] (w.drewN n) fun e w' => e = .returned (.int .i64 (t : Int)) ∧ ∃ k, w' = (w.drewN n).drewN k := fun n => by have := at_any (h.drewN n) a; rw [HT.out] at this; exact this
  have HAT := Lib.hid hat
  have hwr : IntKind.i64.wrap ((t : Int) + 2) = (t : Int) + 2 := by rw [IntKind.wrap_i64]; omega
  clear hat h
  go_enter Try.func58, Try.ntmps58
  go_wp2_with fail
  go_quiet ((go_at_call 66; exact Calls.quiet_of (HAT.out _)))
  go_wp2_with fail
  go_ret
  exact ⟨ret_int (HX.out.symm), _, rfl⟩

set_option maxRecDepth 100000 in
set_option maxHeartbeats 8000000 in
theorem format_any {w : World} {s bw bm : Nat} {m : Hp} (h : PM w s bw bm m) (a : Int) : Calls Try.prog 57 #[.pointer (some ⟨s, 0, none⟩), .int .i64 a] w fun e w' => e = .returned (.int .i64 (lookO m.L a).fmt) ∧ ∃ n, w' = w.drewN n := by
  have c0 := h.c0
  obtain ⟨hc, hlt⟩ := h.head a (show 0 < 3 by decide)
  obtain ⟨t, ht⟩ : ∃ t, atN m.L a = t := ⟨_, rfl⟩
  have HT := Lib.hid ht
  have hsz := h.good.hi
  have hff := look_fmt h.good a
  rw [ht] at hc hlt
  obtain ⟨x, hx⟩ : ∃ x, (encO (lookO m.L a)).getD 0 0 = x := ⟨_, rfl⟩
  have HX := Lib.hid hx
  rw [hx] at hc
  have g0 : (0 : Int) ≤ (t : Int) := by omega
  have g1 : (t : Int) < (m.size : Int) := by omega
  have hand := and_3 x
  have HR : Hid (x % 4 = (lookO m.L a).fmt) := by show _ = _; rw [← hx]; show (4 * ((lookO m.L a).F.length : Int) + (lookO m.L a).fmt) % 4 = _; omega
  rw [Nat.add_zero] at hc
  clear hx ht hff
  have hat : ∀ n, Calls Try.prog 66 #[.pointer (some ⟨s, 0, none⟩), .int .i64 a] (w.drewN n) fun e w' => e = .returned (.int .i64 (t : Int)) ∧ ∃ k, w' = (w.drewN n).drewN k := fun n => by have := at_any (h.drewN n) a; rw [HT.out] at this; exact this
  have HAT := Lib.hid hat
  have hwr : IntKind.i64.wrap ((t : Int)) = (t : Int) := by rw [IntKind.wrap_i64]; omega
  clear hat h
  go_enter Try.func57, Try.ntmps57
  go_wp2_with fail
  go_quiet ((go_at_call 66; exact Calls.quiet_of (HAT.out _)))
  go_wp2_with fail
  go_ret
  exact ⟨ret_int (HR.out), _, rfl⟩

set_option maxRecDepth 100000 in
set_option maxHeartbeats 8000000 in
theorem fields_any {w : World} {s bw bm : Nat} {m : Hp} (h : PM w s bw bm m) (a : Int) : Calls Try.prog 59 #[.pointer (some ⟨s, 0, none⟩), .int .i64 a] w fun e w' => e = .returned (.int .i64 ((lookO m.L a).F.length : Int)) ∧ ∃ n, w' = w.drewN n := by
  have c0 := h.c0
  obtain ⟨hc, hlt⟩ := h.head a (show 0 < 3 by decide)
  obtain ⟨t, ht⟩ : ∃ t, atN m.L a = t := ⟨_, rfl⟩
  have HT := Lib.hid ht
  have hsz := h.good.hi
  have hff := look_fmt h.good a
  rw [ht] at hc hlt
  obtain ⟨x, hx⟩ : ∃ x, (encO (lookO m.L a)).getD 0 0 = x := ⟨_, rfl⟩
  have HX := Lib.hid hx
  rw [hx] at hc
  have g0 : (0 : Int) ≤ (t : Int) := by omega
  have g1 : (t : Int) < (m.size : Int) := by omega
  have hand := and_3 x
  have HR : Hid (x / 4 = ((lookO m.L a).F.length : Int)) := by show _ = _; rw [← hx]; show (4 * ((lookO m.L a).F.length : Int) + (lookO m.L a).fmt) / 4 = _; omega
  rw [Nat.add_zero] at hc
  clear hx ht hff
  have hat : ∀ n, Calls Try.prog 66 #[.pointer (some ⟨s, 0, none⟩), .int .i64 a] (w.drewN n) fun e w' => e = .returned (.int .i64 (t : Int)) ∧ ∃ k, w' = (w.drewN n).drewN k := fun n => by have := at_any (h.drewN n) a; rw [HT.out] at this; exact this
  have HAT := Lib.hid hat
  have hwr : IntKind.i64.wrap ((t : Int)) = (t : Int) := by rw [IntKind.wrap_i64]; omega
  clear hat h
  go_enter Try.func59, Try.ntmps59
  go_wp2_with fail
  go_quiet ((go_at_call 66; exact Calls.quiet_of (HAT.out _)))
  go_wp2_with fail
  go_ret
  exact ⟨ret_int (HR.out), _, rfl⟩

set_option maxRecDepth 100000 in
set_option maxHeartbeats 8000000 in
theorem size_any {w : World} {s bw bm : Nat} {m : Hp} (h : PM w s bw bm m) : Calls Try.prog 55 #[.pointer (some ⟨s, 0, none⟩)] w fun e w' => e = .returned (.int .i64 (m.size : Int)) ∧ w' = w := by
  have c0 := h.c0
  have hsz := h.good.hi
  clear h
  go_enter Try.func55, Try.ntmps55
  go_wp2_with fail
  go_ret
  exact ⟨rfl, rfl⟩
theorem made_any {w : World} {s bw bm : Nat} {m : Hp} (h : PM w s bw bm m) : Calls Try.prog 38 #[.pointer (some ⟨s, 0, none⟩)] w fun e w' => e = .returned (.int .i64 (m.made : Int)) ∧ w' = w := by
  have c2 := h.c2
  clear h
  go_enter Try.func38, Try.ntmps38
  go_wp2_with fail
  go_ret
  exact ⟨rfl, rfl⟩
theorem room_any {w : World} {s bw bm : Nat} {m : Hp} (h : PM w s bw bm m) : Calls Try.prog 63 #[.pointer (some ⟨s, 0, none⟩)] w fun e w' => e = .returned (.int .i64 ((m.size : Int) - (adr m.L m.L.length : Int))) ∧ ∃ n, w' = w.drewN n := by
  have c0 := h.c0
  have c1 := h.c1
  have hsz := h.good.hi
  have ha := adr_bd h.good m.L.length
  obtain ⟨t, ht⟩ : ∃ t, adr m.L m.L.length = t := ⟨_, rfl⟩
  rw [ht] at c1 ha ⊢
  have hwr : IntKind.i64.wrap ((m.size : Int) - (t : Int)) = (m.size : Int) - (t : Int) := by rw [IntKind.wrap_i64]; omega
  clear h ht
  go_enter Try.func63, Try.ntmps63
  go_wp2_with fail
  go_quiet (fail)
  go_wp2_with fail
  go_ret
  exact ⟨rfl, _, rfl⟩
theorem may_any {w : World} {s bw bm : Nat} {m : Hp} (h : PM w s bw bm m) (a : Int) : Calls Try.prog 35 #[.pointer (some ⟨s, 0, none⟩), .int .i64 a] w fun e w' => e = .returned (.bool (mayV m.L a)) ∧ ∃ n, w' = w.drewN n := by
  by_cases h0 : a = 0
  · subst h0
    go_enter Try.func35, Try.ntmps35
    go_wp2_with fail
    go_ret
    exact ⟨rfl, 0, rfl⟩
  by_cases h2 : a = 2
  · subst h2
    go_enter Try.func35, Try.ntmps35
    go_wp2_with fail
    go_ret
    exact ⟨rfl, 0, rfl⟩
  by_cases h4 : a = 4
  · subst h4
    go_enter Try.func35, Try.ntmps35
    go_wp2_with fail
    go_ret
    exact ⟨rfl, 0, rfl⟩
  have e0 : (a == 0) = false := by simpa using h0
  have e2 : (a == 2) = false := by simpa using h2
  have e4 : (a == 4) = false := by simpa using h4
  cases hs : isSmallV a
  · have HS := Lib.hid hs
    have HM : Hid (mayV m.L a = isV m.L a) := by show _ = _; unfold mayV; rw [e0, e2, e4, hs]; rfl
    clear hs h0 h2 h4
    go_enter Try.func35, Try.ntmps35
    go_wp2_with (first | (go_at_call 69; (with_reducible refine (isSmall_any a _).mono ?_); rw [HS.out]; rintro e w1 ⟨rfl, rfl⟩) | (go_at_call 70; (with_reducible refine (is_any h a).mono ?_); rintro e w1 ⟨rfl, n1, rfl⟩))
    go_ret
    exact ⟨ret_bool HM.out.symm, _, rfl⟩
  · have HS := Lib.hid hs
    have HM : Hid (mayV m.L a = true) := by show _ = _; unfold mayV; rw [e0, e2, e4, hs]; rfl
    clear hs h0 h2 h4
    go_enter Try.func35, Try.ntmps35
    go_wp2_with (go_at_call 69; (with_reducible refine (isSmall_any a _).mono ?_); rw [HS.out]; rintro e w1 ⟨rfl, rfl⟩)
    go_ret
    exact ⟨ret_bool HM.out.symm, 0, rfl⟩

set_option maxRecDepth 100000 in
set_option maxHeartbeats 8000000 in
theorem field_any {w : World} {s bw bm : Nat} {m : Hp} (h : PM w s bw bm m) (a i : Int) (hi : InI i) : Calls Try.prog 67 #[.pointer (some ⟨s, 0, none⟩), .int .i64 a, .int .i64 i] w fun e w' => e = .returned (.tuple #[.int .i64 (fieldV m.L a i).1, .int .i64 (fieldV m.L a i).2]) ∧ ∃ n, w' = w.drewN n := by
  obtain ⟨t, ht⟩ : ∃ t, atN m.L a = t := ⟨_, rfl⟩
  have HT := Lib.hid ht
  obtain ⟨nf, hn⟩ : ∃ nf, (lookO m.L a).F.length = nf := ⟨_, rfl⟩
  have HN : Hid (((lookO m.L a).F.length : Int) = (nf : Int)) := by show _ = _; rw [hn]
  have hn3 := (look_fmt h.good a).2.2
  rw [hn] at hn3
  cases hv : isV m.L a
  · have HF : Hid (fieldV m.L a i = (0, 1)) := by show _ = _; unfold fieldV; rw [hv]; rfl
    obtain rfl : t = 0 := by rw [← ht]; exact (atN_no hv).1
    rw [HF.out]
    clear ht hn hv
    go_enter Try.func67, Try.ntmps67
    go_wp2_with (first | (go_at_call 66; (with_reducible refine (at_any h a).mono ?_); rw [HT.out]; rintro e w1 ⟨rfl, n1, rfl⟩; have h1 := h.drewN n1) | (go_at_call 59; (with_reducible refine (fields_any h1 a).mono ?_); rw [HN.out]; rintro e w2 ⟨rfl, n2, rfl⟩))
    go_ret2
    exact ⟨rfl, _, rfl⟩
  · have h3 := atN_pos (m := m) hv
    have hbt : t ≤ 131072 := by
      obtain ⟨i, hi, _, _, e1, _⟩ := atN_yes hv
      rw [← ht, e1]; exact (adr_bd h.good i).2
    rw [ht] at h3
    have e0 : ((t : Int) == 0) = false := by simp; omega
    unfold InI at hi
    obtain ⟨hi1, hi2⟩ := hi
    by_cases c1 : i < 0
    · have d1 : decide (i < 0) = true := decide_eq_true c1
      have HF : Hid (fieldV m.L a i = (0, 5)) := by show _ = _; unfold fieldV; rw [hv, if_pos rfl, if_pos (.inl c1)]
      rw [HF.out]
      clear ht hn hv
      go_enter Try.func67, Try.ntmps67
      go_wp2_with (first | (go_at_call 66; (with_reducible refine (at_any h a).mono ?_); rw [HT.out]; rintro e w1 ⟨rfl, n1, rfl⟩; have h1 := h.drewN n1) | (go_at_call 59; (with_reducible refine (fields_any h1 a).mono ?_); rw [HN.out]; rintro e w2 ⟨rfl, n2, rfl⟩))
      go_ret2
      exact ⟨rfl, _, rfl⟩
    · have d1 : decide (i < 0) = false := decide_eq_false c1
      by_cases c2 : (nf : Int) ≤ i
      · have d2 : decide ((nf : Int) ≤ i) = true := decide_eq_true c2
        have HF : Hid (fieldV m.L a i = (0, 5)) := by show _ = _; unfold fieldV; rw [hv, if_pos rfl, if_pos (.inr (by rw [hn]; exact c2))]
        rw [HF.out]
        clear ht hn hv
        go_enter Try.func67, Try.ntmps67
        go_wp2_with (first | (go_at_call 66; (with_reducible refine (at_any h a).mono ?_); rw [HT.out]; rintro e w1 ⟨rfl, n1, rfl⟩; have h1 := h.drewN n1) | (go_at_call 59; (with_reducible refine (fields_any h1 a).mono ?_); rw [HN.out]; rintro e w2 ⟨rfl, n2, rfl⟩))
        go_ret2
        exact ⟨rfl, _, rfl⟩
      · have d2 : decide ((nf : Int) ≤ i) = false := decide_eq_false c2
        have HF : Hid (fieldV m.L a i = ((t : Int) + 3 + i, 0)) := by show _ = _; unfold fieldV; rw [hv, if_pos rfl, if_neg (by rw [hn]; omega), ht]
        rw [HF.out]
        clear ht hn hv
        go_enter Try.func67, Try.ntmps67
        go_wp2_with (first | (go_at_call 66; (with_reducible refine (at_any h a).mono ?_); rw [HT.out]; rintro e w1 ⟨rfl, n1, rfl⟩; have h1 := h.drewN n1) | (go_at_call 59; (with_reducible refine (fields_any h1 a).mono ?_); rw [HN.out]; rintro e w2 ⟨rfl, n2, rfl⟩))
        go_ret2
        exact ⟨rfl, _, rfl⟩

set_option maxRecDepth 100000 in
set_option maxHeartbeats 8000000 in
theorem get_any {w : World} {s bw bm : Nat} {m : Hp} (h : PM w s bw bm m) (a i : Int) (hi : InI i) : Calls Try.prog 60 #[.pointer (some ⟨s, 0, none⟩), .int .i64 a, .int .i64 i] w fun e w' => e = .returned (.tuple #[.int .i64 (getV m.L a i).1, .int .i64 (getV m.L a i).2]) ∧ ∃ n, w' = w.drewN n := by
  cases hv : isV m.L a
  · have HF : Hid (fieldV m.L a i = (0, 1)) := by show _ = _; unfold fieldV; rw [hv]; rfl
    have HG : Hid (getV m.L a i = (0, 1)) := by show _ = _; unfold getV; rw [hv]; rfl
    rw [HG.out]
    clear hv
    go_enter Try.func60, Try.ntmps60
    go_wp2_with (go_at_call 67; (with_reducible refine (field_any h a i hi).mono ?_); rw [HF.out]; rintro e w1 ⟨rfl, n1, rfl⟩)
    go_ret2
    exact ⟨rfl, _, rfl⟩
  · by_cases c1 : i < 0 ∨ (lookO m.L a).F.length ≤ i
    · have HF : Hid (fieldV m.L a i = (0, 5)) := by show _ = _; unfold fieldV; rw [hv, if_pos rfl, if_pos c1]
      have HG : Hid (getV m.L a i = (0, 5)) := by show _ = _; unfold getV; rw [hv, if_pos rfl, if_pos c1]
      rw [HG.out]
      clear hv c1
      go_enter Try.func60, Try.ntmps60
      go_wp2_with (go_at_call 67; (with_reducible refine (field_any h a i hi).mono ?_); rw [HF.out]; rintro e w1 ⟨rfl, n1, rfl⟩)
      go_ret2
      exact ⟨rfl, _, rfl⟩
    · obtain ⟨j, rfl⟩ : ∃ j : Nat, i = (j : Int) := ⟨i.toNat, by omega⟩
      have hj : j < (lookO m.L a).F.length := by omega
      obtain ⟨hc, hlt⟩ := h.field hv hj
      obtain ⟨t, ht⟩ : ∃ t, atN m.L a = t := ⟨_, rfl⟩
      obtain ⟨x, hx⟩ : ∃ x, (lookO m.L a).F.getD j 0 = x := ⟨_, rfl⟩
      have HF : Hid (fieldV m.L a (j : Int) = ((t : Int) + 3 + (j : Int), 0)) := by show _ = _; unfold fieldV; rw [hv, if_pos rfl, if_neg c1, ht]
      have HG : Hid (getV m.L a (j : Int) = (x, 0)) := by show _ = _; unfold getV; rw [hv, if_pos rfl, if_neg c1, Int.toNat_natCast, hx]
      rw [HG.out]
      rw [ht, hx] at hc
      rw [ht] at hlt
      have c0 := h.c0
      have hsz := h.good.hi
      have g0 : (0 : Int) ≤ (t : Int) + 3 + (j : Int) := by omega
      have g1 : (t : Int) + 3 + (j : Int) < (m.size : Int) := by omega
      have g2 : ((t : Int) + 3 + (j : Int)).toNat = t + 3 + j := by omega
      clear hv c1 ht hx hj
      go_enter Try.func60, Try.ntmps60
      go_wp2_with (go_at_call 67; (with_reducible refine (field_any h a (j : Int) hi).mono ?_); rw [HF.out]; rintro e w1 ⟨rfl, n1, rfl⟩)
      go_ret2
      exact ⟨rfl, _, rfl⟩
end Go.Proofs.Ytfinpgkehjbcpaa
