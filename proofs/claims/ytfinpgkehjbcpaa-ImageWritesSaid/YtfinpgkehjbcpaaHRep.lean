/- Chapter 02: how a memory lies in the program's memory. -/
import Derived.Test.YtfinpgkehjbcpaaHMaps
import Derived.Test.YtfinpgkehjbcpaaWWalks3
import Derived.BigGuard
import Derived.Deep.Draws
import Derived.LoopN
import Derived.WalkMore
import Derived.Deep.DeepCutAuto
import Derived.Deep.CutRange
import Derived.OneCell
namespace Go.Proofs.Ytfinpgkehjbcpaa
open Go.ChangeShapes Go.WideShapes Go.ChangeAt Go.RowKit Go.Deep Go.Joins Go.Maps
set_option linter.unusedVariables false
set_option linter.unusedSimpArgs false

structure PM (w : World) (s bw bm : Nat) (m : Hp) : Prop where
  good : Good m
  box : w.heap[s]? = some (.cells #[.slice (some ⟨bw, 0, none⟩) m.size m.size, .int .i64 (adr m.L m.L.length : Int), .int .i64 (m.made : Int), .map (some bm)] 96 (0, 0))
  row : ∃ ys : List Int, ys.length = m.size ∧ Words m.L ys ∧ w.heap[bw]? = some (.cells (ys.map (Value.int .i64)).toArray 3 (0, 0))
  map : ∃ n f, n ≤ m.L.length ∧ BoolMap w bm n f ∧ ∀ a, InI a → (f a = true ↔ ∃ i, i < m.L.length ∧ (adr m.L i : Int) = a)
section
variable {w w' : World} {s bw bm : Nat} {m : Hp}
theorem PM.same (h : PM w s bw bm m) (h1 : w'.heap[s]? = w.heap[s]?) (h2 : w'.heap[bw]? = w.heap[bw]?) (h3 : w'.heap[bm]? = w.heap[bm]?) : PM w' s bw bm m := by
  obtain ⟨g, b, ⟨ys, y1, y2, y3⟩, n, f, m1, m2, m3⟩ := h
  exact ⟨g, h1.trans b, ⟨ys, y1, y2, h2.trans y3⟩, n, f, m1, m2.same h3, m3⟩
theorem PM.drewN (h : PM w s bw bm m) (n : Nat) : PM (w.drewN n) s bw bm m := h.same rfl rfl rfl
theorem PM.c0 (h : PM w s bw bm m) : w.cell? ⟨s, 0, none⟩ = some (.slice (some ⟨bw, 0, none⟩) m.size m.size) := by simp [World.cell?, h.box]
theorem PM.c1 (h : PM w s bw bm m) : w.cell? ⟨s, 1, none⟩ = some (.int .i64 (adr m.L m.L.length : Int)) := by simp [World.cell?, h.box]
theorem PM.c2 (h : PM w s bw bm m) : w.cell? ⟨s, 2, none⟩ = some (.int .i64 (m.made : Int)) := by simp [World.cell?, h.box]
theorem PM.c3 (h : PM w s bw bm m) : w.cell? ⟨s, 3, none⟩ = some (.map (some bm)) := by simp [World.cell?, h.box]
theorem ints_cell {b : Nat} {ys : List Int} (h : w.heap[b]? = some (.cells (ys.map (Value.int .i64)).toArray 3 (0, 0))) {k : Nat} (hk : k < ys.length) : w.cell? ⟨b, k, none⟩ = some (.int .i64 (ys.getD k 0)) := by
  unfold World.cell?
  rw [h]
  simp [List.getD_eq_getElem?_getD, List.getElem?_eq_getElem hk]
theorem ints_free {b : Nat} {ys : List Int} (h : w.heap[b]? = some (.cells (ys.map (Value.int .i64)).toArray 3 (0, 0))) (k : Nat) : w.frozen? ⟨b, k, none⟩ = false := by simp [World.frozen?, h]
theorem PM.low (h : PM w s bw bm m) {k : Nat} (hk : k < 3) : w.cell? ⟨bw, k, none⟩ = some (.int .i64 0) := by
  obtain ⟨ys, y1, y2, y3⟩ := h.row
  have := h.good.lo
  rw [ints_cell y3 (by omega), words_low y2 hk]
theorem PM.at_ (h : PM w s bw bm m) {i k : Nat} (hi : i < m.L.length) (hk : k < m.L[i].F.length + 3) : w.cell? ⟨bw, adr m.L i + k, none⟩ = some (.int .i64 ((encO m.L[i]).getD k 0)) ∧ adr m.L i + k < m.size := by
  obtain ⟨ys, y1, y2, y3⟩ := h.row
  have h1 := adr_succ m.L i hi
  have h2 := adr_le h.good (i + 1)
  have h3 : adr m.L i + k < m.size := by omega
  exact ⟨by rw [ints_cell y3 (by omega), words_at y2 hi hk], h3⟩
theorem adr_bd (h : Good m) (i : Nat) : 3 ≤ adr m.L i ∧ adr m.L i ≤ 131072 := by
  have := adr_le h i; have := h.hi; exact ⟨adr_ge _ _, by omega⟩
theorem adr_lt_size (h : Good m) {i : Nat} (hi : i < m.L.length) : adr m.L i + 3 ≤ m.size := by
  have h1 := adr_succ m.L i hi
  have h2 := adr_le h (i + 1)
  omega
theorem pointer_bounds {a : Int} (h : isPointerV a = true) : 6 ≤ a ∧ a ≤ 262144 ∧ a % 2 = 0 := of_decide_eq_true h
theorem address_of {a : Int} (h : isPointerV a = true) : addressV a = a / 2 := by unfold addressV; rw [h]; rfl
/-- the map tells, of a pointer's address, whether it is an object's -/
theorem PM.look (h : PM w s bw bm m) {a : Int} (hp : isPointerV a = true) : (Instr.lookup 94 (.map (some bm)) (.int .i64 (addressV a)) false).run Try.prog w = .ok (.bool (isV m.L a)) w := by
  obtain ⟨n, f, m1, m2, m3⟩ := h.map
  have hb := pointer_bounds hp
  have e := address_of hp
  have hin : InI (addressV a) := by rw [e]; unfold InI; omega
  rw [m2.look hin]
  have : f (addressV a) = isV m.L a := by
    cases hv : isV m.L a
    · cases hf : f (addressV a)
      · rfl
      · obtain ⟨i, hi, h2⟩ := (m3 _ hin).1 hf
        have : isV m.L a = true := isV_iff.2 ⟨i, hi, by unfold ptr; rw [h2, e]; omega⟩
        rw [hv] at this; cases this
    · obtain ⟨i, hi, h2⟩ := isV_iff.1 hv
      exact (m3 _ hin).2 ⟨i, hi, by rw [e]; unfold ptr at h2; omega⟩
  rw [this]
/-- what is an object's pointer is a pointer -/
theorem isV_pointer (h : Good m) {a : Int} (hv : isV m.L a = true) : isPointerV a = true := by
  obtain ⟨i, hi, h2⟩ := isV_iff.1 hv
  have := adr_bd h i
  unfold ptr at h2
  exact decide_eq_true (by omega)
end
def zeroO : Ob := ⟨0, 0, 0, []⟩
def lookO (L : List Ob) (a : Int) : Ob := match plc L a with | some i => L.getD i zeroO | none => zeroO
def atN (L : List Ob) (a : Int) : Nat := match plc L a with | some i => adr L i | none => 0
theorem atN_yes {L : List Ob} {a : Int} (h : isV L a = true) : ∃ i, ∃ hi : i < L.length, plc L a = some i ∧ a = ptr L i ∧ atN L a = adr L i ∧ lookO L a = L[i] := by
  obtain ⟨i, hi, rfl⟩ := isV_iff.1 h
  refine ⟨i, hi, plc_at hi, rfl, ?_, ?_⟩
  · unfold atN; rw [plc_at hi]
  · unfold lookO; rw [plc_at hi]; simp [List.getD_eq_getElem?_getD, List.getElem?_eq_getElem hi]
theorem atN_no {L : List Ob} {a : Int} (h : isV L a = false) : atN L a = 0 ∧ lookO L a = zeroO ∧ plc L a = none := by
  unfold isV at h
  unfold atN lookO
  cases hp : plc L a with
  | none => exact ⟨rfl, rfl, rfl⟩
  | some i => rw [hp] at h; cases h
theorem PM.head {w : World} {s bw bm : Nat} {m : Hp} (h : PM w s bw bm m) (a : Int) {k : Nat} (hk : k < 3) : w.cell? ⟨bw, atN m.L a + k, none⟩ = some (.int .i64 ((encO (lookO m.L a)).getD k 0)) ∧ atN m.L a + k < m.size := by
  cases hv : isV m.L a
  · obtain ⟨e1, e2, _⟩ := atN_no hv
    have := h.good.lo
    rw [e1, e2, Nat.zero_add, h.low hk]
    refine ⟨?_, by omega⟩
    match k, hk with
    | 0, _ => rfl
    | 1, _ => rfl
    | 2, _ => rfl
  · obtain ⟨i, hi, _, _, e1, e2⟩ := atN_yes hv
    rw [e1, e2]
    exact h.at_ hi (by omega)
theorem look_fmt {m : Hp} (h : Good m) (a : Int) : 0 ≤ (lookO m.L a).fmt ∧ (lookO m.L a).fmt ≤ 2 ∧ (lookO m.L a).F.length ≤ 256 := by
  cases hv : isV m.L a
  · rw [(atN_no hv).2.1]; decide
  · obtain ⟨i, hi, _, _, _, e2⟩ := atN_yes hv
    rw [e2]
    have h1 := h.fmt _ (List.getElem_mem hi)
    have h2 := h.len _ (List.getElem_mem hi)
    exact ⟨h1.1, h1.2, h2⟩
theorem and_3 (a : Int) : bits .and .i64 a 3 = a % 4 := by
  have h := and_nat a 3 (by omega)
  have e : (a % 18446744073709551616).toNat &&& 3 = (a % 18446744073709551616).toNat % 4 := Nat.and_two_pow_sub_one_eq_mod _ 2
  rw [e] at h
  rw [show (3 : Int) = ((3 : Nat) : Int) from rfl, h]; omega
theorem ret_int {a b : Int} (h : a = b) : Ending.returned (.int .i64 a) = .returned (.int .i64 b) := by rw [h]
theorem ret_bool {a b : Bool} (h : a = b) : Ending.returned (.bool a) = .returned (.bool b) := by rw [h]
def mayV (L : List Ob) (a : Int) : Bool := a == 0 || a == 2 || a == 4 || isSmallV a || isV L a
def fieldV (L : List Ob) (a i : Int) : Int × Int := if isV L a then (if i < 0 ∨ (lookO L a).F.length ≤ i then (0, 5) else ((atN L a : Int) + 3 + i, 0)) else (0, 1)
def getV (L : List Ob) (a i : Int) : Int × Int := if isV L a then (if i < 0 ∨ (lookO L a).F.length ≤ i then (0, 5) else ((lookO L a).F.getD i.toNat 0, 0)) else (0, 1)
theorem PM.field {w : World} {s bw bm : Nat} {m : Hp} (h : PM w s bw bm m) {a : Int} (hv : isV m.L a = true) {j : Nat} (hj : j < (lookO m.L a).F.length) : w.cell? ⟨bw, atN m.L a + 3 + j, none⟩ = some (.int .i64 ((lookO m.L a).F.getD j 0)) ∧ atN m.L a + 3 + j < m.size := by
  obtain ⟨i, hi, _, _, e1, e2⟩ := atN_yes hv
  rw [e2] at hj ⊢
  rw [e1]
  obtain ⟨h1, h2⟩ := h.at_ hi (show 3 + j < m.L[i].F.length + 3 by omega)
  rw [← Nat.add_assoc] at h1 h2
  refine ⟨by rw [h1]; congr 2; unfold encO; rw [show 3 + j = j + 1 + 1 + 1 by omega]; rfl, h2⟩
theorem atN_pos {m : Hp} {a : Int} (hv : isV m.L a = true) : 3 ≤ atN m.L a := by
  obtain ⟨i, hi, _, _, e1, _⟩ := atN_yes hv
  rw [e1]; exact adr_ge _ _
end Go.Proofs.Ytfinpgkehjbcpaa
