/- Chapter 09: rows of instructions of the call's own; two codes, one behind the other. -/
import Derived.Test.YtclndbiljhbbkaaDoorC5
import Derived.Laws.AppendOwnNone
namespace Go.Proofs.YtclndbiljhbbkaaDoor
open Go.ChangeShapes Go.WideShapes Go.ChangeAt Go.RowKit Go.Deep Go.Joins
set_option linter.unusedVariables false
set_option linter.unusedSimpArgs false
/-- the cells of n rows -/
def rowsL (n size : Nat) (F : Nat → Nat → Value) : List Value := (List.range n).flatMap fun i => (List.range size).map (F i)
theorem rowsL_succ (n size : Nat) (F : Nat → Nat → Value) : rowsL (n + 1) size F = rowsL n size F ++ (List.range size).map (F n) := by
  unfold rowsL; rw [List.range_succ, List.flatMap_append]; simp
theorem rowsL_len (n size : Nat) (F : Nat → Nat → Value) : (rowsL n size F).length = n * size := by
  induction n with
  | zero => simp [rowsL]
  | succ n ih => rw [rowsL_succ, List.length_append, ih, Nat.succ_mul]; simp
theorem rowsL_at {n size : Nat} {F : Nat → Nat → Value} {i j : Nat} (hi : i < n) (hj : j < size) : (rowsL n size F)[i * size + j]? = some (F i j) := by
  induction n with
  | zero => omega
  | succ n ih =>
    rw [rowsL_succ]
    rcases Nat.lt_or_ge i n with h | h
    · have hlt : i * size + j < n * size := Nat.lt_of_lt_of_le (by omega) (Nat.mul_le_mul_right size (show i + 1 ≤ n from h) |> fun q => (by rw [Nat.succ_mul] at q; exact q : i * size + size ≤ n * size))
      rw [List.getElem?_append_left (by rw [rowsL_len]; exact hlt)]
      exact ih h
    · obtain rfl : i = n := by omega
      rw [List.getElem?_append_right (by rw [rowsL_len]; omega), rowsL_len, show i * size + j - i * size = j by omega]
      simp [hj]
theorem rowsL_read {n size : Nat} {F : Nat → Nat → Value} {w : World} {b off : Nat} (hs : 0 < size) (hc : ∀ i, i < n → ∀ j, j < size → w.cell? ⟨b, off + i * size + j, none⟩ = some (F i j)) : ∀ (j : Nat) (u : Value), (rowsL n size F)[j]? = some u → w.cell? ((⟨b, off, none⟩ : Addr).add j) = some u := by
  intro j u hu
  obtain ⟨hlt, _⟩ := List.getElem?_eq_some_iff.1 hu
  rw [rowsL_len] at hlt
  have hi : j / size < n := Nat.div_lt_of_lt_mul (by rw [Nat.mul_comm]; exact hlt)
  have hj : j % size < size := Nat.mod_lt _ hs
  have e : j / size * size + j % size = j := Nat.div_add_mod' j size
  have h := rowsL_at (F := F) hi hj
  rw [e, hu] at h
  rw [add_plain, Option.some.inj h, ← hc _ hi _ hj, Nat.add_assoc, e]
theorem rowsL_one {n size : Nat} {F : Nat → Nat → Value} (h : ∀ i, i < n → ∀ j, j < size → (F i j).oneCell' = true) : ∀ u ∈ rowsL n size F, u.oneCell' = true := by
  intro u hu
  unfold rowsL at hu
  simp only [List.mem_flatMap, List.mem_range, List.mem_map] at hu
  obtain ⟨i, hi, j, hj, rfl⟩ := hu
  exact h i hi j hj
theorem rowsL_congr {n size : Nat} {F G : Nat → Nat → Value} (h : ∀ i, i < n → ∀ j, j < size → F i j = G i j) : rowsL n size F = rowsL n size G := by
  induction n with
  | zero => rfl
  | succ n ih =>
    rw [rowsL_succ, rowsL_succ, ih (fun i hi => h i (by omega))]
    congr 1
    apply List.map_congr_left
    intro j hj
    exact h n (by omega) j (List.mem_range.1 hj)
/-- a row of the call's own reads as rows -/
theorem own_rows {w : World} {base n size : Nat} {e : TypeId} {v : Value} {F : Nat → Nat → Value} (h : w.ownsRow base e size v n (rowsL n size F)) : ∃ A c, v = .slice A n c ∧ n ≤ c ∧ c ≤ 9223372036854775807 ∧ Row w A n size F := by
  rcases h.2 with ⟨rfl, h0⟩ | ⟨g, cap, cur, rfl, hg, hh, h1, h2, _⟩
  · subst h0; exact ⟨none, 0, rfl, Nat.le_refl _, by omega, fun h => absurd h (by omega)⟩
  · refine ⟨_, cap, rfl, h1, h2, fun hn => ⟨g, 0, rfl, (h.lt g rfl).2, fun i hi j hj => ?_⟩⟩
    have hlt : i * size + j < n * size := by have := Nat.mul_le_mul_right size (show i + 1 ≤ n from hi); rw [Nat.succ_mul] at this; omega
    have := World.ownsRow.cellAt h (i * size + j) (by simpa using hlt)
    rw [Nat.zero_add, this, rowsL_at hi hj]
theorem infoC : (Tryd.prog.info? 31).map (fun i => (i.zero, i.size, i.bytes)) = some (some (.agg #[.int .i64 0, .int .i64 0, .int .i64 0]), 3, 24) := by kernel_rfl
theorem ins_one (i : Ins) : ∀ j, (insCell i j).oneCell' = true
  | 0 => rfl
  | 1 => rfl
  | _ + 2 => rfl
/-- instructions of the call's own -/
def IRow (w : World) (base : Nat) (v : Value) (n : Nat) (C : Nat → Ins) : Prop := w.ownsRow base 31 3 v n (rowsL n 3 (fun i => insCell (C i)))
theorem IRow.nil (w : World) (base : Nat) (C : Nat → Ins) : IRow w base (.slice none 0 0) 0 C := World.ownsRow_nil _ _ _ _
theorem IRow.below {w w' : World} {base n : Nat} {v : Value} {C : Nat → Ins} (h : IRow w base v n C) (hb : Below w.heap.size w w') : IRow w' base v n C := ownsRow_below h hb
theorem IRow.code {w : World} {base n : Nat} {v : Value} {C : Nat → Ins} (h : IRow w base v n C) : ∃ A c, v = .slice A n c ∧ n ≤ c ∧ c ≤ 9223372036854775807 ∧ IsCode w A n C := own_rows h
/-- two codes, one behind the other -/
def cat (n : Nat) (C D : Nat → Ins) (i : Nat) : Ins := if i < n then C i else D (i - n)
theorem cat_rows (n m : Nat) (C D : Nat → Ins) : rowsL n 3 (fun i => insCell (C i)) ++ rowsL m 3 (fun i => insCell (D i)) = rowsL (n + m) 3 (fun i => insCell (cat n C D i)) := by
  induction m with
  | zero =>
    rw [show rowsL 0 3 (fun i => insCell (D i)) = [] from rfl, List.append_nil]
    exact rowsL_congr (fun i hi j _ => by unfold cat; rw [if_pos hi])
  | succ k ih =>
    rw [rowsL_succ, ← List.append_assoc, ih, ← Nat.add_assoc, rowsL_succ]
    congr 1
    unfold cat
    rw [if_neg (by omega), show n + k - n = k by omega]
theorem IRow.cat0 {w : World} {base m : Nat} {v : Value} {C D : Nat → Ins} (h : IRow w base v (0 + m) (cat 0 C D)) : IRow w base v m D := by
  have e : rowsL (0 + m) 3 (fun i => insCell (cat 0 C D i)) = rowsL m 3 (fun i => insCell (D i)) := by
    rw [Nat.zero_add]
    exact rowsL_congr (fun i hi j _ => by unfold cat; rw [if_neg (by omega), Nat.sub_zero])
  unfold IRow at h ⊢
  rw [e, Nat.zero_add] at h
  exact h
theorem range_cat {α : Type} (n m : Nat) (f : Nat → List α) : (List.range (n + m)).flatMap f = (List.range n).flatMap f ++ (List.range m).flatMap (fun i => f (n + i)) := by
  rw [List.range_add, List.flatMap_append, List.flatMap_map]
theorem flat_congr {α : Type} {n : Nat} {f g : Nat → List α} (h : ∀ i, i < n → f i = g i) : (List.range n).flatMap f = (List.range n).flatMap g := by
  induction n with
  | zero => rfl
  | succ n ih => rw [List.range_succ, List.flatMap_append, List.flatMap_append, ih (fun i hi => h i (by omega))]; simp [h n (by omega)]
theorem cat_left {n i : Nat} {C D : Nat → Ins} (h : i < n) : cat n C D i = C i := if_pos h
theorem cat_right {n i : Nat} {C D : Nat → Ins} : cat n C D (n + i) = D i := by unfold cat; rw [if_neg (by omega), Nat.add_sub_cancel_left]
theorem bytes_cat (n m : Nat) (C D : Nat → Ins) : bytesV (cat n C D) (n + m) = bytesV C n ++ bytesV D m := by
  unfold bytesV
  rw [range_cat, flat_congr (g := fun i => [(C i).op, (C i).a, (C i).b]) (fun i hi => by rw [cat_left hi])]
  congr 1
  exact flat_congr (fun i _ => by rw [cat_right])
theorem text_cat (n m : Nat) (C D : Nat → Ins) : textV (cat n C D) (n + m) = textV C n ++ textV D m := by
  unfold textV
  rw [range_cat, flat_congr (g := fun i => lineV (C i)) (fun i hi => by rw [cat_left hi])]
  congr 1
  exact flat_congr (fun i _ => by rw [cat_right])
theorem may_cat (n m : Nat) (C D : Nat → Ins) : mayTo (cat n C D) (n + m) = (mayTo C n && mayTo D m) := by
  unfold mayTo
  rw [List.range_add, List.all_append, List.all_map]
  congr 1
  · apply Bool.eq_iff_iff.2
    simp only [List.all_eq_true, List.mem_range]
    exact ⟨fun h i hi => by have := h i hi; rwa [cat_left (C := C) (D := D) hi] at this, fun h i hi => by rw [cat_left hi]; exact h i hi⟩
  · apply Bool.eq_iff_iff.2
    simp only [List.all_eq_true, List.mem_range, Function.comp]
    exact ⟨fun h i hi => by have := h i hi; rwa [cat_right] at this, fun h i hi => by rw [cat_right]; exact h i hi⟩
theorem strOfNums_cat (a b : List Int) : strOfNums a ++ strOfNums b = strOfNums (a ++ b) := by
  apply ByteArray.ext
  simp [strOfNums, ByteArray.data_append]
theorem nums_add (a b : List Int) (h : a.length + b.length ≤ 1000000000) (w : World) : (Op.stringOp .add (strOfNums a) (strOfNums b)).run Tryd.prog w = .ok (.string (strOfNums (a ++ b))) w := by
  rw [run_string_add_sum w _ _ (by rw [strOfNums_size, strOfNums_size]; omega), strOfNums_cat]
/-- instructions that were handed in are put behind own ones -/
theorem wpList_code {w : World} {ops : Array Oper} {rest : List Oper} {o : Oper} {a : Act} {Q : Exit → Act → World → Prop} (hgd : o.guard = none) (s x : Operand)
    (ho : o.op = .call { callee := .builtin .append, args := #[s, x], argTypes := #[22, 22] })
    (base : Nat) (v : Value) (n : Nat) (C : Nat → Ins) (hs : a.eval s = v) (hown : IRow w base v n C)
    {A : Option Addr} {m c : Nat} {D : Nat → Ins} (hx : a.eval x = .slice A m c) (hf : A = none → c = 0) (hn : IsCode w A m D) (hm : A = none → m = 0) (hb : n + m ≤ 1000000) (hbase : base ≤ w.heap.size)
    (h : ∀ v' w', IRow w' base v' (n + m) (cat n C D) → Below base w w' → wpList Tryd.prog ops Q rest (a.put o.dst v') w') : wpList Tryd.prog ops Q (o :: rest) a w := by
  obtain ⟨i0, hi, hz0, hz1, hz2⟩ := info_parts infoC
  cases A with
  | none =>
    obtain rfl := hf rfl
    obtain rfl := hm rfl
    refine wpList_append_own_none (P := Tryd.prog) hgd s x 22 ho base 31 i0 3 Tryd.underlying22 hi v n _ hs hown hx (h v w ?_ (Below.refl _ _))
    unfold IRow
    rw [← cat_rows]
    rw [show rowsL 0 3 (fun i => insCell (D i)) = [] from rfl, List.append_nil]
    exact hown
  | some ad =>
    have hread : ∀ (j : Nat) (u : Value), (rowsL m 3 (fun i => insCell (D i)))[j]? = some u → w.cell? (ad.add j) = some u := by
      by_cases h0 : 0 < m
      · obtain ⟨b, off, e, hlt, hc⟩ := hn h0
        cases e
        exact rowsL_read (by decide) hc
      · obtain rfl : m = 0 := by omega
        intro j u hu; simp [rowsL] at hu
    refine wpList_append_own (P := Tryd.prog) _ hgd s x 22 ho base 31 i0 (.agg #[.int .i64 0, .int .i64 0, .int .i64 0]) 3 24 Tryd.underlying22 hi hz0 hz1 hz2 rfl (by decide) v n _ hs hown ad m c (rowsL m 3 (fun i => insCell (D i))) hx (rowsL_len _ _ _) hread (rowsL_one (fun i _ j _ => ins_one (D i) j)) (by unfold maxLen; omega) (by omega) hbase ?_
    intro v' w' h2 h3 _
    refine h v' w' ?_ (below_of_append hown h3 hbase)
    unfold IRow
    rw [← cat_rows]
    exact h2
section
variable {H : Type} {enc : TypeId × Value → H} {w : World} {base b0 : Nat} {spare : Nat → Bool} {held : Bool} {r : Go.Reach}
/-- a slice of instructions that was handed in; a nil one has no room -/
structure RawL (w : World) (A : Option Addr) (n c : Nat) (C : Nat → Ins) : Prop extends RawC w A n c C where
  nil : A = none → c = 0
theorem open_codel {v : Value} {d : DataW H} {p : List MemPlace} (hv : Value.okWide Tryd.prog w r b0 22 v) (h : DataW.Trod enc Tryd.prog w base spare held 22 v d p) :
    ∃ A n c C, v = .slice A n c ∧ RawL w A n c C := by
  obtain ⟨A, n, c, C, rfl, hR⟩ := open_code hv h
  obtain ⟨fuel, hf⟩ := h
  refine ⟨A, n, c, C, rfl, hR, fun hA => ?_⟩
  subst hA
  rcases DataW.trod_slice Tryd.underlying22 hf with ⟨e, _⟩ | ⟨a, len, cap, _, _, _, _, e, _⟩
  · simp [Value.cells] at e; exact e.2
  · simp [Value.cells] at e
end
end Go.Proofs.YtclndbiljhbbkaaDoor
