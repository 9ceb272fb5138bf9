/- Words: rows of the call's own; more literals and temporaries. -/
import Derived.Test.YtnjfjebmkajpbaaO3
namespace Go.Proofs.Ytnjfjebmkajpbaa
open Go.ChangeShapes Go.WideShapes Go.ChangeAt Go.RowKit
set_option linter.unusedVariables false
set_option linter.unusedSimpArgs false

/-- the cells of n rows -/
def rowsL (n size : Nat) (F : Nat → Nat → Value) : List Value := (List.range n).flatMap fun i => (List.range size).map (F i)
theorem rowsL_succ (n size : Nat) (F : Nat → Nat → Value) : rowsL (n + 1) size F = rowsL n size F ++ (List.range size).map (F n) := by
  unfold rowsL; rw [List.range_succ, List.flatMap_append]; simp
theorem rowsL_len (n size : Nat) (F : Nat → Nat → Value) : (rowsL n size F).length = n * size := by
  induction n with
  | zero => simp [rowsL]
  | succ n ih => rw [rowsL_succ, List.length_append, ih, Nat.succ_mul]; simp
theorem rowsL_at {n size : Nat} {F : Nat → Nat → Value} {i j : Nat} (hi : i < n) (hj : j < size) : (rowsL n size F)[i * size + j]? = some (F i j) := by
  induction n with
  | zero => omega
  | succ n ih =>
    rw [rowsL_succ]
    rcases Nat.lt_or_ge i n with h | h
    · have hlt : i * size + j < n * size := Nat.lt_of_lt_of_le (by omega) (Nat.mul_le_mul_right size (show i + 1 ≤ n from h) |> fun q => (by rw [Nat.succ_mul] at q; exact q : i * size + size ≤ n * size))
      rw [List.getElem?_append_left (by rw [rowsL_len]; exact hlt)]
      exact ih h
    · obtain rfl : i = n := by omega
      rw [List.getElem?_append_right (by rw [rowsL_len]; omega), rowsL_len, show i * size + j - i * size = j by omega]
      simp [hj]
theorem rowsL_read {n size : Nat} {F : Nat → Nat → Value} {w : World} {b off : Nat} (hs : 0 < size) (hc : ∀ i, i < n → ∀ j, j < size → w.cell? ⟨b, off + i * size + j, none⟩ = some (F i j)) : ∀ (j : Nat) (u : Value), (rowsL n size F)[j]? = some u → w.cell? ((⟨b, off, none⟩ : Addr).add j) = some u := by
  intro j u hu
  obtain ⟨hlt, _⟩ := List.getElem?_eq_some_iff.1 hu
  rw [rowsL_len] at hlt
  have hi : j / size < n := Nat.div_lt_of_lt_mul (by rw [Nat.mul_comm]; exact hlt)
  have hj : j % size < size := Nat.mod_lt _ hs
  have e : j / size * size + j % size = j := Nat.div_add_mod' j size
  have h := rowsL_at (F := F) hi hj
  rw [e, hu] at h
  rw [add_plain, Option.some.inj h, ← hc _ hi _ hj, Nat.add_assoc, e]
theorem rowsL_one {n size : Nat} {F : Nat → Nat → Value} (h : ∀ i, i < n → ∀ j, j < size → (F i j).oneCell' = true) : ∀ u ∈ rowsL n size F, u.oneCell' = true := by
  intro u hu
  unfold rowsL at hu
  simp only [List.mem_flatMap, List.mem_range, List.mem_map] at hu
  obtain ⟨i, hi, j, hj, rfl⟩ := hu
  exact h i hi j hj
theorem rowsL_congr {n size : Nat} {F G : Nat → Nat → Value} (h : ∀ i, i < n → ∀ j, j < size → F i j = G i j) : rowsL n size F = rowsL n size G := by
  induction n with
  | zero => rfl
  | succ n ih =>
    rw [rowsL_succ, rowsL_succ, ih (fun i hi => h i (by omega))]
    congr 1
    apply List.map_congr_left
    intro j hj
    exact h n (by omega) j (List.mem_range.1 hj)
/-- a row of the call's own reads as rows -/
theorem own_rows {w : World} {base n size : Nat} {e : TypeId} {v : Value} {F : Nat → Nat → Value} (h : w.ownsRow base e size v n (rowsL n size F)) : ∃ A c, v = .slice A n c ∧ n ≤ c ∧ c ≤ 9223372036854775807 ∧ Row w A n size F := by
  rcases h.2 with ⟨rfl, h0⟩ | ⟨g, cap, cur, rfl, hg, hh, h1, h2, _⟩
  · subst h0; exact ⟨none, 0, rfl, Nat.le_refl _, by omega, fun h => absurd h (by omega)⟩
  · refine ⟨_, cap, rfl, h1, h2, fun hn => ⟨g, 0, rfl, (h.lt g rfl).2, fun i hi j hj => ?_⟩⟩
    have hlt : i * size + j < n * size := by have := Nat.mul_le_mul_right size (show i + 1 ≤ n from hi); rw [Nat.succ_mul] at this; omega
    have := World.ownsRow.cellAt h (i * size + j) (by simpa using hlt)
    rw [Nat.zero_add, this, rowsL_at hi hj]
theorem infoL : (Try.prog.info? 42).map (fun i => (i.zero, i.size, i.bytes)) = some (some (.agg #[.int .i64 0, .string ⟨#[]⟩, .int .i64 0, .slice none 0 0]), 4, 56) := by kernel_rfl
theorem infoC : (Try.prog.info? 37).map (fun i => (i.zero, i.size, i.bytes)) = some (some (.agg #[.int .i64 0, .int .i64 0, .int .i64 0]), 3, 24) := by kernel_rfl
def numF (i : Nat) : Nat → Value
  | 0 => .int .i64 1
  | 1 => .string ⟨#[]⟩
  | 2 => .int .i64 i
  | _ => .slice none 0 0
def numT (i : Nat) : LitT := .node 1 ⟨#[]⟩ i []
theorem num_lit (w : World) (i : Nat) : IsLit w (numT i) (numF i) := .node 1 ⟨#[]⟩ i [] none 0 (fun _ _ => undef) _ rfl rfl rfl rfl (Nat.le_refl _) (by omega) (Nat.zero_le _) (fun h => absurd h (by simp)) (fun i h => absurd h (by simp))
def moreT (ts : List LitT) (k : Nat) : List LitT := ts ++ (List.range k).map numT
def moreF (n : Nat) (F : Nat → Nat → Value) (i : Nat) : Nat → Value := if i < n then F i else numF (i - n)
theorem more_len (ts : List LitT) (k : Nat) : (moreT ts k).length = ts.length + k := by simp [moreT]
theorem more_left {ts : List LitT} {k i : Nat} (hi : i < (moreT ts k).length) (h : i < ts.length) : (moreT ts k)[i] = ts[i] := List.getElem_append_left h
theorem more_right {ts : List LitT} {k i : Nat} (hi : i < (moreT ts k).length) (h : ¬ i < ts.length) : (moreT ts k)[i] = numT (i - ts.length) := (List.getElem_append_right (by omega)).trans (by simp)
theorem more_lits {w w' : World} {p A : Option Addr} {F : Nat → Nat → Value} {ts : List LitT} (h : IsLits w p ts.length F ts) (hb : Below w.heap.size w w') (k : Nat) (hr : Row w' A (moreT ts k).length 4 (moreF ts.length F)) : IsLits w' A (moreT ts k).length (moreF ts.length F) (moreT ts k) := by
  refine ⟨rfl, hr, fun i hi => ?_⟩
  unfold moreF
  by_cases hlt : i < ts.length
  · rw [if_pos hlt]
    rw [more_left hi hlt]
    exact (h.2.2 i hlt).kept hb
  · rw [if_neg hlt]
    rw [more_right hi hlt]
    exact num_lit w' _
theorem more_hgt {ts : List LitT} {k b : Nat} (h : ∀ (i : Nat) (h : i < ts.length), hgt ts[i] ≤ b) (hb : 1 ≤ b) : ∀ (i : Nat) (h : i < (moreT ts k).length), hgt (moreT ts k)[i] ≤ b := fun i hi => by
  by_cases hlt : i < ts.length
  · rw [more_left hi hlt]; exact h i hlt
  · rw [more_right hi hlt]
    show hgts [] + 1 ≤ b
    simp [hgts]; exact hb
theorem more_rows (n k : Nat) (F : Nat → Nat → Value) : rowsL n 4 F ++ rowsL k 4 numF = rowsL (n + k) 4 (moreF n F) := by
  induction k with
  | zero =>
    rw [show rowsL 0 4 numF = [] from rfl, List.append_nil]
    exact rowsL_congr (fun i hi j _ => by unfold moreF; rw [if_pos hi])
  | succ k ih =>
    rw [rowsL_succ, ← List.append_assoc, ih, ← Nat.add_assoc, rowsL_succ]
    congr 1
    unfold moreF
    rw [if_neg (by omega), show n + k - n = k by omega]
theorem kind_more {ts : List LitT} {k j : Nat} (hj : j < ts.length) : kindAt (moreT ts k) j = kindAt ts j := by
  unfold kindAt moreT; rw [List.getElem?_append_left hj]
theorem op_more {ts : List LitT} {k : Nat} {y y' fields : Int} {i : Ins} (hy : y ≤ y') (h : opOK ts y fields i = true) : opOK (moreT ts k) y' fields i = true := by
  unfold opOK at h ⊢
  have hl := more_len ts k
  have hk : ∀ s : Bool, i.a.toNat < ts.length → (kindAt (moreT ts k) i.a.toNat == 3) = (kindAt ts i.a.toNat == 3) := fun _ hj => by rw [kind_more hj]
  unfold opndV at h ⊢
  repeat' split at h
  all_goals (simp only [Bool.and_eq_true, decide_eq_true_eq] at h)
  · rw [if_pos (by assumption)]; simp; omega
  · rw [if_neg (by assumption), if_pos (by assumption)]; simp only [Bool.and_eq_true, decide_eq_true_eq]; exact ⟨by omega, by rw [hk true h.1]; exact h.2⟩
  · rw [if_neg (by assumption), if_neg (by assumption), if_pos (by assumption)]; simp only [Bool.and_eq_true, decide_eq_true_eq]; exact ⟨⟨by omega, by rw [hk true h.1.1]; exact h.1.2⟩, h.2⟩
  · rw [if_neg (by assumption), if_neg (by assumption), if_neg (by assumption), if_pos (by assumption)]; simp; omega
  · rw [if_neg (by assumption), if_neg (by assumption), if_neg (by assumption), if_neg (by assumption), if_pos (by assumption)]; simp; omega
  · rw [if_neg (by assumption), if_neg (by assumption), if_neg (by assumption), if_neg (by assumption), if_neg (by assumption), if_pos (by assumption)]; simp only [Bool.and_eq_true, decide_eq_true_eq]; exact ⟨h.1, by omega⟩
  · rw [if_neg (by assumption), if_neg (by assumption), if_neg (by assumption), if_neg (by assumption), if_neg (by assumption), if_neg (by assumption)]
theorem num_ok (i : Nat) (hi : i ≤ 1000) (deep : Int) : okL deep (numT i) = true := by
  rw [okL_one rfl]
  show ((⟨#[]⟩ : ByteArray).size == 0 && ([] : List LitT).length == 0 && inB (i : Int) _ _) = true
  unfold inB
  rw [decide_eq_true (by omega), decide_eq_true (by omega)]; rfl
/-- more temporaries, more literals: as long as they may be, all is as it was -/
theorem more_good {sel : ByteArray} {args temps prim fields t : Int} {ts : List LitT} {n k : Nat} {C : Nat → Ins} (h : GoodM sel args temps prim fields ts n C) (ht : 0 ≤ t) (hk : k ≤ 1000) :
    GoodM sel args (temps + t) prim fields (moreT ts k) n C ↔ (temps + t ≤ 24 ∧ ts.length + k ≤ 60) := by
  obtain ⟨⟨h1, h2, h3, h4, h5⟩, h6, h7⟩ := h
  constructor
  · rintro ⟨⟨g1, _, g3, _⟩, _⟩
    rw [more_len] at g3
    unfold headB inB at g1
    simp only [Bool.and_eq_true, decide_eq_true_eq] at g1
    omega
  · rintro ⟨g1, g2⟩
    refine ⟨⟨?_, ?_, by rw [more_len]; exact g2, h4, fun j hj => ⟨(h5 j hj).1, op_more (by omega) (h5 j hj).2⟩⟩, h6, h7⟩
    · unfold headB inB at h1 ⊢
      simp only [Bool.and_eq_true, decide_eq_true_eq] at h1 ⊢
      omega
    · unfold moreT
      rw [List.all_append, h2, Bool.true_and, List.all_eq_true]
      intro x hx
      obtain ⟨i, hi, rfl⟩ := List.mem_map.1 hx
      have := List.mem_range.1 hi
      exact num_ok i (by omega) 20

/-- behind an append to a row of the call's own, and the store of it into a box below its base -/
theorem own_push {w4 X w7 : World} {a b c d e v v2 : Value} {tm te : TypeId} {size n n2 : Nat} {xs xs2 : List Value} (hbox : X.heap[w4.heap.size]? = some (.cells #[a, b, c, d, v, e] tm (0, 0))) (hown : X.ownsRow (w4.heap.size + 1) te size v n xs) (hg : X.grownBy w7 v.ownBlock)
    (h7 : w7.ownsRow (w4.heap.size + 1) te size v2 n2 xs2) (hb : Below w4.heap.size w4 X) :
    (w7.setCell ⟨w4.heap.size, 4, none⟩ v2).heap[w4.heap.size]? = some (.cells #[a, b, c, d, v2, e] tm (0, 0)) ∧ (w7.setCell ⟨w4.heap.size, 4, none⟩ v2).ownsRow (w4.heap.size + 1) te size v2 n2 xs2 ∧ Below w4.heap.size w4 (w7.setCell ⟨w4.heap.size, 4, none⟩ v2) := by
  have hlt := lt_of_block hbox
  have h6 : w7.heap[w4.heap.size]? = some (.cells #[a, b, c, d, v, e] tm (0, 0)) := (hg.block _ hlt (fun q => by have := (hown.lt _ q.symm).1; omega)).trans hbox
  have hb7 : Below w4.heap.size w4 w7 := hb.trans ((below_of_append hown hg (by omega)).mono (by omega))
  refine ⟨by rw [heap_setCell_same w7 w4.heap.size 4 _ _ _ h6]; rfl, ownsRow_setCell_other h7 ?_ _, hb7.setCell (Nat.le_refl _) _⟩
  rcases h7.2 with ⟨rfl, _⟩ | ⟨g, cap, cur, rfl, hg', _⟩
  · simp [Value.ownBlock]
  · simp [Value.ownBlock]; omega
theorem own_slice {w : World} {base n : Nat} {e : TypeId} {size : Nat} {v : Value} {xs : List Value} (h : w.ownsRow base e size v n xs) : ∃ A c, v = .slice A n c := by
  rcases h.2 with ⟨rfl, h0⟩ | ⟨g, cap, cur, rfl, _⟩
  · subst h0; exact ⟨_, _, rfl⟩
  · exact ⟨_, _, rfl⟩
theorem lit_one {w : World} {p : Option Addr} {F : Nat → Nat → Value} {ts : List LitT} (h : IsLits w p ts.length F ts) : ∀ i, i < ts.length → ∀ j, j < 4 → (F i j).oneCell' = true := fun i hi j hj => by
  obtain ⟨_, _, _, e0, e1, e2, e3, _⟩ := (h.2.2 i hi).cells
  match j, hj with
  | 0, _ => rw [e0]; rfl
  | 1, _ => rw [e1]; rfl
  | 2, _ => rw [e2]; rfl
  | 3, _ => rw [e3]; rfl
/-- the method n, with k literals more -/
def MoreR (sel : ByteArray) (x y z : Int) (q : Option Addr) (m d0 nl : Nat) (F : Nat → Nat → Value) (w4 : World) (k : Nat) (wr : World) : Prop :=
  ∃ v, wr.heap[w4.heap.size]? = some (.cells #[.string sel, .int .i64 x, .int .i64 y, .int .i64 z, v, .slice q m d0] 25 (0, 0)) ∧ wr.ownsRow (w4.heap.size + 1) 42 4 v (nl + k) (rowsL (nl + k) 4 (moreF nl F)) ∧ Below w4.heap.size w4 wr
theorem more_zero {sel : ByteArray} {x y z : Int} {q : Option Addr} {m d0 nl : Nat} {F : Nat → Nat → Value} {w4 X : World} {v : Value} (hbox : X.heap[w4.heap.size]? = some (.cells #[.string sel, .int .i64 x, .int .i64 y, .int .i64 z, v, .slice q m d0] 25 (0, 0))) (hown : X.ownsRow (w4.heap.size + 1) 42 4 (.slice none 0 0) 0 []) (hb : Below w4.heap.size w4 X) (h0 : nl = 0) :
    MoreR sel x y z q m d0 nl F w4 0 (X.setCell ⟨w4.heap.size, 4, none⟩ (.slice none 0 0)) := by
  subst h0
  refine ⟨_, by rw [heap_setCell_same X w4.heap.size 4 _ _ _ hbox]; rfl, ?_, hb.setCell (Nat.le_refl _) _⟩
  exact ownsRow_setCell_other hown (by simp [Value.ownBlock]) _
theorem more_none (nl : Nat) (F : Nat → Nat → Value) : rowsL nl 4 F = rowsL (nl + 0) 4 (moreF nl F) := by
  have h := more_rows nl 0 F
  rw [show rowsL 0 4 numF = [] from rfl, List.append_nil] at h
  exact h
theorem more_start {sel : ByteArray} {x y z : Int} {q : Option Addr} {m d0 nl : Nat} {F : Nat → Nat → Value} {w4 X w7 : World} {v v2 : Value} (hbox : X.heap[w4.heap.size]? = some (.cells #[.string sel, .int .i64 x, .int .i64 y, .int .i64 z, v, .slice q m d0] 25 (0, 0))) (hown : X.ownsRow (w4.heap.size + 1) 42 4 (.slice none 0 0) 0 []) (hg : X.grownBy w7 (Value.slice none 0 0).ownBlock)
    (h7 : w7.ownsRow (w4.heap.size + 1) 42 4 v2 nl (rowsL nl 4 F)) (hb : Below w4.heap.size w4 X) : MoreR sel x y z q m d0 nl F w4 0 (w7.setCell ⟨w4.heap.size, 4, none⟩ v2) := by
  have hlt := lt_of_block hbox
  have h6 : w7.heap[w4.heap.size]? = some (.cells #[.string sel, .int .i64 x, .int .i64 y, .int .i64 z, v, .slice q m d0] 25 (0, 0)) := (hg.block _ hlt (by simp [Value.ownBlock])).trans hbox
  have hb7 : Below w4.heap.size w4 w7 := hb.trans ((below_of_append hown hg (by omega)).mono (by omega))
  refine ⟨v2, by rw [heap_setCell_same w7 w4.heap.size 4 _ _ _ h6]; rfl, ?_, hb7.setCell (Nat.le_refl _) _⟩
  have h8 : w7.ownsRow (w4.heap.size + 1) 42 4 v2 (nl + 0) (rowsL (nl + 0) 4 (moreF nl F)) := by rw [← more_none]; simpa using h7
  refine ownsRow_setCell_other h8 ?_ _
  rcases h8.2 with ⟨rfl, _⟩ | ⟨g, cap, cur, rfl, hg', _⟩
  · simp [Value.ownBlock]
  · simp [Value.ownBlock]; omega
theorem more_next (nl k : Nat) (F : Nat → Nat → Value) : rowsL (nl + k) 4 (moreF nl F) ++ [Value.int .i64 1, .string ⟨#[]⟩, .int .i64 (k : Int), .slice none 0 0] = rowsL (nl + (k + 1)) 4 (moreF nl F) := by
  rw [← Nat.add_assoc, rowsL_succ]
  congr 1
  unfold moreF
  rw [if_neg (by omega), show nl + k - nl = k by omega]
  rfl
theorem more_go {sel : ByteArray} {x y z : Int} {q : Option Addr} {m d0 nl k n2 : Nat} {F : Nat → Nat → Value} {w4 wr w7 : World} {v v2 : Value} {xs2 : List Value} (o : Obj) (hbox : wr.heap[w4.heap.size]? = some (.cells #[.string sel, .int .i64 x, .int .i64 y, .int .i64 z, v, .slice q m d0] 25 (0, 0))) (hown : wr.ownsRow (w4.heap.size + 1) 42 4 v (nl + k) (rowsL (nl + k) 4 (moreF nl F))) (hb : Below w4.heap.size w4 wr)
    (hg : (wr.alloc o).grownBy w7 v.ownBlock) (h7 : w7.ownsRow (w4.heap.size + 1) 42 4 v2 n2 xs2) (hn : n2 = nl + (k + 1)) (hx : xs2 = rowsL (nl + k) 4 (moreF nl F) ++ [Value.int .i64 1, .string ⟨#[]⟩, .int .i64 (k : Int), .slice none 0 0]) : MoreR sel x y z q m d0 nl F w4 (k + 1) (w7.setCell ⟨w4.heap.size, 4, none⟩ v2) := by
  subst hn
  rw [more_next] at hx
  subst hx
  have hb1 : Below wr.heap.size wr (wr.alloc o) := (Below.refl _ _).alloc (Nat.le_refl _) _
  obtain ⟨r1, r2, r3⟩ := own_push ((hb1.block _ (lt_of_block hbox)).trans hbox) (hown.alloc _) hg h7 (hb.trans (hb1.mono hb.size))
  exact ⟨v2, r1, r2, r3⟩
end Go.Proofs.Ytnjfjebmkajpbaa
