/- Chapter 04: plain halves; appends of lists; literal lists. -/
import Derived.Test.YthonodimjglnfaaSJ
import Derived.Test.YthonodimjglnfaaSK
namespace Go.Proofs.Ythonodimjglnfaa
open Go.ChangeShapes Go.WideShapes Go.ChangeAt Go.RowKit Go.Deep Go.Joins Go.Maps
set_option linter.unusedVariables false
set_option linter.unusedSimpArgs false
/-! ### what became another one -/
theorem one_yes {m : Hp} {a b rs : List Int} (h : (oneV m a b rs).2.2 = 0) : (a.length = b.length ∧ a.length ≤ 64 ∧ keepOk m.L a = true ∧ b.any (fun o => !isV m.L o || a.contains o) = false) ∧ (oneV m a b rs).1 = { m with L := m.L.map (turnO (sbV a b)) } := by
  unfold oneV at h ⊢
  by_cases hc : a.length = b.length ∧ a.length ≤ 64 ∧ keepOk m.L a = true ∧ b.any (fun o => !isV m.L o || a.contains o) = false
  · rw [if_pos hc] at h ⊢
    have ht : b.all (isV m.L) = true := List.all_eq_true.2 (fun x hx => by
      have := List.any_eq_false.1 hc.2.2.2 x hx
      simp at this; exact this.1)
    have hT := turn_ok (m := m) hc.1 hc.2.2.1 ht
    refine ⟨hc, ?_⟩
    unfold swV at h ⊢
    by_cases hm : rs.all (mayV m.L) = true
    · rw [if_pos hm, hT]
    · rw [if_neg hm] at h; cases h
  · rw [if_neg hc] at h; cases h
theorem one_gone {m : Hp} {a b rs : List Int} (h : (oneV m a b rs).2.2 = 0) {x : Int} (hx : x ∈ a) : (if isV (oneV m a b rs).1.L x = true then (ptrs (oneV m a b rs).1.L).filter (ptP (oneV m a b rs).1 x) else []) = [] := by
  obtain ⟨⟨hl, _, hk, hb⟩, he⟩ := one_yes h
  rw [he]
  dsimp only
  have hd : a.Nodup := by
    unfold keepOk at hk
    simp only [Bool.and_eq_true] at hk
    exact distinct_iff.1 hk.2
  have hne : ∀ z, sbV a b z ≠ x := by
    intro z
    by_cases hz : z ∈ a
    · obtain ⟨k, hk, rfl⟩ := List.mem_iff_getElem.1 hz
      rw [sb_at hd hl hk]
      intro e
      have := List.any_eq_false.1 hb _ (List.getElem_mem (show k < b.length by omega))
      simp at this
      exact this.2 (e ▸ hx)
    · rw [sbV_none hz]
      intro e
      exact hz (e ▸ hx)
  split
  · rw [ptrs_turn]
    refine List.filter_eq_nil_iff.2 (fun o ho => ?_)
    unfold ptP
    dsimp only
    rw [look_turn _ (mem_ptrs.1 ho)]
    obtain ⟨c, fm, hh, F⟩ := lookO m.L o
    unfold turnO
    dsimp only
    have h1 : (sbV a b c == x) = false := by simpa using hne c
    rw [h1]
    by_cases h0 : fm = 0
    · rw [if_pos h0]
      have : (F.map (sbV a b)).contains x = false := by
        rw [Bool.eq_false_iff]
        intro q
        rw [List.contains_iff_mem, List.mem_map] at q
        obtain ⟨z, _, e⟩ := q
        exact hne z e
      rw [this]; simp
    · have : (fm == 0) = false := by simpa using h0
      rw [this]; simp
  · rfl
theorem one_ptrs {m : Hp} {a b rs : List Int} (h : (oneV m a b rs).2.2 = 0) : ptrs (oneV m a b rs).1.L = ptrs m.L := by
  rw [(one_yes h).2]; exact ptrs_turn _ _
theorem one_look {m : Hp} {a b rs : List Int} (h : (oneV m a b rs).2.2 = 0) : ∀ k (hk : k < m.L.length), (lookO (oneV m a b rs).1.L (ptr m.L k)).fmt = m.L[k].fmt ∧ (lookO (oneV m a b rs).1.L (ptr m.L k)).hash = m.L[k].hash ∧ (lookO (oneV m a b rs).1.L (ptr m.L k)).F.length = m.L[k].F.length := by
  intro k hk
  rw [(one_yes h).2]
  dsimp only
  rw [look_turn _ (isV_iff.2 ⟨k, hk, rfl⟩), look_at hk, turnO_len]
  exact ⟨rfl, rfl, rfl⟩
/-! ### one for one -/
theorem swap_ne {x y : Int} (h : x ≠ y) (z : Int) : sbV [x, y] [y, x] z = if z = x then y else if z = y then x else z := by
  by_cases e1 : z = x
  · subst e1; simp [sbV, findN]
  · by_cases e2 : z = y
    · subst e2; simp [sbV, findN, h, e1]
    · rw [sbV_none (by simp [e1, e2]), if_neg e1, if_neg e2]
theorem reach_eq (m : Hp) (x : Int) : bothV m [x] [x] [] = (m, [], 1) := by
  unfold bothV
  rw [if_neg]
  rintro ⟨_, _, hk⟩
  unfold keepOk at hk
  simp only [Bool.and_eq_true] at hk
  have := distinct_iff.1 hk.2
  simp at this
theorem reach_ne {m : Hp} {x y : Int} (hx : isV m.L x = true) (hy : isV m.L y = true) (h : x ≠ y) : bothV m [x] [y] [] = ({ m with L := m.L.map (turnO (sbV [x, y] [y, x])) }, [], 0) := by
  have hk : keepOk m.L ([x] ++ [y]) = true := by
    unfold keepOk
    rw [Bool.and_eq_true]
    exact ⟨by simp [hx, hy], distinct_iff.2 (by simp [h])⟩
  have hT := turn_ok (m := m) (fr := [x] ++ [y]) (tl := [y] ++ [x]) rfl hk (by simp [hx, hy])
  unfold bothV
  rw [if_pos ⟨rfl, by simp, hk⟩]
  unfold swV
  rw [if_pos (by simp), hT]
  rfl
theorem reach_pt {m : Hp} {x y : Int} (hx : isV m.L x = true) (hy : isV m.L y = true) (h : x ≠ y) : (if isV (bothV m [x] [y] []).1.L x = true then (ptrs (bothV m [x] [y] []).1.L).filter (ptP (bothV m [x] [y] []).1 x) else []) = (if isV m.L y = true then (ptrs m.L).filter (ptP m y) else []) ∧ (if isV (bothV m [x] [y] []).1.L y = true then (ptrs (bothV m [x] [y] []).1.L).filter (ptP (bothV m [x] [y] []).1 y) else []) = (if isV m.L x = true then (ptrs m.L).filter (ptP m x) else []) := by
  rw [reach_ne hx hy h]
  dsimp only
  rw [isV_turn, isV_turn, ptrs_turn, hx, hy, if_pos rfl, if_pos rfl, if_pos rfl, if_pos rfl]
  refine ⟨List.filter_congr (fun o ho => pt_turn (fun z => ?_) (mem_ptrs.1 ho)), List.filter_congr (fun o ho => pt_turn (fun z => ?_) (mem_ptrs.1 ho))⟩
  · rw [swap_ne h]
    split
    · omega
    · split <;> omega
  · rw [swap_ne h]
    split
    · omega
    · split <;> omega
/-! ### literal lists -/
theorem nil_lst {w : World} {X : Nat → Prop} : Lst w X none 0 0 [] := ⟨rfl, Nat.le_refl _, by decide, fun k hk => absurd hk (by simp), fun x hx => absurd hx (by simp), fun b off e => by cases e⟩
theorem fm_nil : Fm none 0 0 := .inl ⟨rfl, rfl, rfl⟩
theorem nil_in : ∀ z, z ∈ ([] : List Int) → InI z := fun z hz => by cases hz
theorem lit2 (w : World) (x y : Int) : ((w.alloc (.cells #[.int .i64 x] 3)).alloc (.cells #[.int .i64 y] 3)).cell? ⟨w.heap.size, 0, none⟩ = some (.int .i64 x) ∧ ((w.alloc (.cells #[.int .i64 x] 3)).alloc (.cells #[.int .i64 y] 3)).cell? ⟨w.heap.size + 1, 0, none⟩ = some (.int .i64 y) ∧ Below w.heap.size w ((w.alloc (.cells #[.int .i64 x] 3)).alloc (.cells #[.int .i64 y] 3)) ∧ ((w.alloc (.cells #[.int .i64 x] 3)).alloc (.cells #[.int .i64 y] 3)).heap.size = w.heap.size + 2 := by
  have s1 : (w.alloc (.cells #[.int .i64 x] 3)).heap.size = w.heap.size + 1 := by simp
  have h0 : ((w.alloc (.cells #[.int .i64 x] 3)).alloc (.cells #[.int .i64 y] 3)).heap[w.heap.size]? = some (.cells #[.int .i64 x] 3 (0, 0)) := by
    rw [Below.heap_alloc _ _ _ (by rw [s1]; omega)]
    exact heap_alloc_new w _
  have h1 : ((w.alloc (.cells #[.int .i64 x] 3)).alloc (.cells #[.int .i64 y] 3)).heap[w.heap.size + 1]? = some (.cells #[.int .i64 y] 3 (0, 0)) := by
    rw [← s1]
    exact heap_alloc_new _ _
  exact ⟨by unfold World.cell?; rw [h0]; rfl, by unfold World.cell?; rw [h1]; rfl, ((Below.refl _ _).alloc (Nat.le_refl _) _).alloc (by rw [s1]; omega) _, by simp⟩
section
variable {X : Nat → Prop} {w0 w : World} {s r : Nat} {mp mr : Hp}
theorem g_swap1 (h : LG X w0 w s r mp mr) (x y : Int) (hx : InI x) (hy : InI y) {nn : Nat} (hnn : (bothV mp [x] [y] []).2.1.length = nn) (hI : ∀ z, z ∈ (bothV mp [x] [y] []).2.1 → InI z) :
    Calls Try.prog 20 #[.pointer (some ⟨s, 0, none⟩), .slice (some ⟨w.heap.size, 0, none⟩) 1 1, .slice (some ⟨w.heap.size + 1, 0, none⟩) 1 1, .slice none 0 0] ((w.alloc (.cells #[.int .i64 x] 3)).alloc (.cells #[.int .i64 y] 3)) fun e w' => ∃ C k X', (∀ (A : Option Addr) (n c : Nat) (l : List Int), Lst w X A n c l → Lst w' X' A n c l) ∧ e = .returned (.tuple #[.slice C nn k, .int .i64 (bothV mp [x] [y] []).2.2]) ∧ LG X' w0 w' s r (bothV mp [x] [y] []).1 mr := by
  obtain ⟨c0, c1, hb, hsz⟩ := lit2 w x y
  have hG := h.grow hb
  have hlt : ∀ k, moreX X w.heap.size ((w.alloc (.cells #[.int .i64 x] 3)).alloc (.cells #[.int .i64 y] 3)).heap.size k → k < ((w.alloc (.cells #[.int .i64 x] 3)).alloc (.cells #[.int .i64 y] 3)).heap.size := fun k hk => hG.lt hk
  have l0 : Lst ((w.alloc (.cells #[.int .i64 x] 3)).alloc (.cells #[.int .i64 y] 3)) (moreX X w.heap.size ((w.alloc (.cells #[.int .i64 x] 3)).alloc (.cells #[.int .i64 y] 3)).heap.size) (some ⟨w.heap.size, 0, none⟩) 1 1 [x] := lit_off (A := none) c0 hx (fun q => q (.inr ⟨Nat.le_refl _, by rw [hsz]; omega⟩))
  have l1 : Lst ((w.alloc (.cells #[.int .i64 x] 3)).alloc (.cells #[.int .i64 y] 3)) (moreX X w.heap.size ((w.alloc (.cells #[.int .i64 x] 3)).alloc (.cells #[.int .i64 y] 3)).heap.size) (some ⟨w.heap.size + 1, 0, none⟩) 1 1 [y] := lit_off (A := none) c1 hy (fun q => q (.inr ⟨by omega, by rw [hsz]; omega⟩))
  refine (g_both hG l0 l1 nil_lst (.inr Nat.one_pos) (.inr Nat.one_pos) (.inl ⟨rfl, rfl, rfl⟩) (by decide) (by decide) (by decide) hI hnn).mono ?_
  rintro e w' ⟨C, k, X', hX, rfl, hL, hf, hst, hk⟩
  exact ⟨C, k, X', fun A n c l hl => Lst.grow (Lst.keeps (Lst.grow (Off.below hl hb) (fun k z => .inl z)) hk) hX, rfl, hst⟩
theorem g_both' (h : LG X w0 w s r mp mr) {A B E : Option Addr} {a b rs : List Int} {na nb nr ca cb ce nn : Nat} (hA : Lst w X A na ca a) (hB : Lst w X B nb cb b) (hR : Lst w X E nr ce rs) (fA : Fm A na ca) (fB : Fm B nb cb) (fR : Fm E nr ce) (ba : na ≤ 1000000) (bb : nb ≤ 1000000) (br : nr ≤ 1000000) (hnn : (bothV mp a b rs).2.1.length = nn) :
    Calls Try.prog 20 #[.pointer (some ⟨s, 0, none⟩), .slice A na ca, .slice B nb cb, .slice E nr ce] w fun e w' => ∃ C k, e = .returned (.tuple #[.slice C nn k, .int .i64 (bothV mp a b rs).2.2]) ∧ Ints w' w.heap.size (.slice C nn k) (bothV mp a b rs).2.1 ∧ Keeps X w w' ∧ Below w0.heap.size w0 w' := by
  obtain ⟨bw, bm, R, D, hb, q⟩ := h
  obtain ⟨lv, fv, P, Q, h1, h2⟩ := id D
  have hoff : ∀ k, pset s bw bm k → ¬ X k := fun k hk hx => (h2 k hx).1 hk
  refine (both_any P (Off.mono hA hoff) (Off.mono hB hoff) (Off.mono hR hoff) fA fB fR ba bb br).mono ?_
  rintro e w' ⟨v, rfl, hni, hi, hP, ht⟩
  obtain ⟨D', K'⟩ := D.goP hP ht
  obtain ⟨C, k, rfl, _⟩ := hi.nums
  rw [hnn] at hi ⊢
  exact ⟨C, k, rfl, hi, K', hb.trans (K'.below (fun k hk => q k hk) hb.size)⟩
end
/-- a list that was there ahead of a step stays behind stores into newer blocks -/
theorem nums_two {w w6 w' : World} {A : Option Addr} {l : List Int} (h : Nums w A l) (h6 : Nums w6 A l) (hs : w.heap.size ≤ w6.heap.size) (hb : Below w.heap.size w6 w') : Nums w' A l := fun k hk => by
  obtain ⟨b, off, e, hlt, _⟩ := h k hk
  obtain ⟨b6, off6, e6, _, hc⟩ := h6 k hk
  rw [e] at e6
  cases e6
  exact ⟨b, off, e, Nat.lt_of_lt_of_le hlt (Nat.le_trans hs hb.size), (hb.cell (p := ⟨b, off + k, none⟩) hlt).trans hc⟩
/-- one list is appended to another that is owned -/
theorem wpList_app {w : World} {ops : Array Oper} {rest : List Oper} {o : Oper} {a : Act} {Q : Exit → Act → World → Prop} (hgd : o.guard = none) (s x : Operand)
    (ho : o.op = .call { callee := .builtin .append, args := #[s, x], argTypes := #[28, 28] })
    (base : Nat) (v : Value) (n : Nat) (l : List Int) (hs : a.eval s = v) (hown : w.ownsRow base 3 1 v n (l.map (.int .i64)))
    {A : Option Addr} {m c : Nat} {js : List Int} (hx : a.eval x = .slice A m c) (hf : Fm A m c) (hn : Nums w A js) (hl : js.length = m) (hb : n + m ≤ 1000000) (hbase : base ≤ w.heap.size)
    (h : ∀ v' w', w'.ownsRow base 3 1 v' (n + m) ((l ++ js).map (.int .i64)) → Below base w w' → wpList Try.prog ops Q rest (a.put o.dst v') w') : wpList Try.prog ops Q (o :: rest) a w := by
  obtain ⟨i0, hi, hz0, hz1, hz2⟩ := info_parts infoI
  cases A with
  | none =>
    rcases hf with ⟨_, h0, hc⟩ | h0
    · subst h0
      subst hc
      have : js = [] := List.length_eq_zero_iff.1 hl
      subst this
      refine wpList_append_own_none (P := Try.prog) hgd s x 28 ho base 3 i0 1 Try.underlying28 hi v n _ hs hown hx (h v w ?_ (Below.refl _ _))
      rw [List.append_nil]; exact hown
    · obtain ⟨b, off, e, _⟩ := hn 0 (by omega)
      cases e
  | some ad =>
    have h0 : 0 < m := by
      rcases hf with ⟨e, _⟩ | h0
      · cases e
      · exact h0
    obtain ⟨b, off, e, _⟩ := hn 0 (by omega)
    cases e
    refine wpList_append_own (P := Try.prog) _ hgd s x 28 ho base 3 i0 (.int .i64 0) 1 8 Try.underlying28 hi hz0 hz1 hz2 rfl (by decide) v n _ hs hown ⟨b, off, none⟩ m c (js.map (.int .i64)) hx (by rw [List.length_map, hl, Nat.mul_one]) (news_of hn) (by simp [Value.oneCell']) (by unfold maxLen; omega) (by omega) hbase ?_
    intro v' w' h2 h3 _
    exact h v' w' (by rw [List.map_append]; exact h2) (below_of_append hown h3 hbase)
end Go.Proofs.Ythonodimjglnfaa
