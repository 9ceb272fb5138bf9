/- Chapter 18: what the plan's slice holds. -/
import Derived.Test.YtjiidjcehhdnbaaFW3
namespace Go.Proofs.Ytjiidjcehhdnbaa
open Go.ChangeShapes Go.WideShapes Go.ChangeAt Go.RowKit Go.Deep Go.Joins
set_option linter.unusedVariables false
set_option linter.unusedSimpArgs false
section
variable {ln : Nat} {L : Nat → LitR} {cn : Nat} {C : Nat → InsR}
def strokeCell (t : Int × Int × Int) : Nat → Value
  | 0 => .int .i64 t.1
  | 1 => .int .i64 t.2.1
  | _ => .int .i64 t.2.2
theorem planCells_len (n : Nat) : (planCells ln L cn C n).length = n * 3 := by
  induction n with
  | zero => rfl
  | succ n ih => rw [planCells_succ, List.length_append, ih]; simp [strokeCells]; omega
theorem planCells_at (n i j : Nat) (hi : i < n) (hj : j < 3) : (planCells ln L cn C n)[i * 3 + j]? = some (strokeCell (strokeV ln L cn C i) j) := by
  induction n with
  | zero => omega
  | succ n ih =>
    rw [planCells_succ]
    by_cases h : i < n
    · rw [List.getElem?_append_left (by rw [planCells_len]; omega)]; exact ih h
    · obtain rfl : i = n := by omega
      rw [List.getElem?_append_right (by rw [planCells_len]; omega), planCells_len, show i * 3 + j - i * 3 = j by omega]
      match j, hj with
      | 0, _ => rfl
      | 1, _ => rfl
      | 2, _ => rfl
theorem plan_row {X : World} {base n : Nat} {v : Value} (h : X.ownsRow base 34 3 v n (planCells ln L cn C n)) :
    ∃ A cap, v = .slice A n cap ∧ Row X A n 3 (fun i => strokeCell (strokeV ln L cn C i)) ∧ n ≤ cap ∧ cap ≤ 9223372036854775807 ∧ (∀ b off, A = some ⟨b, off, none⟩ → base ≤ b) := by
  rcases h.2 with ⟨rfl, rfl⟩ | ⟨g, cap, cur, rfl, hg, hh, hn, hm, _⟩
  · exact ⟨_, _, rfl, fun h0 => absurd h0 (by omega), by omega, by omega, fun _ _ e => by cases e⟩
  · refine ⟨_, _, rfl, fun h0 => ⟨g, 0, rfl, (h.lt g rfl).2, fun i hi j hj => ?_⟩, hn, hm, fun b off e => by cases e; exact hg⟩
    rw [Nat.zero_add, h.cellAt (i * 3 + j) (by omega)]
    exact planCells_at n i j hi hj
theorem stroke_shape (p : Int) : strokeV ln L cn C p = (0, 0, 0) ∨ ∃ k n, strokeV ln L cn C p = (k, p, n) ∧ 0 < k ∧ k ≤ 5 ∧ 0 ≤ n ∧ n ≤ 4 := by
  unfold strokeV
  cases isOp ln L cn C p
  · exact .inl rfl
  cases (insAt cn C (p + 1)).op == 10 && (insAt cn C (p + 2)).op == 12
  · cases letterV (selV ln L cn C (p + 1) 0)
    · cases isOp ln L cn C (p + 1)
      · exact .inl rfl
      · show strokeS _ _ p = _ ∨ ∃ k n, strokeS _ _ p = _ ∧ _
        unfold strokeS
        generalize (selV ln L cn C (p + 2) 1).toList = u
        cases u == [43]
        · cases u == [45]
          · cases u == [42]
            · cases (u == [60] || u == [61])
              · exact .inl rfl
              · cases (insAt cn C (p + 3)).op == 17
                · exact .inr ⟨2, 3, rfl, by decide, by decide, by decide, by decide⟩
                · exact .inr ⟨3, 4, rfl, by decide, by decide, by decide, by decide⟩
            · exact .inr ⟨1, 3, rfl, by decide, by decide, by decide, by decide⟩
          · exact .inr ⟨1, 3, rfl, by decide, by decide, by decide, by decide⟩
        · exact .inr ⟨1, 3, rfl, by decide, by decide, by decide, by decide⟩
    · exact .inr ⟨5, 2, rfl, by decide, by decide, by decide, by decide⟩
  · exact .inr ⟨4, 3, rfl, by decide, by decide, by decide, by decide⟩
def okOp (x : Int) : Prop := (x == 20) = false ∧ (x == 19) = false ∧ (x == 18) = false ∧ (x == 15) = false ∧ (x == 5) = false
theorem ins_in (q : Int) (h : ¬ (insAt cn C q).op = 0) : 0 ≤ q ∧ q < cn := by
  by_cases hh : 0 ≤ q ∧ q < cn
  · exact hh
  · exact absurd (by rw [show insAt cn C q = noIns from if_neg hh]; rfl) h
theorem isOp_ok {p : Int} (h : isOp ln L cn C p = true) : okOp (insAt cn C p).op ∧ ¬ (insAt cn C p).op = 0 := by
  unfold isOp at h
  simp only [Bool.or_eq_true, Bool.and_eq_true, beq_iff_eq] at h
  unfold okOp
  rcases h with ((h | h) | h) | ⟨h, _⟩ <;> (rw [h]; decide)
theorem sel_ok {q a : Int} {c : UInt8} {t : List UInt8} (hs : (selV ln L cn C q a).toList = c :: t) : (insAt cn C q).op = 14 := by
  unfold selV at hs
  split at hs
  · next h => exact h.1
  · rw [ByteArray.toList_eq] at hs; cases hs
theorem op_ok {x y : Int} (h : x = y) (k : okOp y ∧ ¬ y = 0) : okOp x ∧ ¬ x = 0 := by rw [h]; exact k
theorem k14 : okOp 14 ∧ ¬ (14 : Int) = 0 := by unfold okOp; decide
theorem k10 : okOp 10 ∧ ¬ (10 : Int) = 0 := by unfold okOp; decide
theorem k12 : okOp 12 ∧ ¬ (12 : Int) = 0 := by unfold okOp; decide
theorem k17 : okOp 17 ∧ ¬ (17 : Int) = 0 := by unfold okOp; decide
def Covers (cn : Nat) (C : Nat → InsR) (p n : Int) : Prop := 0 ≤ p ∧ p + n ≤ cn ∧ ∀ q, p ≤ q → q < p + n → okOp (insAt cn C q).op
theorem covers_of {p : Int} {m : Nat} (h : ∀ j : Nat, j < m → okOp (insAt cn C (p + j)).op ∧ ¬ (insAt cn C (p + j)).op = 0) (hm : 0 < m) : Covers cn C p m := by
  have h0 := ins_in (p + (0 : Nat)) (h 0 hm).2
  have h1 := ins_in (p + (m - 1 : Nat)) (h (m - 1) (by omega)).2
  refine ⟨by omega, by omega, fun q a b => ?_⟩
  have := (h (q - p).toNat (by omega)).1
  rwa [show p + ((q - p).toNat : Int) = q by omega] at this
theorem stroke_covers (p : Int) : strokeV ln L cn C p = (0, 0, 0) ∨ ∃ (k : Int) (n : Nat), strokeV ln L cn C p = (k, p, (n : Int)) ∧ (k == 0) = false ∧ 2 ≤ n ∧ n ≤ 4 ∧ Covers cn C p n := by
  have two : ∀ {a b : Int}, (okOp (insAt cn C p).op ∧ ¬ (insAt cn C p).op = 0) → (okOp (insAt cn C (p + 1)).op ∧ ¬ (insAt cn C (p + 1)).op = 0) → Covers cn C p 2 := fun h0 h1 =>
    covers_of (m := 2) (fun j hj => by match j, hj with | 0, _ => simpa using h0 | 1, _ => exact h1) (by omega)
  have three : (okOp (insAt cn C p).op ∧ ¬ (insAt cn C p).op = 0) → (okOp (insAt cn C (p + 1)).op ∧ ¬ (insAt cn C (p + 1)).op = 0) → (okOp (insAt cn C (p + 2)).op ∧ ¬ (insAt cn C (p + 2)).op = 0) → Covers cn C p 3 := fun h0 h1 h2 =>
    covers_of (m := 3) (fun j hj => by match j, hj with | 0, _ => simpa using h0 | 1, _ => exact h1 | 2, _ => exact h2) (by omega)
  have four : (okOp (insAt cn C p).op ∧ ¬ (insAt cn C p).op = 0) → (okOp (insAt cn C (p + 1)).op ∧ ¬ (insAt cn C (p + 1)).op = 0) → (okOp (insAt cn C (p + 2)).op ∧ ¬ (insAt cn C (p + 2)).op = 0) → (okOp (insAt cn C (p + 3)).op ∧ ¬ (insAt cn C (p + 3)).op = 0) → Covers cn C p 4 := fun h0 h1 h2 h3 =>
    covers_of (m := 4) (fun j hj => by match j, hj with | 0, _ => simpa using h0 | 1, _ => exact h1 | 2, _ => exact h2 | 3, _ => exact h3) (by omega)
  unfold strokeV
  cases O : isOp ln L cn C p
  · exact .inl rfl
  have a0 := isOp_ok O
  cases g1 : ((insAt cn C (p + 1)).op == 10 && (insAt cn C (p + 2)).op == 12)
  · cases T : letterV (selV ln L cn C (p + 1) 0)
    · cases O1 : isOp ln L cn C (p + 1)
      · exact .inl rfl
      · have a1 := isOp_ok O1
        show strokeS _ _ p = _ ∨ ∃ k n, strokeS _ _ p = _ ∧ _
        unfold strokeS
        cases u43 : (selV ln L cn C (p + 2) 1).toList == [43]
        · cases u45 : (selV ln L cn C (p + 2) 1).toList == [45]
          · cases u42 : (selV ln L cn C (p + 2) 1).toList == [42]
            · cases u60 : ((selV ln L cn C (p + 2) 1).toList == [60] || (selV ln L cn C (p + 2) 1).toList == [61])
              · exact .inl rfl
              · have a2 : okOp (insAt cn C (p + 2)).op ∧ ¬ (insAt cn C (p + 2)).op = 0 := by
                  rcases Bool.or_eq_true _ _ ▸ u60 with h | h <;> exact op_ok (sel_ok (by simpa using h)) k14
                cases h17 : (insAt cn C (p + 3)).op == 17
                · exact .inr ⟨2, 3, rfl, by decide, by decide, by decide, three a0 a1 a2⟩
                · exact .inr ⟨3, 4, rfl, by decide, by decide, by decide, four a0 a1 a2 (op_ok (by simpa using h17) k17)⟩
            · exact .inr ⟨1, 3, rfl, by decide, by decide, by decide, three a0 a1 (op_ok (sel_ok (by simpa using u42)) k14)⟩
          · exact .inr ⟨1, 3, rfl, by decide, by decide, by decide, three a0 a1 (op_ok (sel_ok (by simpa using u45)) k14)⟩
        · exact .inr ⟨1, 3, rfl, by decide, by decide, by decide, three a0 a1 (op_ok (sel_ok (by simpa using u43)) k14)⟩
    · have a1 : okOp (insAt cn C (p + 1)).op ∧ ¬ (insAt cn C (p + 1)).op = 0 := by
        obtain ⟨c, t, e⟩ : ∃ c t, (selV ln L cn C (p + 1) 0).toList = c :: t := by
          rw [ByteArray.toList_eq]
          cases hh : (selV ln L cn C (p + 1) 0).data.toList with
          | nil => rw [letterV, hh] at T; cases T
          | cons c t => exact ⟨c, t, rfl⟩
        exact op_ok (sel_ok e) k14
      exact .inr ⟨5, 2, rfl, by decide, by decide, by decide, two (a := 0) (b := 0) a0 a1⟩
  · simp only [Bool.and_eq_true, beq_iff_eq] at g1
    exact .inr ⟨4, 3, rfl, by decide, by decide, by decide, three a0 (op_ok g1.1 k10) (op_ok g1.2 k12)⟩
end
end Go.Proofs.Ytjiidjcehhdnbaa
