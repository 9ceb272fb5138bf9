/- Chapter 10: words for the laws. -/
import Derived.Test.YtnojndgmgkgnpaaLV0
namespace Go.Proofs.Ytnojndgmgkgnpaa
open Go.ChangeShapes Go.WideShapes Go.ChangeAt Go.RowKit Go.Deep Go.Joins Go.Maps
set_option linter.unusedVariables false
set_option linter.unusedSimpArgs false
/-- the first 500 bytes -/
def cut5 (s : ByteArray) : ByteArray := if 500 < s.size then s.extract 0 500 else s
theorem cut_le (s : ByteArray) : (cut5 s).size ≤ 500 := by
 unfold cut5
 split
 ·simp; omega
 ·omega
theorem read7_size (s : ByteArray) (m : Bool) (h : s.size ≤ 500) : (read7 s m).1.size ≤ 100000 := by
 have h0 : nd0.size = 1 := by rw [NodT.size_kids]; rfl
 unfold read7
 rw [if_neg (by omega)]
 cases hT : Lx.toksV s.data.toList with
 | err a e => show nd0.size ≤ _; omega
 | ok T =>
  obtain ⟨hok, hl⟩ := TokOk.of (by omega) hT
  show (readT7 T m).1.size ≤ 100000
  unfold readT7
  dsimp only
  obtain ⟨⟨ht, hn, hu, hs⟩, hh⟩ : ∃ r, (if m = true then headT T ⟨0, 0, 0, 0⟩ else (bDoIt, [], 0, ⟨0, 0, 0, 0⟩)) = r := ⟨_, rfl⟩
  have h1 := (head_tx hok _ m hh (Nat.zero_le _)).2.2.2
  rw [hh]
  dsimp only
  have h2 := (temps_go hok.at0 hs).top h1
  obtain ⟨h3, h4⟩ := (rcF_go hok.at0 (fuelT T)).stmts (tempsT T hs).2
  have h5 := h3.top h2
  split
  ·show nd0.size ≤ _; omega
  ·rw [NodT.size_kids]
   show 1 + NodT.sizes ((rcF T (fuelT T)).stmts (tempsT T hs).2).1 ≤ 100000
   omega
abbrev bY : ByteArray := ⟨#[121]⟩
theorem strs_two {W : World} {b : Nat} {t u : ByteArray} (h : W.heap[b]? = some (.cells #[.string t, .string u] 9 (0, 0))) (ht : t.size ≤ big63) (hu : u.size ≤ big63) : Strs W (fun _ => True) (some ⟨b, 0, none⟩) [t, u] := fun i hi => by
 have e : i = 0 ∨ i = 1 := by simp at hi; omega
 rcases e with e | e
 ·subst e
  exact ⟨b, 0, rfl, lt_of_block h, trivial, cell_in h rfl, ht⟩
 ·subst e
  exact ⟨b, 0, rfl, lt_of_block h, trivial, cell_in h rfl, hu⟩
theorem oper_in {n : Int} {u : Bool} (h : operB n u = true) : 0 ≤ n ∧ n ≤ 255 := by
 unfold operB at h
 cases u <;> simp at h <;> omega
theorem may_in {i : Ins} (h : mayB i = true) : (1 ≤ i.op ∧ i.op ≤ 20) ∧ (0 ≤ i.a ∧ i.a ≤ 255) ∧ 0 ≤ i.b ∧ i.b ≤ 255 := by
 unfold mayB at h
 simp only [Bool.and_eq_true, decide_eq_true_eq] at h
 exact ⟨h.1.1, oper_in h.1.2, oper_in h.2⟩
end Go.Proofs.Ytnojndgmgkgnpaa
