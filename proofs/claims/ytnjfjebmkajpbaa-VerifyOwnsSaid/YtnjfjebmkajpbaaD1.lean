/- Chapter 11: what the work list keeps. -/
import Derived.Test.YtnjfjebmkajpbaaL7
namespace Go.Proofs.Ytnjfjebmkajpbaa
open Go.ChangeShapes Go.WideShapes Go.ChangeAt Go.RowKit
set_option linter.unusedVariables false
set_option linter.unusedSimpArgs false
theorem grows_bd {i : Ins} (h : mayB i = true) : -255 ≤ growsV i ∧ growsV i ≤ 1 := by
  have := may_bounds h
  unfold growsV
  split <;> (try split) <;> (try split) <;> omega
theorem needs_bd {i : Ins} (h : mayB i = true) : 0 ≤ needsV i ∧ needsV i ≤ 256 := by
  have := may_bounds h
  unfold needsV
  split <;> (try split) <;> (try split) <;> omega
def rootD (C : Nat → Ins) (p : Nat) : Bool := p == 0 || (decide (2 ≤ p) && (C (p - 2)).op == 18)
def chkD (n : Nat) (C : Nat → Ins) (p : Nat) (d : Int) : Bool := decide (needsV (C p) ≤ d) && decide (d + growsV (C p) ≤ 24) && (if (C p).op = 19 then d == 1 && decide (0 ≤ ownV n C p) else true)
def succD (C : Nat → Ins) (p : Nat) : List Int := (if (C p).op = 16 ∨ (C p).op = 19 ∨ (C p).op = 20 then [] else [(p : Int) + 1]) ++ (if leadsB (C p).op then [targetV (C p)] else [])
def okD (n : Nat) (C : Nat → Ins) (p : Nat) (q : Int) : Bool := decide (0 ≤ q) && decide (q < n) && decide (ownV n C q.toNat = ownV n C p)
def aftD (C : Nat → Ins) (p : Nat) (d : Int) : Int := d + growsV (C p)
abbrev ReachD (n : Nat) (C : Nat → Ins) := Reach n (rootD C) (chkD n C) (succD C) (okD n C) (aftD C)
abbrev BadD (n : Nat) (C : Nat → Ins) : Prop := Bad n (rootD C) (chkD n C) (succD C) (okD n C) (aftD C)
abbrev SoundD (n : Nat) (C : Nat → Ins) (F : Nat → Int) : Prop := Sound n (rootD C) (chkD n C) (succD C) (okD n C) (aftD C) F
abbrev ClosedAtD (n : Nat) (C : Nat → Ins) (F : Nat → Int) (p : Nat) : Prop := ClosedAt (chkD n C) (succD C) (okD n C) (aftD C) F p
abbrev ClosedD (n : Nat) (C : Nat → Ins) (F : Nat → Int) : Prop := Closed n (chkD n C) (succD C) (okD n C) (aftD C) F
theorem okD_in {n : Nat} {C : Nat → Ins} : ∀ p q, okD n C p q = true → 0 ≤ q ∧ q < n := fun p q h => by
  unfold okD at h
  simp only [Bool.and_eq_true, decide_eq_true_eq] at h
  exact h.1
/-- may each instruction be? -/
def AllMay (n : Nat) (C : Nat → Ins) : Prop := ∀ p, p < n → mayB (C p) = true
theorem aft_pos {n : Nat} {C : Nat → Ins} {p : Nat} {d : Int} (hm : mayB (C p) = true) (h : chkD n C p d = true) : 0 ≤ aftD C p d := by
  have := grows_needs hm
  unfold chkD at h
  simp only [Bool.and_eq_true, decide_eq_true_eq] at h
  unfold aftD; omega
theorem reach_lt {n : Nat} {C : Nat → Ins} {p : Nat} {d : Int} (h : ReachD n C p d) : p < n := by
  cases h with
  | start _ h1 _ => exact h1
  | step p' q d' h1 h2 h3 h4 => have := okD_in _ _ h4; omega
theorem reach_le {n : Nat} {C : Nat → Ins} {p : Nat} {d : Int} (h : ReachD n C p d) : d ≤ 24 := by
  cases h with
  | start _ h1 _ => omega
  | step p' q d' h1 h2 h3 h4 =>
    unfold chkD at h2
    simp only [Bool.and_eq_true, decide_eq_true_eq] at h2
    unfold aftD; exact h2.1.2
/-- an edge that is as it should be -/
def EdgeOK (n : Nat) (C : Nat → Ins) (F : Nat → Int) (p : Nat) (q : Int) : Prop := okD n C p q = true ∧ F q.toNat = aftD C p (F p)
def gF (ys : List Int) : Nat → Int := fun p => ys.getD p 0
theorem gF_set_same {ys : List Int} {q : Nat} (d : Int) (h : q < ys.length) : gF (ys.set q d) q = d := by
  unfold gF; rw [List.getD_eq_getElem?_getD, List.getElem?_set_self h]; rfl
theorem gF_set_other {ys : List Int} {q p : Nat} (d : Int) (h : q ≠ p) : gF (ys.set q d) p = gF ys p := by
  unfold gF; rw [List.getD_eq_getElem?_getD, List.getElem?_set_ne h, ← List.getD_eq_getElem?_getD]
/-- how many depths are not told yet -/
def negs (ys : List Int) : Nat := ys.countP (fun y => decide (y < 0))
theorem negs_set : ∀ (ys : List Int) (q : Nat) (d : Int), q < ys.length → ys.getD q 0 < 0 → 0 ≤ d → negs (ys.set q d) + 1 = negs ys
  | [], q, d, h, _, _ => by simp at h
  | y :: r, 0, d, _, h1, h2 => by
    have h1' : y < 0 := h1
    unfold negs
    rw [List.set_cons_zero, List.countP_cons_of_neg (by simpa using h2), List.countP_cons_of_pos (by simpa using h1')]
  | y :: r, q + 1, d, h, h1, h2 => by
    have ih := negs_set r q d (by simpa using h) (by simpa using h1) h2
    unfold negs at ih ⊢
    rw [List.set_cons_succ, List.countP_cons, List.countP_cons]
    omega
structure Work (n : Nat) (C : Nat → Ins) (ys : List Int) (wt : List Nat) (X : Nat → Prop) : Prop where
  len : ys.length = n
  sound : SoundD n C (gF ys)
  mem : ∀ q, q ∈ wt → q < n ∧ 0 ≤ gF ys q
  rest : ∀ p, p < n → 0 ≤ gF ys p → p ∈ wt ∨ X p ∨ ClosedAtD n C (gF ys) p
  cnt : wt.length + negs ys ≤ n
section
variable {n : Nat} {C : Nat → Ins} {ys : List Int} {wt : List Nat} {X : Nat → Prop}
theorem edge_keep {q : Nat} {d : Int} (hq : q < ys.length) (hneg : gF ys q < 0) {p : Nat} {r : Int} (hp : 0 ≤ gF ys p) (hpos : 0 ≤ aftD C p (gF ys p)) (h : EdgeOK n C (gF ys) p r) : EdgeOK n C (gF (ys.set q d)) p r := by
  refine ⟨h.1, ?_⟩
  have h1 : q ≠ p := fun e => by subst e; omega
  have h2 : q ≠ r.toNat := fun e => by have := h.2; rw [← e] at this; omega
  rw [gF_set_other d h2, gF_set_other d h1]; exact h.2
/-- a place's edge is looked at: all is wrong, or the edge is as it should be, and nothing is lost -/
theorem reach_step (hW : Work n C ys wt X) (hm : AllMay n C) {p q : Nat} (hp : p < n) (h0 : 0 ≤ gF ys p) (hc : chkD n C p (gF ys p) = true) (hs : (q : Int) ∈ succD C p) (rt : Bool) :
    (BadD n C ∧ reachV n (ownV n C) ys wt rt q (ownV n C p) (aftD C p (gF ys p)) = (ys, wt, false)) ∨
    ∃ ys' wt', reachV n (ownV n C) ys wt rt q (ownV n C p) (aftD C p (gF ys p)) = (ys', wt', rt) ∧ Work n C ys' wt' X ∧ EdgeOK n C (gF ys') p q ∧ gF ys' p = gF ys p ∧ 2 * negs ys' + wt'.length ≤ 2 * negs ys + wt.length ∧
      ∀ r, EdgeOK n C (gF ys) p r → EdgeOK n C (gF ys') p r := by
  have hr := hW.sound.1 p hp h0
  have hpos := aft_pos (hm p hp) hc
  unfold reachV
  by_cases hw : n ≤ q ∨ ownV n C q ≠ ownV n C p ∨ (0 ≤ ys.getD q 0 ∧ ys.getD q 0 ≠ aftD C p (gF ys p))
  · left
    refine ⟨?_, if_pos hw⟩
    cases hok : okD n C p q
    · exact .inl ⟨p, _, hr, .inr ⟨q, hs, hok⟩⟩
    · have hin := okD_in _ _ hok
      have hstep := Reach.step p q _ hr hc hs hok
      rcases hw with h | h | h
      · omega
      · unfold okD at hok
        simp only [Bool.and_eq_true, decide_eq_true_eq, Int.toNat_natCast] at hok
        exact absurd hok.2 h
      · exact .inr ⟨q, _, _, hW.sound.1 q (by omega) h.1, hstep, h.2⟩
  · right
    have hq : q < n := by omega
    have hown : ownV n C q = ownV n C p := by
      rcases Decidable.em (ownV n C q = ownV n C p) with h | h
      · exact h
      · exact absurd (.inr (.inl h)) hw
    have hok : okD n C p q = true := by
      unfold okD
      simp only [Bool.and_eq_true, decide_eq_true_eq, Int.toNat_natCast]
      exact ⟨⟨by omega, by omega⟩, hown⟩
    have hstep := Reach.step p q _ hr hc hs hok
    have hql : q < ys.length := by rw [hW.len]; exact hq
    rw [if_neg hw]
    by_cases hneg : ys.getD q 0 < 0
    · have hneg' : gF ys q < 0 := hneg
      have hpq : q ≠ p := fun e => by subst e; omega
      rw [if_pos hneg]
      have hcnt := negs_set ys q (aftD C p (gF ys p)) hql hneg hpos
      refine ⟨_, _, rfl, ⟨by simp [hW.len], ⟨fun r hr' h => ?_, fun r hr' => ?_, fun r hr' h => ?_⟩, fun r hr' => ?_, fun r hr' h => ?_, ?_⟩, ⟨hok, ?_⟩, gF_set_other _ hpq, ?_, fun r h => edge_keep hql hneg' h0 hpos h⟩
      · by_cases e : q = r
        · subst e; rw [gF_set_same _ hql]; exact hstep
        · rw [gF_set_other _ e] at h ⊢; exact hW.sound.1 r hr' h
      · by_cases e : q = r
        · subst e; rw [gF_set_same _ hql]; exact .inr hpos
        · rw [gF_set_other _ e]; exact hW.sound.2.1 r hr'
      · have h2 := hW.sound.2.2 r hr' h
        have e : q ≠ r := fun e => by subst e; omega
        rw [gF_set_other _ e]; exact h2
      · rcases List.mem_append.1 hr' with h | h
        · obtain ⟨h1, h2⟩ := hW.mem r h
          have e : q ≠ r := fun e => by subst e; omega
          exact ⟨h1, by rw [gF_set_other _ e]; exact h2⟩
        · have e : r = q := by simpa using h
          subst e
          exact ⟨hq, by rw [gF_set_same _ hql]; exact hpos⟩
      · by_cases e : q = r
        · subst e; exact .inl (by simp)
        · rw [gF_set_other _ e] at h
          rcases hW.rest r hr' h with h1 | h1 | h1
          · exact .inl (by simp [h1])
          · exact .inr (.inl h1)
          · refine .inr (.inr ⟨?_, fun s hs' => ?_⟩)
            · rw [gF_set_other _ e]; exact h1.1
            · have h3 := edge_keep (C := C) (n := n) (d := aftD C p (gF ys p)) hql hneg' h (aft_pos (hm r hr') h1.1) (p := r) (r := s) (h1.2 s hs')
              exact h3
      · have := hW.cnt
        rw [List.length_append]; simp only [List.length_cons, List.length_nil]; omega
      · rw [Int.toNat_natCast, gF_set_same _ hql, gF_set_other _ hpq]
      · rw [List.length_append]; simp only [List.length_cons, List.length_nil]; omega
    · rw [if_neg hneg]
      refine ⟨_, _, rfl, hW, ⟨hok, ?_⟩, rfl, Nat.le_refl _, fun r h => h⟩
      rw [Int.toNat_natCast]
      show ys.getD q 0 = _
      rcases Decidable.em (ys.getD q 0 = aftD C p (gF ys p)) with h | h
      · exact h
      · exact absurd (.inr (.inr ⟨by omega, h⟩)) hw
/-- the same, in one -/
theorem reach_two (hW : Work n C ys wt X) (hm : AllMay n C) {p q : Nat} (hp : p < n) (h0 : 0 ≤ gF ys p) (hc : chkD n C p (gF ys p) = true) (hs : (q : Int) ∈ succD C p) (rt : Bool) :
    ∃ ys' wt' rt', reachV n (ownV n C) ys wt rt q (ownV n C p) (aftD C p (gF ys p)) = (ys', wt', rt') ∧ Work n C ys' wt' X ∧ gF ys' p = gF ys p ∧ 2 * negs ys' + wt'.length ≤ 2 * negs ys + wt.length ∧
      (rt' = true → rt = true ∧ EdgeOK n C (gF ys') p q) ∧ (rt' = false → rt = false ∨ BadD n C) ∧ ∀ r, EdgeOK n C (gF ys) p r → EdgeOK n C (gF ys') p r := by
  rcases reach_step hW hm hp h0 hc hs rt with ⟨hb, h⟩ | ⟨ys', wt', h, h1, h2, h3, h4, h5⟩
  · exact ⟨ys, wt, false, h, hW, rfl, Nat.le_refl _, (fun e => by cases e), fun _ => .inr hb, fun r h => h⟩
  · exact ⟨ys', wt', rt, h, h1, h3, h4, fun e => ⟨e, h2⟩, fun e => .inl e, h5⟩
theorem bad_chk (hW : Work n C ys wt X) {p : Nat} (hp : p < n) (h0 : 0 ≤ gF ys p) (hc : chkD n C p (gF ys p) = false) : BadD n C := .inl ⟨p, _, hW.sound.1 p hp h0, .inl hc⟩
/-- the last one that waits is taken -/
theorem work_pop {q : Nat} (hW : Work n C ys (wt ++ [q]) (fun _ => False)) : Work n C ys wt (fun p => p = q) ∧ q < n ∧ 0 ≤ gF ys q := by
  have hq := hW.mem q (by simp)
  refine ⟨⟨hW.len, hW.sound, fun r h => hW.mem r (by simp [h]), fun p hp h => ?_, ?_⟩, hq⟩
  · rcases hW.rest p hp h with h1 | h1 | h1
    · rcases List.mem_append.1 h1 with h2 | h2
      · exact .inl h2
      · exact .inr (.inl (by simpa using h2))
    · exact h1.elim
    · exact .inr (.inr h1)
  · have := hW.cnt
    rw [List.length_append] at this
    simp only [List.length_cons, List.length_nil] at this
    omega
/-- all edges of a place are as they should be -/
theorem work_done {q : Nat} (hW : Work n C ys wt (fun p => p = q)) (hc : chkD n C q (gF ys q) = true) (he : ∀ r, r ∈ succD C q → EdgeOK n C (gF ys) q r) : Work n C ys wt (fun _ => False) :=
  ⟨hW.len, hW.sound, hW.mem, fun p hp h => by
    rcases hW.rest p hp h with h1 | h1 | h1
    · exact .inl h1
    · subst h1; exact .inr (.inr ⟨hc, he⟩)
    · exact .inr (.inr h1), hW.cnt⟩
theorem work_end (hW : Work n C ys [] (fun _ => False)) : ClosedD n C (gF ys) := fun p hp h => by
  rcases hW.rest p hp h with h1 | h1 | h1
  · cases h1
  · exact h1.elim
  · exact h1
end
end Go.Proofs.Ytnjfjebmkajpbaa
