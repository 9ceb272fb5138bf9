/- Chapter 05, plain: what the reference reads, with the places where objects lie. -/
import Derived.Test.YtfinpgkehjbcpaaIO
namespace Go.Proofs.Ytfinpgkehjbcpaa
set_option linter.unusedVariables false
set_option linter.unusedSimpArgs false
/-- a word, where objects lie at places -/
def realP (ps : List Int) (c : Int) : Int := if c < 3 then 2 * c else if c % 2 = 1 then (smallV (unfV ((c.toNat - 3) / 2))).1 else ps.getD ((c.toNat - 4) / 2) 0
def wrdN (n : Nat) (σ : RdS) : Nat × RdS := ((wrdR σ).1, mustR (!oddV n ((wrdR σ).1 : Int)) (wrdR σ).2)
def fldN (n f : Nat) (σ : RdS) : Int × RdS := if f = 1 then numR σ else if f = 2 then byteR σ else (((wrdN n σ).1 : Int), (wrdN n σ).2)
def fldsN (n f : Nat) : Nat → RdS → List Int × RdS
  | 0, σ => ([], σ)
  | _ + 1, none => ([], none)
  | k + 1, some l => ((fldN n f (some l)).1 :: (fldsN n f k (fldN n f (some l)).2).1, (fldsN n f k (fldN n f (some l)).2).2)
def objN (m : Nat) (σ : RdS) : Tng × RdS :=
  let a := cntR 2 σ
  let n := cntR 256 a.2
  let h := numR n.2
  let c := wrdN m h.2
  let F := fldsN m a.1 n.1 (mustR (okC c.1) (mustR (okH h.1) c.2))
  (⟨a.1, h.1, c.1, F.1⟩, F.2)
def objsN (m : Nat) : Nat → RdS → List Tng × RdS
  | 0, σ => ([], σ)
  | _ + 1, none => ([], none)
  | n + 1, some l => ((objN m (some l)).1 :: (objsN m n (objN m (some l)).2).1, (objsN m n (objN m (some l)).2).2)
def wrdsN (m : Nat) : Nat → RdS → List Int × RdS
  | 0, σ => ([], σ)
  | _ + 1, none => ([], none)
  | n + 1, some l => (((wrdN m (some l)).1 : Int) :: (wrdsN m n (wrdN m (some l)).2).1, (wrdsN m n (wrdN m (some l)).2).2)
theorem wrdR_none : wrdR none = (0, none) := rfl
theorem wrdN_none (n : Nat) : wrdN n none = (0, none) := by
  unfold wrdN; rw [wrdR_none]; rfl
theorem wrdN_fst (n : Nat) (σ : RdS) : (wrdN n σ).1 = (wrdR σ).1 := rfl
theorem wrdN_le (n : Nat) (σ : RdS) : (wrdN n σ).1 ≤ 4611686018427387904 := cntR_le 4611686018427387904 σ
theorem mustR_and (a b : Bool) (σ : RdS) : mustR a (mustR b σ) = mustR (a && b) σ := by cases a <;> cases b <;> rfl
/-- a word's state, case by case -/
theorem wrdN_low {n c : Nat} {σ s1 : RdS} (h : cntR 4611686018427387904 σ = (c, s1)) (hc : c < 3) : wrdN n σ = (c, s1) := by
  unfold wrdN wrdR badS oddV
  rw [h]
  show (c, mustR (!(decide (4 ≤ (c : Int)) && decide ((c : Int) % 2 = 0) && decide ((n : Int) ≤ ((c : Int) - 4) / 2))) (mustR (!(decide (3 ≤ c) && decide (c % 2 = 1) && !(smallV (unfV ((c - 3) / 2))).2)) s1)) = _
  rw [decide_eq_false (show ¬ 3 ≤ c by omega), decide_eq_false (show ¬ (4 : Int) ≤ (c : Int) by omega)]
  rfl
theorem wrdN_odd {n c : Nat} {σ s1 : RdS} (h : cntR 4611686018427387904 σ = (c, s1)) (h3 : 3 ≤ c) (ho : c % 2 = 1) : wrdN n σ = (c, mustR (smallV (unfV ((c - 3) / 2))).2 s1) := by
  unfold wrdN wrdR badS oddV
  rw [h]
  show (c, mustR (!(decide (4 ≤ (c : Int)) && decide ((c : Int) % 2 = 0) && decide ((n : Int) ≤ ((c : Int) - 4) / 2))) (mustR (!(decide (3 ≤ c) && decide (c % 2 = 1) && !(smallV (unfV ((c - 3) / 2))).2)) s1)) = _
  rw [decide_eq_true h3, decide_eq_true ho, decide_eq_false (show ¬ (c : Int) % 2 = 0 by omega), Bool.and_false, Bool.false_and, Bool.true_and, Bool.true_and, Bool.not_not]
  rfl
theorem wrdN_even {n c k : Nat} {σ s1 : RdS} (h : cntR 4611686018427387904 σ = (c, s1)) (hk : c = 2 * k + 4) : wrdN n σ = (c, mustR (decide (k < n)) s1) := by
  subst hk
  unfold wrdN wrdR badS oddV
  rw [h]
  show (2 * k + 4, mustR (!(decide (4 ≤ ((2 * k + 4 : Nat) : Int)) && decide (((2 * k + 4 : Nat) : Int) % 2 = 0) && decide ((n : Int) ≤ (((2 * k + 4 : Nat) : Int) - 4) / 2))) (mustR (!(decide (3 ≤ 2 * k + 4) && decide ((2 * k + 4) % 2 = 1) && !(smallV (unfV ((2 * k + 4 - 3) / 2))).2)) s1)) = _
  rw [decide_eq_false (show ¬ (2 * k + 4) % 2 = 1 by omega), decide_eq_true (show (4 : Int) ≤ ((2 * k + 4 : Nat) : Int) by omega), decide_eq_true (show ((2 * k + 4 : Nat) : Int) % 2 = 0 by omega), Bool.and_false, Bool.false_and, Bool.true_and, Bool.true_and]
  congr 1
  show mustR _ s1 = _
  congr 1
  by_cases q : k < n
  · rw [decide_eq_true q, decide_eq_false (by omega)]; rfl
  · rw [decide_eq_false q, decide_eq_true (by omega)]; rfl
theorem realP_low {ps : List Int} {c : Nat} (h : c < 3) : realP ps (c : Int) = 2 * (c : Int) := by unfold realP; rw [if_pos (by omega)]
theorem realP_odd {ps : List Int} {c : Nat} (h3 : 3 ≤ c) (ho : c % 2 = 1) : realP ps (c : Int) = (smallV (unfV ((c - 3) / 2))).1 := by
  unfold realP; rw [if_neg (by omega), if_pos (by omega), Int.toNat_natCast]
theorem realP_even {ps : List Int} {k : Nat} : realP ps ((2 * k + 4 : Nat) : Int) = ps.getD k 0 := by
  unfold realP; rw [if_neg (by omega), if_neg (by omega), Int.toNat_natCast, show (2 * k + 4 - 4) / 2 = k by omega]
end Go.Proofs.Ytfinpgkehjbcpaa
/- Chapter 05, plain: an object's tests in the reference. -/
namespace Go.Proofs.Ytfinpgkehjbcpaa
set_option linter.unusedVariables false
set_option linter.unusedSimpArgs false
theorem cntN_le (m : Nat) (σ : RdS) {c : Nat} {s : RdS} (h : cntR m σ = (c, s)) : c ≤ m := by have := cntR_le m σ; rw [h] at this; exact this
/-- the tests of an object's hash and class come to the program's -/
theorem obj_test {ps : List Int} (he : ∀ x, x ∈ ps → x % 2 = 0 ∧ 6 ≤ x) {σ s4 : RdS} {c : Nat} (h : wrdN ps.length σ = (c, s4)) (hh : Int) :
    mustR (okC c) (mustR (okH hh) s4) = mustR (decide (-1099511627776 ≤ hh) && decide (hh ≤ 1099511627776) && decide ((realP ps (c : Int)) % 2 = 0) && !decide (realP ps (c : Int) = 2) && !decide (realP ps (c : Int) = 4)) s4 := by
  cases s4 with
  | none => simp only [mustR_none]
  | some l =>
    rw [mustR_and]
    congr 1
    unfold okH
    rw [Bool.and_comm]
    have hc1 : (wrdR σ).1 = c := by rw [← wrdN_fst ps.length, h]
    have hs : mustR (!oddV ps.length (c : Int)) (wrdR σ).2 = some l := by
      have := congrArg Prod.snd h
      unfold wrdN at this
      rw [hc1] at this
      exact this
    have hodd : oddV ps.length (c : Int) = false := by
      cases q : oddV ps.length (c : Int) with
      | false => rfl
      | true => rw [q] at hs; cases hs
    rw [hodd] at hs
    have hw : (wrdR σ).2 = some l := hs
    rw [Bool.and_assoc (decide (-1099511627776 ≤ hh) && decide (hh ≤ 1099511627776)), Bool.and_assoc (decide (-1099511627776 ≤ hh) && decide (hh ≤ 1099511627776))]
    congr 1
    have hc2 : (cntR 4611686018427387904 σ).1 = c := hc1
    have hbs : badS c = false := by
      cases q : badS c with
      | false => rfl
      | true =>
        have e : (wrdR σ).2 = mustR (!badS (cntR 4611686018427387904 σ).1) (cntR 4611686018427387904 σ).2 := rfl
        rw [hc2, q, hw] at e
        cases e
    unfold okC
    by_cases h3 : c < 3
    · rw [realP_low h3]
      rcases (show c = 0 ∨ c = 1 ∨ c = 2 by omega) with rfl | rfl | rfl <;> decide
    by_cases ho : c % 2 = 1
    · rw [realP_odd (by omega) ho]
      have hsm : (smallV (unfV ((c - 3) / 2))).2 = true := by
        unfold badS at hbs
        rw [decide_eq_true (show 3 ≤ c by omega), decide_eq_true ho] at hbs
        simpa using hbs
      have hv : (smallV (unfV ((c - 3) / 2))).1 % 2 = 1 := by
        unfold smallV at hsm ⊢
        split at hsm
        · rename_i q; rw [if_pos q]; show (2 * _ + 1) % 2 = 1; omega
        · cases hsm
      rw [decide_eq_false (show ¬ (smallV (unfV ((c - 3) / 2))).1 % 2 = 0 by omega), decide_eq_false (show ¬ c = 0 by omega), decide_eq_false (show ¬ c % 2 = 0 by omega), Bool.and_false]
      rfl
    · obtain ⟨k, rfl⟩ : ∃ k, c = 2 * k + 4 := ⟨(c - 4) / 2, by omega⟩
      rw [realP_even]
      have hk : k < ps.length := by
        unfold oddV at hodd
        rw [decide_eq_true (show (4 : Int) ≤ ((2 * k + 4 : Nat) : Int) by omega), decide_eq_true (show ((2 * k + 4 : Nat) : Int) % 2 = 0 by omega)] at hodd
        have := of_decide_eq_false (by simpa using hodd : decide ((ps.length : Int) ≤ (((2 * k + 4 : Nat) : Int) - 4) / 2) = false)
        omega
      have hx := he ps[k] (List.getElem_mem hk)
      rw [List.getD_eq_getElem?_getD, List.getElem?_eq_getElem hk]
      show _ = (decide (ps[k] % 2 = 0) && !decide (ps[k] = 2) && !decide (ps[k] = 4))
      rw [decide_eq_true hx.1, decide_eq_false (show ¬ ps[k] = 2 by omega), decide_eq_false (show ¬ ps[k] = 4 by omega), decide_eq_false (show ¬ (2 * k + 4) = 0 by omega), decide_eq_true (show 4 ≤ 2 * k + 4 by omega), decide_eq_true (show (2 * k + 4) % 2 = 0 by omega)]
      rfl
/-- a word is a number that a machine word holds -/
theorem realP_in {ps : List Int} (hp : ∀ x, x ∈ ps → InI x) {c : Nat} (hc : c ≤ 4611686018427387904) : InI (realP ps (c : Int)) := by
  by_cases h3 : c < 3
  · rw [realP_low h3]; constructor <;> omega
  by_cases ho : c % 2 = 1
  · rw [realP_odd (by omega) ho]
    unfold smallV
    split
    · rename_i q; constructor <;> (show _ ≤ _; omega)
    · constructor <;> decide
  · obtain ⟨k, rfl⟩ : ∃ k, c = 2 * k + 4 := ⟨(c - 4) / 2, by omega⟩
    rw [realP_even, List.getD_eq_getElem?_getD]
    rcases Nat.lt_or_ge k ps.length with q | q
    · rw [List.getElem?_eq_getElem q]; exact hp _ (List.getElem_mem q)
    · rw [List.getElem?_eq_none q]; constructor <;> decide
/-- a thing, where objects lie at places -/
def tObP (ps : List Int) (t : Tng) : Ob := ⟨realP ps (t.cls : Int), t.fmt, t.hash, if t.fmt = 0 then t.F.map (realP ps) else t.F⟩
def fldP (ps : List Int) (f : Nat) (x : Int) : Int := if f = 0 then realP ps x else x
theorem fldP_map (ps : List Int) (f : Nat) (l : List Int) : l.map (fldP ps f) = if f = 0 then l.map (realP ps) else l := by
  unfold fldP
  split
  · rfl
  · simp
end Go.Proofs.Ytfinpgkehjbcpaa
