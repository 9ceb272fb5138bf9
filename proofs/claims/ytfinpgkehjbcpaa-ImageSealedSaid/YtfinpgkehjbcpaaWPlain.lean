/- Plain laws on whole numbers for chapter 1: no program in sight. -/
import Derived.IntWalk
set_option linter.unusedVariables false
namespace Go.Proofs.Ytfinpgkehjbcpaa

def num (n : Int) : Bool := decide (-1152921504606846976 ≤ n ∧ n ≤ 1152921504606846976)
theorem num_true {n : Int} (h : num n = true) : -1152921504606846976 ≤ n ∧ n ≤ 1152921504606846976 := of_decide_eq_true h
theorem num_mk {n : Int} (h : -1152921504606846976 ≤ n) (h' : n ≤ 1152921504606846976) : num n = true := decide_eq_true ⟨h, h'⟩
theorem num_false {n : Int} (h : num n = false) : n < -1152921504606846976 ∨ 1152921504606846976 < n := by
  have := of_decide_eq_false h; omega
theorem num_neg (n : Int) : num (-n) = num n := by unfold num; rw [decide_eq_decide]; omega

def told (n : Int) : Int × Int := if num n then (n, 0) else (0, 2)
def addV (a b : Int) : Int × Int := if num a && num b then told (a + b) else (0, 2)
def subV (a b : Int) : Int × Int := if num a && num b then told (a - b) else (0, 2)
def mulV (a b : Int) : Int × Int := if num a && num b then told (a * b) else (0, 2)
def negV (n : Int) : Int := if num n then -n else n
def floorV (a b : Int) : Int × Int × Int := if num a && num b then (if b == 0 then (0, 0, 3) else (Int.fdiv a b, Int.fmod a b, 0)) else (0, 0, 2)
def divV (a b : Int) : Int × Int := ((floorV a b).1, (floorV a b).2.2)
def modV (a b : Int) : Int × Int := ((floorV a b).2.1, (floorV a b).2.2)

theorem addV_neg (a b : Int) : addV a (negV b) = subV a b := by
  unfold addV subV negV
  cases h : num b
  · simp [h]
  · simp [h, num_neg, Int.sub_eq_add_neg]

theorem tdiv_bd (a b m : Int) (h1 : -m ≤ a) (h2 : a ≤ m) : -m ≤ a.tdiv b ∧ a.tdiv b ≤ m := by
  have := Int.natAbs_tdiv_le_natAbs a b; omega

theorem tmod_bd (a b m : Int) (hb : ¬ b = 0) (h1 : -m ≤ b) (h2 : b ≤ m) : -m < a.tmod b ∧ a.tmod b < m := by
  have h := Int.natAbs_tmod a b
  have : a.natAbs % b.natAbs < b.natAbs := Nat.mod_lt _ (by omega)
  omega

theorem floor_turn (a b : Int) (hb : ¬ b = 0) (h0 : ¬ a.tmod b = 0) (h : ¬ (a.tmod b < 0 ↔ b < 0)) : Int.fdiv a b = a.tdiv b - 1 ∧ Int.fmod a b = a.tmod b + b := by
  have hd : ¬ b ∣ a := fun k => h0 (Int.tmod_eq_zero_of_dvd k)
  have hs : (a.tmod b < 0) → a < 0 := fun k => by
    rcases Int.lt_or_le a 0 with g | g
    · exact g
    · have := Int.tmod_nonneg b g; omega
  have hs' : ¬ (a.tmod b < 0) → ¬ a < 0 := fun k g => by
    have e : a.tmod b = -((-a).tmod b) := by rw [Int.neg_tmod]; omega
    have := Int.tmod_nonneg b (a := -a) (by omega)
    omega
  rw [Int.fdiv_eq_tdiv, Int.fmod_eq_tmod, if_neg hd, if_neg hd]
  by_cases k : a.tmod b < 0
  · have ha := hs k
    have : ¬ b < 0 := fun g => h ⟨fun _ => g, fun _ => k⟩
    rw [if_neg (by omega), if_pos (by omega), if_neg (by omega), if_pos (by omega)]
    rw [Int.sign_eq_one_of_pos (by omega)]; omega
  · have ha := hs' k
    have : b < 0 := by
      rcases Int.lt_or_le b 0 with g | g
      · exact g
      · exact absurd ⟨fun x => absurd x k, fun x => by omega⟩ h
    rw [if_pos (by omega), if_neg (by omega), if_pos (by omega), if_neg (by omega)]; omega

theorem floor_same (a b : Int) (hb : ¬ b = 0) (h : a.tmod b = 0 ∨ (a.tmod b < 0 ↔ b < 0)) : Int.fdiv a b = a.tdiv b ∧ Int.fmod a b = a.tmod b := by
  by_cases hd : b ∣ a
  · rw [Int.fdiv_eq_tdiv, Int.fmod_eq_tmod, if_pos hd, if_pos hd]; omega
  · have h0 : ¬ a.tmod b = 0 := fun k => hd (Int.dvd_of_tmod_eq_zero k)
    have h' : (a.tmod b < 0 ↔ b < 0) := h.resolve_left h0
    have hs : (a.tmod b < 0) → a < 0 := fun k => by
      rcases Int.lt_or_le a 0 with g | g
      · exact g
      · have := Int.tmod_nonneg b g; omega
    have hs' : ¬ (a.tmod b < 0) → ¬ a < 0 := fun k g => by
      have e : a.tmod b = -((-a).tmod b) := by rw [Int.neg_tmod]; omega
      have := Int.tmod_nonneg b (a := -a) (by omega)
      omega
    rw [Int.fdiv_eq_tdiv, Int.fmod_eq_tmod, if_neg hd, if_neg hd]
    by_cases k : a.tmod b < 0
    · have ha := hs k
      have hb' := h'.1 k
      rw [if_neg (by omega), if_neg (by omega), if_neg (by omega), if_neg (by omega)]
      rw [Int.sign_eq_neg_one_of_neg hb']; omega
    · have ha := hs' k
      have hb' : ¬ b < 0 := fun g => k (h'.2 g)
      rw [if_pos (by omega), if_pos (by omega), if_pos (by omega), if_pos (by omega)]; omega

theorem fdiv_bd (a b : Int) (ha : num a = true) (hb : num b = true) (h0 : ¬ b = 0) : -1152921504606846977 ≤ Int.fdiv a b ∧ Int.fdiv a b ≤ 1152921504606846976 := by
  obtain ⟨h1, h2⟩ := num_true ha
  have t := tdiv_bd a b _ h1 h2
  by_cases k : a.tmod b = 0 ∨ (a.tmod b < 0 ↔ b < 0)
  · rw [(floor_same a b h0 k).1]; omega
  · rw [(floor_turn a b h0 (fun g => k (.inl g)) (fun g => k (.inr g))).1]; omega

theorem fmod_facts (a b : Int) (h0 : ¬ b = 0) : (0 < b → 0 ≤ Int.fmod a b ∧ Int.fmod a b < b) ∧ (b < 0 → b < Int.fmod a b ∧ Int.fmod a b ≤ 0) := by
  constructor
  · intro h
    rw [Int.fmod_eq_emod_of_nonneg a (by omega)]
    exact ⟨Int.emod_nonneg a (by omega), Int.emod_lt_of_pos a h⟩
  · intro h
    have e := Int.neg_fmod_neg a b
    have e2 := Int.fmod_eq_emod_of_nonneg (-a) (b := -b) (by omega)
    have := Int.emod_nonneg (-a) (b := -b) (by omega)
    have := Int.emod_lt_of_pos (-a) (b := -b) (by omega)
    omega

theorem fdiv_mul (a b : Int) : b * Int.fdiv a b = a - Int.fmod a b := by
  have := Int.mul_fdiv_add_fmod a b; omega

theorem mul_bd (a b : Int) (ha : num a = true) (hb : num b = true) (h0 : ¬ b = 0) : -2305843009213693952 ≤ b * Int.fdiv a b ∧ b * Int.fdiv a b ≤ 2305843009213693952 := by
  obtain ⟨h1, h2⟩ := num_true ha
  obtain ⟨k1, k2⟩ := num_true hb
  have h := fmod_facts a b h0
  rw [fdiv_mul]
  rcases Int.lt_or_le b 0 with g | g
  · have := h.2 g; omega
  · have := h.1 (by omega); omega

theorem ref_up (a b : Int) (hb : 0 < b) (ha : a < 0) : -((-a + b - 1) / b) = Int.fdiv a b := by
  rw [Int.fdiv_eq_ediv_of_nonneg a (by omega)]
  have e := Int.mul_ediv_add_emod a b
  have h1 := Int.emod_nonneg a (b := b) (by omega)
  have h2 := Int.emod_lt_of_pos a hb
  have e3 : -a + b - 1 = (b - 1 - a % b) + b * (-(a / b)) := by rw [Int.mul_neg]; omega
  rw [e3, Int.add_mul_ediv_left _ _ (by omega), Int.ediv_eq_zero_of_lt (by omega) (by omega)]
  omega

end Go.Proofs.Ytfinpgkehjbcpaa
namespace Go.Proofs.Ytfinpgkehjbcpaa
theorem addV_ok {a b x e : Int} (h : addV a b = (x, e)) (he : e = 0) : num a = true ∧ num b = true ∧ x = a + b := by
  subst he
  unfold addV told at h
  cases ha : num a <;> cases hb : num b <;> simp [ha, hb] at h
  cases hn : num (a + b) <;> simp [hn] at h
  exact ⟨rfl, rfl, h.symm⟩
theorem mulV_ok {a b x e : Int} (h : mulV a b = (x, e)) (he : e = 0) : num a = true ∧ num b = true ∧ x = a * b := by
  subst he
  unfold mulV told at h
  cases ha : num a <;> cases hb : num b <;> simp [ha, hb] at h
  cases hn : num (a * b) <;> simp [hn] at h
  exact ⟨rfl, rfl, h.symm⟩
theorem ring1 (a b c x e p g q h r i : Int) (A : addV a b = (x, e)) (P : addV x c = (p, g)) (Q : addV b c = (q, h)) (R : addV a q = (r, i)) :
    e = 0 → g = 0 → h = 0 → i = 0 → p = r := by
  intro he hg hh hi
  have := (addV_ok A he).2.2; have := (addV_ok P hg).2.2; have := (addV_ok Q hh).2.2; have := (addV_ok R hi).2.2
  omega
theorem ring2 (a b c x e s j t k u l v m : Int) (A : addV a b = (x, e)) (S : mulV x c = (s, j)) (T : mulV a c = (t, k)) (U : mulV b c = (u, l)) (V : addV t u = (v, m)) :
    e = 0 → j = 0 → k = 0 → l = 0 → m = 0 → s = v := by
  intro he hj hk hl hm
  have h1 := (addV_ok A he).2.2; have h2 := (mulV_ok S hj).2.2; have h3 := (mulV_ok T hk).2.2; have h4 := (mulV_ok U hl).2.2; have h5 := (addV_ok V hm).2.2
  rw [h2, h5, h1, h3, h4, Int.add_mul]
end Go.Proofs.Ytfinpgkehjbcpaa
