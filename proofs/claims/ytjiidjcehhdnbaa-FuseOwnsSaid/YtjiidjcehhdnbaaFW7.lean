/- Contracts of chapter 18's reference: the stroke that begins at a place. -/
import Derived.Test.YtjiidjcehhdnbaaFW6
import Derived.Deep.DeepCutAuto
namespace Go.Proofs.Ytjiidjcehhdnbaa
open Go.ChangeShapes Go.WideShapes Go.ChangeAt Go.RowKit
set_option linter.unusedVariables false
set_option linter.unusedSimpArgs false

/-- what decides whether a text begins with a letter -/
theorem letter_facts (t : ByteArray) : (letterV t = false ∧ t.size = 0) ∨ ∃ n : Nat, (∀ h : 0 < t.size, (t[0]).toNat = n) ∧ 0 < t.size ∧
    letterV t = ((decide (97 ≤ (n : Int)) && decide ((n : Int) ≤ 122)) || (decide (65 ≤ (n : Int)) && decide ((n : Int) ≤ 90))) := by
  obtain ⟨⟨l⟩⟩ := t
  match l with
  | [] => exact .inl ⟨rfl, rfl⟩
  | c :: r =>
    refine .inr ⟨c.toNat, fun _ => rfl, by show 0 < (c :: r).length; simp, ?_⟩
    show letB c = _
    unfold letB
    rw [Bool.eq_iff_iff]
    simp only [UInt8.le_iff_toNat_le, Bool.or_eq_true, Bool.and_eq_true, decide_eq_true_eq]
    simp; omega
section
variable {w0 w : World} {LA : Option Addr} {ln lc : Nat} {CA : Option Addr} {cn cc : Nat} {L : Nat → LitR} {C : Nat → InsR} {s : ByteArray} {x0 x1 x2 : Int}

theorem opndV_2 (self : Int) (tn : Nat) (TF : Nat → Int) (fn : Nat) (FF : Nat → Int) (p : Int) : (opndV ln L cn C self tn TF fn FF p).2 = isOp ln L cn C p := by
  unfold opndV
  cases h : isOp ln L cn C p <;> simp
  cases (insAt cn C p).op == 1 <;> cases (insAt cn C p).op == 7 <;> cases (insAt cn C p).op == 8 <;> rfl

set_option maxRecDepth 100000 in
set_option maxHeartbeats 2000000 in
theorem rstroke_none (hM : IsM w0 LA ln CA cn L C) (hB : Below w0.heap.size w0 w) (p : Int) (O : isOp ln L cn C p = false) :
    Calls Try.prog 12 #[.agg #[.string s, .int .i64 x0, .int .i64 x1, .int .i64 x2, .slice LA ln lc, .slice CA cn cc], .int .i64 p] w fun e w' => e = .returned (.tuple #[.int .i64 (strokeV ln L cn C p).1, .int .i64 (strokeV ln L cn C p).2.2]) ∧ Below w.heap.size w w' := by
  have F : Hid (strokeV ln L cn C p = (0, 0, 0)) := by show strokeV ln L cn C p = _; simp [strokeV, strokeS, O]
  have hI : Inv w0 w (w.alloc (.cells #[.string s, .int .i64 x0, .int .i64 x1, .int .i64 x2, .slice LA ln lc, .slice CA cn cc] 25)) (w.alloc (.cells #[.string s, .int .i64 x0, .int .i64 x1, .int .i64 x2, .slice LA ln lc, .slice CA cn cc] 25)) := Inv.start hB (by (repeat' (first | (with_reducible exact Below.refl _ _) | (with_reducible assumption) | (with_reducible refine below_drewN ?_ _) | (with_reducible refine Below.alloc ?_ ?_ _) | (with_reducible refine Below.drew ?_) | (with_reducible refine Below.setCell ?_ ?_ _) | go_size)))
  have HO := Lib.hid O
  clear O
  clear hB
  go_enter Try.func12, Try.ntmps12
  go_wp2_with (first | (go_at_call 20; (with_reducible refine (ropnd_any hM (Words.none_ w0) (Words.none_ w0) (hI.at0 (by (repeat' (first | (with_reducible exact Below.refl _ _) | (with_reducible assumption) | (with_reducible refine below_drewN ?_ _) | (with_reducible refine Below.alloc ?_ ?_ _) | (with_reducible refine Below.drew ?_) | (with_reducible refine Below.setCell ?_ ?_ _) | go_size)))) _).mono ?_); rw [opndV_2, HO.out]; rintro e w1 ⟨rfl, hb⟩; (try clear hc hf hl0); replace hI := hI.step (by (repeat' (first | (with_reducible exact Below.refl _ _) | (with_reducible assumption) | (with_reducible refine below_drewN ?_ _) | (with_reducible refine Below.alloc ?_ ?_ _) | (with_reducible refine Below.drew ?_) | (with_reducible refine Below.setCell ?_ ?_ _) | go_size))) hb; clear hb; have hc := hI.cell; have hf := hI.frozen; have hl0 := hI.lt_ (b := w.heap.size) (by simp only [World.size_alloc, World.size_setCell, World.size_drew, size_drewN]; omega); (try simp only [World.size_alloc, World.size_setCell, World.size_drew, size_drewN] at hc hf)) | (go_at_call 21; (with_reducible refine (is_any hM (hI.at0 (by (repeat' (first | (with_reducible exact Below.refl _ _) | (with_reducible assumption) | (with_reducible refine below_drewN ?_ _) | (with_reducible refine Below.alloc ?_ ?_ _) | (with_reducible refine Below.drew ?_) | (with_reducible refine Below.setCell ?_ ?_ _) | go_size)))) _ _ rfl).mono ?_); rintro e w1 ⟨rfl, hb⟩; (try clear hc hf hl0); replace hI := hI.step (by (repeat' (first | (with_reducible exact Below.refl _ _) | (with_reducible assumption) | (with_reducible refine below_drewN ?_ _) | (with_reducible refine Below.alloc ?_ ?_ _) | (with_reducible refine Below.drew ?_) | (with_reducible refine Below.setCell ?_ ?_ _) | go_size))) hb; clear hb; have hc := hI.cell; have hf := hI.frozen; have hl0 := hI.lt_ (b := w.heap.size) (by simp only [World.size_alloc, World.size_setCell, World.size_drew, size_drewN]; omega); (try simp only [World.size_alloc, World.size_setCell, World.size_drew, size_drewN] at hc hf)) | (go_at_call 22; (with_reducible refine (send_any hM (hI.at0 (by (repeat' (first | (with_reducible exact Below.refl _ _) | (with_reducible assumption) | (with_reducible refine below_drewN ?_ _) | (with_reducible refine Below.alloc ?_ ?_ _) | (with_reducible refine Below.drew ?_) | (with_reducible refine Below.setCell ?_ ?_ _) | go_size)))) _ _).mono ?_); rintro e w1 ⟨rfl, hb⟩; (try clear hc hf hl0); replace hI := hI.step (by (repeat' (first | (with_reducible exact Below.refl _ _) | (with_reducible assumption) | (with_reducible refine below_drewN ?_ _) | (with_reducible refine Below.alloc ?_ ?_ _) | (with_reducible refine Below.drew ?_) | (with_reducible refine Below.setCell ?_ ?_ _) | go_size))) hb; clear hb; have hc := hI.cell; have hf := hI.frozen; have hl0 := hI.lt_ (b := w.heap.size) (by simp only [World.size_alloc, World.size_setCell, World.size_drew, size_drewN]; omega); (try simp only [World.size_alloc, World.size_setCell, World.size_drew, size_drewN] at hc hf)))
  go_ret2
  refine ⟨by rw [F.out]; rfl, ?_⟩
  (have hS := hI.bw; (repeat' (first | (with_reducible exact Below.refl _ _) | (with_reducible assumption) | (with_reducible refine below_drewN ?_ _) | (with_reducible refine Below.alloc ?_ ?_ _) | (with_reducible refine Below.drew ?_) | (with_reducible refine Below.setCell ?_ ?_ _) | go_size)))

set_option maxRecDepth 100000 in
set_option maxHeartbeats 2000000 in
theorem rstroke_move (hM : IsM w0 LA ln CA cn L C) (hB : Below w0.heap.size w0 w) (p : Int) (h0 : -1 ≤ p) (h1 : p ≤ 1000) (O : isOp ln L cn C p = true) (g1 : ((insAt cn C (p + 1)).op == 10) = true) (g2 : ((insAt cn C (p + 2)).op == 12) = true) :
    Calls Try.prog 12 #[.agg #[.string s, .int .i64 x0, .int .i64 x1, .int .i64 x2, .slice LA ln lc, .slice CA cn cc], .int .i64 p] w fun e w' => e = .returned (.tuple #[.int .i64 (strokeV ln L cn C p).1, .int .i64 (strokeV ln L cn C p).2.2]) ∧ Below w.heap.size w w' := by
  have F : Hid (strokeV ln L cn C p = (4, p, 3)) := by show strokeV ln L cn C p = _; simp [strokeV, strokeS, O, g1, g2]
  have hI : Inv w0 w (w.alloc (.cells #[.string s, .int .i64 x0, .int .i64 x1, .int .i64 x2, .slice LA ln lc, .slice CA cn cc] 25)) (w.alloc (.cells #[.string s, .int .i64 x0, .int .i64 x1, .int .i64 x2, .slice LA ln lc, .slice CA cn cc] 25)) := Inv.start hB (by (repeat' (first | (with_reducible exact Below.refl _ _) | (with_reducible assumption) | (with_reducible refine below_drewN ?_ _) | (with_reducible refine Below.alloc ?_ ?_ _) | (with_reducible refine Below.drew ?_) | (with_reducible refine Below.setCell ?_ ?_ _) | go_size)))
  have HO := Lib.hid O
  clear O
  clear hB
  go_enter Try.func12, Try.ntmps12
  go_wp2_with (first | (go_at_call 20; (with_reducible refine (ropnd_any hM (Words.none_ w0) (Words.none_ w0) (hI.at0 (by (repeat' (first | (with_reducible exact Below.refl _ _) | (with_reducible assumption) | (with_reducible refine below_drewN ?_ _) | (with_reducible refine Below.alloc ?_ ?_ _) | (with_reducible refine Below.drew ?_) | (with_reducible refine Below.setCell ?_ ?_ _) | go_size)))) _).mono ?_); rw [opndV_2, HO.out]; rintro e w1 ⟨rfl, hb⟩; (try clear hc hf hl0); replace hI := hI.step (by (repeat' (first | (with_reducible exact Below.refl _ _) | (with_reducible assumption) | (with_reducible refine below_drewN ?_ _) | (with_reducible refine Below.alloc ?_ ?_ _) | (with_reducible refine Below.drew ?_) | (with_reducible refine Below.setCell ?_ ?_ _) | go_size))) hb; clear hb; have hc := hI.cell; have hf := hI.frozen; have hl0 := hI.lt_ (b := w.heap.size) (by simp only [World.size_alloc, World.size_setCell, World.size_drew, size_drewN]; omega); (try simp only [World.size_alloc, World.size_setCell, World.size_drew, size_drewN] at hc hf)) | (go_at_call 21; (with_reducible refine (is_any hM (hI.at0 (by (repeat' (first | (with_reducible exact Below.refl _ _) | (with_reducible assumption) | (with_reducible refine below_drewN ?_ _) | (with_reducible refine Below.alloc ?_ ?_ _) | (with_reducible refine Below.drew ?_) | (with_reducible refine Below.setCell ?_ ?_ _) | go_size)))) _ _ rfl).mono ?_); rintro e w1 ⟨rfl, hb⟩; (try clear hc hf hl0); replace hI := hI.step (by (repeat' (first | (with_reducible exact Below.refl _ _) | (with_reducible assumption) | (with_reducible refine below_drewN ?_ _) | (with_reducible refine Below.alloc ?_ ?_ _) | (with_reducible refine Below.drew ?_) | (with_reducible refine Below.setCell ?_ ?_ _) | go_size))) hb; clear hb; have hc := hI.cell; have hf := hI.frozen; have hl0 := hI.lt_ (b := w.heap.size) (by simp only [World.size_alloc, World.size_setCell, World.size_drew, size_drewN]; omega); (try simp only [World.size_alloc, World.size_setCell, World.size_drew, size_drewN] at hc hf)) | (go_at_call 22; (with_reducible refine (send_any hM (hI.at0 (by (repeat' (first | (with_reducible exact Below.refl _ _) | (with_reducible assumption) | (with_reducible refine below_drewN ?_ _) | (with_reducible refine Below.alloc ?_ ?_ _) | (with_reducible refine Below.drew ?_) | (with_reducible refine Below.setCell ?_ ?_ _) | go_size)))) _ _).mono ?_); rintro e w1 ⟨rfl, hb⟩; (try clear hc hf hl0); replace hI := hI.step (by (repeat' (first | (with_reducible exact Below.refl _ _) | (with_reducible assumption) | (with_reducible refine below_drewN ?_ _) | (with_reducible refine Below.alloc ?_ ?_ _) | (with_reducible refine Below.drew ?_) | (with_reducible refine Below.setCell ?_ ?_ _) | go_size))) hb; clear hb; have hc := hI.cell; have hf := hI.frozen; have hl0 := hI.lt_ (b := w.heap.size) (by simp only [World.size_alloc, World.size_setCell, World.size_drew, size_drewN]; omega); (try simp only [World.size_alloc, World.size_setCell, World.size_drew, size_drewN] at hc hf)))
  go_ret2
  refine ⟨by rw [F.out]; rfl, ?_⟩
  (have hS := hI.bw; (repeat' (first | (with_reducible exact Below.refl _ _) | (with_reducible assumption) | (with_reducible refine below_drewN ?_ _) | (with_reducible refine Below.alloc ?_ ?_ _) | (with_reducible refine Below.drew ?_) | (with_reducible refine Below.setCell ?_ ?_ _) | go_size)))

set_option maxRecDepth 100000 in
set_option maxHeartbeats 2000000 in
theorem rstroke_ask_a (hM : IsM w0 LA ln CA cn L C) (hB : Below w0.heap.size w0 w) (p : Int) (h0 : -1 ≤ p) (h1 : p ≤ 1000) (O : isOp ln L cn C p = true) (g1 : ((insAt cn C (p + 1)).op == 10) = false) (T : letterV (selV ln L cn C (p + 1) 0) = true) :
    Calls Try.prog 12 #[.agg #[.string s, .int .i64 x0, .int .i64 x1, .int .i64 x2, .slice LA ln lc, .slice CA cn cc], .int .i64 p] w fun e w' => e = .returned (.tuple #[.int .i64 (strokeV ln L cn C p).1, .int .i64 (strokeV ln L cn C p).2.2]) ∧ Below w.heap.size w w' := by
  have F : Hid (strokeV ln L cn C p = (5, p, 2)) := by show strokeV ln L cn C p = _; simp [strokeV, strokeS, O, g1, T]
  have hI : Inv w0 w (w.alloc (.cells #[.string s, .int .i64 x0, .int .i64 x1, .int .i64 x2, .slice LA ln lc, .slice CA cn cc] 25)) (w.alloc (.cells #[.string s, .int .i64 x0, .int .i64 x1, .int .i64 x2, .slice LA ln lc, .slice CA cn cc] 25)) := Inv.start hB (by (repeat' (first | (with_reducible exact Below.refl _ _) | (with_reducible assumption) | (with_reducible refine below_drewN ?_ _) | (with_reducible refine Below.alloc ?_ ?_ _) | (with_reducible refine Below.drew ?_) | (with_reducible refine Below.setCell ?_ ?_ _) | go_size)))
  have HO := Lib.hid O
  clear O
  have HT := Lib.hid T
  clear T
  clear hB
  go_enter Try.func12, Try.ntmps12
  go_upto_region 7 with (first | (go_at_call 20; (with_reducible refine (ropnd_any hM (Words.none_ w0) (Words.none_ w0) (hI.at0 (by (repeat' (first | (with_reducible exact Below.refl _ _) | (with_reducible assumption) | (with_reducible refine below_drewN ?_ _) | (with_reducible refine Below.alloc ?_ ?_ _) | (with_reducible refine Below.drew ?_) | (with_reducible refine Below.setCell ?_ ?_ _) | go_size)))) _).mono ?_); rw [opndV_2, HO.out]; rintro e w1 ⟨rfl, hb⟩; (try clear hc hf hl0); replace hI := hI.step (by (repeat' (first | (with_reducible exact Below.refl _ _) | (with_reducible assumption) | (with_reducible refine below_drewN ?_ _) | (with_reducible refine Below.alloc ?_ ?_ _) | (with_reducible refine Below.drew ?_) | (with_reducible refine Below.setCell ?_ ?_ _) | go_size))) hb; clear hb; have hc := hI.cell; have hf := hI.frozen; have hl0 := hI.lt_ (b := w.heap.size) (by simp only [World.size_alloc, World.size_setCell, World.size_drew, size_drewN]; omega); (try simp only [World.size_alloc, World.size_setCell, World.size_drew, size_drewN] at hc hf)) | (go_at_call 21; (with_reducible refine (is_any hM (hI.at0 (by (repeat' (first | (with_reducible exact Below.refl _ _) | (with_reducible assumption) | (with_reducible refine below_drewN ?_ _) | (with_reducible refine Below.alloc ?_ ?_ _) | (with_reducible refine Below.drew ?_) | (with_reducible refine Below.setCell ?_ ?_ _) | go_size)))) _ _ rfl).mono ?_); rintro e w1 ⟨rfl, hb⟩; (try clear hc hf hl0); replace hI := hI.step (by (repeat' (first | (with_reducible exact Below.refl _ _) | (with_reducible assumption) | (with_reducible refine below_drewN ?_ _) | (with_reducible refine Below.alloc ?_ ?_ _) | (with_reducible refine Below.drew ?_) | (with_reducible refine Below.setCell ?_ ?_ _) | go_size))) hb; clear hb; have hc := hI.cell; have hf := hI.frozen; have hl0 := hI.lt_ (b := w.heap.size) (by simp only [World.size_alloc, World.size_setCell, World.size_drew, size_drewN]; omega); (try simp only [World.size_alloc, World.size_setCell, World.size_drew, size_drewN] at hc hf)) | (go_at_call 22; (with_reducible refine (send_any hM (hI.at0 (by (repeat' (first | (with_reducible exact Below.refl _ _) | (with_reducible assumption) | (with_reducible refine below_drewN ?_ _) | (with_reducible refine Below.alloc ?_ ?_ _) | (with_reducible refine Below.drew ?_) | (with_reducible refine Below.setCell ?_ ?_ _) | go_size)))) _ _).mono ?_); rintro e w1 ⟨rfl, hb⟩; (try clear hc hf hl0); replace hI := hI.step (by (repeat' (first | (with_reducible exact Below.refl _ _) | (with_reducible assumption) | (with_reducible refine below_drewN ?_ _) | (with_reducible refine Below.alloc ?_ ?_ _) | (with_reducible refine Below.drew ?_) | (with_reducible refine Below.setCell ?_ ?_ _) | go_size))) hb; clear hb; have hc := hI.cell; have hf := hI.frozen; have hl0 := hI.lt_ (b := w.heap.size) (by simp only [World.size_alloc, World.size_setCell, World.size_drew, size_drewN]; omega); (try simp only [World.size_alloc, World.size_setCell, World.size_drew, size_drewN] at hc hf)))
  obtain ⟨t, ht⟩ : ∃ t, selV ln L cn C (p + 1) 0 = t := ⟨_, rfl⟩
  rw [ht]
  go_cut [55] (fun c wx => c = .bool (letterV t) ∧ wx = w1)
  case first =>
    rcases letter_facts t with ⟨f1, f2⟩ | ⟨n, f1, f2, f3⟩
    · have q : decide (0 < t.size) = false := decide_eq_false (by omega)
      have q' : ¬ 0 < t.size := by omega
      have F1 := Lib.hid f1
      clear f1 f2
      go_wp2_with fail
      go_meet
      exact ⟨by rw [F1.out], rfl⟩
    · have q : decide (0 < t.size) = true := decide_eq_true (by omega)
      have F3 := Lib.hid f3
      have f4 := f1 f2
      clear f1 f3
      by_cases k1 : 97 ≤ (n : Int)
      · by_cases k2 : (n : Int) ≤ 122
        · go_wp2_with fail
          go_meet
          exact ⟨by rw [F3.out, show decide (97 ≤ (n : Int)) = true from decide_eq_true (by omega), show decide ((n : Int) ≤ 122) = true from decide_eq_true (by omega), show decide (65 ≤ (n : Int)) = true from decide_eq_true (by omega)]; (try rw [Bool.true_and, Bool.true_or]); (try rfl), rfl⟩
        · go_wp2_with fail
          go_meet
          exact ⟨by rw [F3.out, show decide (97 ≤ (n : Int)) = true from decide_eq_true (by omega), show decide ((n : Int) ≤ 122) = false from decide_eq_false (by omega), show decide (65 ≤ (n : Int)) = true from decide_eq_true (by omega), show decide ((n : Int) ≤ 90) = false from decide_eq_false (by omega)]; (try rw [Bool.true_and, Bool.true_or]); (try rfl), rfl⟩
      · by_cases k3 : 65 ≤ (n : Int)
        · by_cases k4 : (n : Int) ≤ 90
          · go_wp2_with fail
            go_meet
            exact ⟨by rw [F3.out, show decide (97 ≤ (n : Int)) = false from decide_eq_false (by omega), show decide ((n : Int) ≤ 122) = true from decide_eq_true (by omega), show decide (65 ≤ (n : Int)) = true from decide_eq_true (by omega), show decide ((n : Int) ≤ 90) = true from decide_eq_true (by omega)]; (try rw [Bool.true_and, Bool.true_or]); (try rfl), rfl⟩
          · go_wp2_with fail
            go_meet
            exact ⟨by rw [F3.out, show decide (97 ≤ (n : Int)) = false from decide_eq_false (by omega), show decide ((n : Int) ≤ 122) = true from decide_eq_true (by omega), show decide (65 ≤ (n : Int)) = true from decide_eq_true (by omega), show decide ((n : Int) ≤ 90) = false from decide_eq_false (by omega)]; (try rw [Bool.true_and, Bool.true_or]); (try rfl), rfl⟩
        · go_wp2_with fail
          go_meet
          exact ⟨by rw [F3.out, show decide (97 ≤ (n : Int)) = false from decide_eq_false (by omega), show decide ((n : Int) ≤ 122) = true from decide_eq_true (by omega), show decide (65 ≤ (n : Int)) = false from decide_eq_false (by omega), show decide ((n : Int) ≤ 90) = true from decide_eq_true (by omega)]; (try rw [Bool.true_and, Bool.true_or]); (try rfl), rfl⟩
  case rest =>
    obtain ⟨rfl, rfl⟩ := hcut
    rw [← ht, HT.out]
    clear ht
    go_wp2_with (first | (go_at_call 20; (with_reducible refine (ropnd_any hM (Words.none_ w0) (Words.none_ w0) (hI.at0 (by (repeat' (first | (with_reducible exact Below.refl _ _) | (with_reducible assumption) | (with_reducible refine below_drewN ?_ _) | (with_reducible refine Below.alloc ?_ ?_ _) | (with_reducible refine Below.drew ?_) | (with_reducible refine Below.setCell ?_ ?_ _) | go_size)))) _).mono ?_); rw [opndV_2, HO.out]; rintro e w1 ⟨rfl, hb⟩; (try clear hc hf hl0); replace hI := hI.step (by (repeat' (first | (with_reducible exact Below.refl _ _) | (with_reducible assumption) | (with_reducible refine below_drewN ?_ _) | (with_reducible refine Below.alloc ?_ ?_ _) | (with_reducible refine Below.drew ?_) | (with_reducible refine Below.setCell ?_ ?_ _) | go_size))) hb; clear hb; have hc := hI.cell; have hf := hI.frozen; have hl0 := hI.lt_ (b := w.heap.size) (by simp only [World.size_alloc, World.size_setCell, World.size_drew, size_drewN]; omega); (try simp only [World.size_alloc, World.size_setCell, World.size_drew, size_drewN] at hc hf)) | (go_at_call 21; (with_reducible refine (is_any hM (hI.at0 (by (repeat' (first | (with_reducible exact Below.refl _ _) | (with_reducible assumption) | (with_reducible refine below_drewN ?_ _) | (with_reducible refine Below.alloc ?_ ?_ _) | (with_reducible refine Below.drew ?_) | (with_reducible refine Below.setCell ?_ ?_ _) | go_size)))) _ _ rfl).mono ?_); rintro e w1 ⟨rfl, hb⟩; (try clear hc hf hl0); replace hI := hI.step (by (repeat' (first | (with_reducible exact Below.refl _ _) | (with_reducible assumption) | (with_reducible refine below_drewN ?_ _) | (with_reducible refine Below.alloc ?_ ?_ _) | (with_reducible refine Below.drew ?_) | (with_reducible refine Below.setCell ?_ ?_ _) | go_size))) hb; clear hb; have hc := hI.cell; have hf := hI.frozen; have hl0 := hI.lt_ (b := w.heap.size) (by simp only [World.size_alloc, World.size_setCell, World.size_drew, size_drewN]; omega); (try simp only [World.size_alloc, World.size_setCell, World.size_drew, size_drewN] at hc hf)) | (go_at_call 22; (with_reducible refine (send_any hM (hI.at0 (by (repeat' (first | (with_reducible exact Below.refl _ _) | (with_reducible assumption) | (with_reducible refine below_drewN ?_ _) | (with_reducible refine Below.alloc ?_ ?_ _) | (with_reducible refine Below.drew ?_) | (with_reducible refine Below.setCell ?_ ?_ _) | go_size)))) _ _).mono ?_); rintro e w1 ⟨rfl, hb⟩; (try clear hc hf hl0); replace hI := hI.step (by (repeat' (first | (with_reducible exact Below.refl _ _) | (with_reducible assumption) | (with_reducible refine below_drewN ?_ _) | (with_reducible refine Below.alloc ?_ ?_ _) | (with_reducible refine Below.drew ?_) | (with_reducible refine Below.setCell ?_ ?_ _) | go_size))) hb; clear hb; have hc := hI.cell; have hf := hI.frozen; have hl0 := hI.lt_ (b := w.heap.size) (by simp only [World.size_alloc, World.size_setCell, World.size_drew, size_drewN]; omega); (try simp only [World.size_alloc, World.size_setCell, World.size_drew, size_drewN] at hc hf)))
    go_ret2
    refine ⟨by rw [F.out]; rfl, ?_⟩
    (have hS := hI.bw; (repeat' (first | (with_reducible exact Below.refl _ _) | (with_reducible assumption) | (with_reducible refine below_drewN ?_ _) | (with_reducible refine Below.alloc ?_ ?_ _) | (with_reducible refine Below.drew ?_) | (with_reducible refine Below.setCell ?_ ?_ _) | go_size)))

set_option maxRecDepth 100000 in
set_option maxHeartbeats 2000000 in
theorem rstroke_one_a (hM : IsM w0 LA ln CA cn L C) (hB : Below w0.heap.size w0 w) (p : Int) (h0 : -1 ≤ p) (h1 : p ≤ 1000) (O : isOp ln L cn C p = true) (g1 : ((insAt cn C (p + 1)).op == 10) = false) (T : letterV (selV ln L cn C (p + 1) 0) = false) (O1 : isOp ln L cn C (p + 1) = false) :
    Calls Try.prog 12 #[.agg #[.string s, .int .i64 x0, .int .i64 x1, .int .i64 x2, .slice LA ln lc, .slice CA cn cc], .int .i64 p] w fun e w' => e = .returned (.tuple #[.int .i64 (strokeV ln L cn C p).1, .int .i64 (strokeV ln L cn C p).2.2]) ∧ Below w.heap.size w w' := by
  have F : Hid (strokeV ln L cn C p = (0, 0, 0)) := by show strokeV ln L cn C p = _; simp [strokeV, strokeS, O, g1, T, O1]
  have hI : Inv w0 w (w.alloc (.cells #[.string s, .int .i64 x0, .int .i64 x1, .int .i64 x2, .slice LA ln lc, .slice CA cn cc] 25)) (w.alloc (.cells #[.string s, .int .i64 x0, .int .i64 x1, .int .i64 x2, .slice LA ln lc, .slice CA cn cc] 25)) := Inv.start hB (by (repeat' (first | (with_reducible exact Below.refl _ _) | (with_reducible assumption) | (with_reducible refine below_drewN ?_ _) | (with_reducible refine Below.alloc ?_ ?_ _) | (with_reducible refine Below.drew ?_) | (with_reducible refine Below.setCell ?_ ?_ _) | go_size)))
  have HO := Lib.hid O
  clear O
  have HT := Lib.hid T
  clear T
  have HO1 := Lib.hid O1
  clear O1
  clear hB
  go_enter Try.func12, Try.ntmps12
  go_upto_region 7 with (first | (go_at_call 20; (with_reducible refine (ropnd_any hM (Words.none_ w0) (Words.none_ w0) (hI.at0 (by (repeat' (first | (with_reducible exact Below.refl _ _) | (with_reducible assumption) | (with_reducible refine below_drewN ?_ _) | (with_reducible refine Below.alloc ?_ ?_ _) | (with_reducible refine Below.drew ?_) | (with_reducible refine Below.setCell ?_ ?_ _) | go_size)))) _).mono ?_); rw [opndV_2]; (first | rw [HO1.out] | rw [HO.out]); rintro e w1 ⟨rfl, hb⟩; (try clear hc hf hl0); replace hI := hI.step (by (repeat' (first | (with_reducible exact Below.refl _ _) | (with_reducible assumption) | (with_reducible refine below_drewN ?_ _) | (with_reducible refine Below.alloc ?_ ?_ _) | (with_reducible refine Below.drew ?_) | (with_reducible refine Below.setCell ?_ ?_ _) | go_size))) hb; clear hb; have hc := hI.cell; have hf := hI.frozen; have hl0 := hI.lt_ (b := w.heap.size) (by simp only [World.size_alloc, World.size_setCell, World.size_drew, size_drewN]; omega); (try simp only [World.size_alloc, World.size_setCell, World.size_drew, size_drewN] at hc hf)) | (go_at_call 21; (with_reducible refine (is_any hM (hI.at0 (by (repeat' (first | (with_reducible exact Below.refl _ _) | (with_reducible assumption) | (with_reducible refine below_drewN ?_ _) | (with_reducible refine Below.alloc ?_ ?_ _) | (with_reducible refine Below.drew ?_) | (with_reducible refine Below.setCell ?_ ?_ _) | go_size)))) _ _ rfl).mono ?_); rintro e w1 ⟨rfl, hb⟩; (try clear hc hf hl0); replace hI := hI.step (by (repeat' (first | (with_reducible exact Below.refl _ _) | (with_reducible assumption) | (with_reducible refine below_drewN ?_ _) | (with_reducible refine Below.alloc ?_ ?_ _) | (with_reducible refine Below.drew ?_) | (with_reducible refine Below.setCell ?_ ?_ _) | go_size))) hb; clear hb; have hc := hI.cell; have hf := hI.frozen; have hl0 := hI.lt_ (b := w.heap.size) (by simp only [World.size_alloc, World.size_setCell, World.size_drew, size_drewN]; omega); (try simp only [World.size_alloc, World.size_setCell, World.size_drew, size_drewN] at hc hf)) | (go_at_call 22; (with_reducible refine (send_any hM (hI.at0 (by (repeat' (first | (with_reducible exact Below.refl _ _) | (with_reducible assumption) | (with_reducible refine below_drewN ?_ _) | (with_reducible refine Below.alloc ?_ ?_ _) | (with_reducible refine Below.drew ?_) | (with_reducible refine Below.setCell ?_ ?_ _) | go_size)))) _ _).mono ?_); rintro e w1 ⟨rfl, hb⟩; (try clear hc hf hl0); replace hI := hI.step (by (repeat' (first | (with_reducible exact Below.refl _ _) | (with_reducible assumption) | (with_reducible refine below_drewN ?_ _) | (with_reducible refine Below.alloc ?_ ?_ _) | (with_reducible refine Below.drew ?_) | (with_reducible refine Below.setCell ?_ ?_ _) | go_size))) hb; clear hb; have hc := hI.cell; have hf := hI.frozen; have hl0 := hI.lt_ (b := w.heap.size) (by simp only [World.size_alloc, World.size_setCell, World.size_drew, size_drewN]; omega); (try simp only [World.size_alloc, World.size_setCell, World.size_drew, size_drewN] at hc hf)))
  obtain ⟨t, ht⟩ : ∃ t, selV ln L cn C (p + 1) 0 = t := ⟨_, rfl⟩
  rw [ht]
  go_cut [55] (fun c wx => c = .bool (letterV t) ∧ wx = w1)
  case first =>
    rcases letter_facts t with ⟨f1, f2⟩ | ⟨n, f1, f2, f3⟩
    · have q : decide (0 < t.size) = false := decide_eq_false (by omega)
      have q' : ¬ 0 < t.size := by omega
      have F1 := Lib.hid f1
      clear f1 f2
      go_wp2_with fail
      go_meet
      exact ⟨by rw [F1.out], rfl⟩
    · have q : decide (0 < t.size) = true := decide_eq_true (by omega)
      have F3 := Lib.hid f3
      have f4 := f1 f2
      clear f1 f3
      by_cases k1 : 97 ≤ (n : Int)
      · by_cases k2 : (n : Int) ≤ 122
        · go_wp2_with fail
          go_meet
          exact ⟨by rw [F3.out, show decide (97 ≤ (n : Int)) = true from decide_eq_true (by omega), show decide ((n : Int) ≤ 122) = true from decide_eq_true (by omega), show decide (65 ≤ (n : Int)) = true from decide_eq_true (by omega)]; (try rw [Bool.true_and, Bool.true_or]); (try rfl), rfl⟩
        · go_wp2_with fail
          go_meet
          exact ⟨by rw [F3.out, show decide (97 ≤ (n : Int)) = true from decide_eq_true (by omega), show decide ((n : Int) ≤ 122) = false from decide_eq_false (by omega), show decide (65 ≤ (n : Int)) = true from decide_eq_true (by omega), show decide ((n : Int) ≤ 90) = false from decide_eq_false (by omega)]; (try rw [Bool.true_and, Bool.true_or]); (try rfl), rfl⟩
      · by_cases k3 : 65 ≤ (n : Int)
        · by_cases k4 : (n : Int) ≤ 90
          · go_wp2_with fail
            go_meet
            exact ⟨by rw [F3.out, show decide (97 ≤ (n : Int)) = false from decide_eq_false (by omega), show decide ((n : Int) ≤ 122) = true from decide_eq_true (by omega), show decide (65 ≤ (n : Int)) = true from decide_eq_true (by omega), show decide ((n : Int) ≤ 90) = true from decide_eq_true (by omega)]; (try rw [Bool.true_and, Bool.true_or]); (try rfl), rfl⟩
          · go_wp2_with fail
            go_meet
            exact ⟨by rw [F3.out, show decide (97 ≤ (n : Int)) = false from decide_eq_false (by omega), show decide ((n : Int) ≤ 122) = true from decide_eq_true (by omega), show decide (65 ≤ (n : Int)) = true from decide_eq_true (by omega), show decide ((n : Int) ≤ 90) = false from decide_eq_false (by omega)]; (try rw [Bool.true_and, Bool.true_or]); (try rfl), rfl⟩
        · go_wp2_with fail
          go_meet
          exact ⟨by rw [F3.out, show decide (97 ≤ (n : Int)) = false from decide_eq_false (by omega), show decide ((n : Int) ≤ 122) = true from decide_eq_true (by omega), show decide (65 ≤ (n : Int)) = false from decide_eq_false (by omega), show decide ((n : Int) ≤ 90) = true from decide_eq_true (by omega)]; (try rw [Bool.true_and, Bool.true_or]); (try rfl), rfl⟩
  case rest =>
    obtain ⟨rfl, rfl⟩ := hcut
    rw [← ht, HT.out]
    clear ht
    go_wp2_with (first | (go_at_call 20; (with_reducible refine (ropnd_any hM (Words.none_ w0) (Words.none_ w0) (hI.at0 (by (repeat' (first | (with_reducible exact Below.refl _ _) | (with_reducible assumption) | (with_reducible refine below_drewN ?_ _) | (with_reducible refine Below.alloc ?_ ?_ _) | (with_reducible refine Below.drew ?_) | (with_reducible refine Below.setCell ?_ ?_ _) | go_size)))) _).mono ?_); rw [opndV_2]; (first | rw [HO1.out] | rw [HO.out]); rintro e w1 ⟨rfl, hb⟩; (try clear hc hf hl0); replace hI := hI.step (by (repeat' (first | (with_reducible exact Below.refl _ _) | (with_reducible assumption) | (with_reducible refine below_drewN ?_ _) | (with_reducible refine Below.alloc ?_ ?_ _) | (with_reducible refine Below.drew ?_) | (with_reducible refine Below.setCell ?_ ?_ _) | go_size))) hb; clear hb; have hc := hI.cell; have hf := hI.frozen; have hl0 := hI.lt_ (b := w.heap.size) (by simp only [World.size_alloc, World.size_setCell, World.size_drew, size_drewN]; omega); (try simp only [World.size_alloc, World.size_setCell, World.size_drew, size_drewN] at hc hf)) | (go_at_call 21; (with_reducible refine (is_any hM (hI.at0 (by (repeat' (first | (with_reducible exact Below.refl _ _) | (with_reducible assumption) | (with_reducible refine below_drewN ?_ _) | (with_reducible refine Below.alloc ?_ ?_ _) | (with_reducible refine Below.drew ?_) | (with_reducible refine Below.setCell ?_ ?_ _) | go_size)))) _ _ rfl).mono ?_); rintro e w1 ⟨rfl, hb⟩; (try clear hc hf hl0); replace hI := hI.step (by (repeat' (first | (with_reducible exact Below.refl _ _) | (with_reducible assumption) | (with_reducible refine below_drewN ?_ _) | (with_reducible refine Below.alloc ?_ ?_ _) | (with_reducible refine Below.drew ?_) | (with_reducible refine Below.setCell ?_ ?_ _) | go_size))) hb; clear hb; have hc := hI.cell; have hf := hI.frozen; have hl0 := hI.lt_ (b := w.heap.size) (by simp only [World.size_alloc, World.size_setCell, World.size_drew, size_drewN]; omega); (try simp only [World.size_alloc, World.size_setCell, World.size_drew, size_drewN] at hc hf)) | (go_at_call 22; (with_reducible refine (send_any hM (hI.at0 (by (repeat' (first | (with_reducible exact Below.refl _ _) | (with_reducible assumption) | (with_reducible refine below_drewN ?_ _) | (with_reducible refine Below.alloc ?_ ?_ _) | (with_reducible refine Below.drew ?_) | (with_reducible refine Below.setCell ?_ ?_ _) | go_size)))) _ _).mono ?_); rintro e w1 ⟨rfl, hb⟩; (try clear hc hf hl0); replace hI := hI.step (by (repeat' (first | (with_reducible exact Below.refl _ _) | (with_reducible assumption) | (with_reducible refine below_drewN ?_ _) | (with_reducible refine Below.alloc ?_ ?_ _) | (with_reducible refine Below.drew ?_) | (with_reducible refine Below.setCell ?_ ?_ _) | go_size))) hb; clear hb; have hc := hI.cell; have hf := hI.frozen; have hl0 := hI.lt_ (b := w.heap.size) (by simp only [World.size_alloc, World.size_setCell, World.size_drew, size_drewN]; omega); (try simp only [World.size_alloc, World.size_setCell, World.size_drew, size_drewN] at hc hf)))
    go_ret2
    refine ⟨by rw [F.out]; rfl, ?_⟩
    (have hS := hI.bw; (repeat' (first | (with_reducible exact Below.refl _ _) | (with_reducible assumption) | (with_reducible refine below_drewN ?_ _) | (with_reducible refine Below.alloc ?_ ?_ _) | (with_reducible refine Below.drew ?_) | (with_reducible refine Below.setCell ?_ ?_ _) | go_size)))

set_option maxRecDepth 100000 in
set_option maxHeartbeats 2000000 in
theorem rstroke_plus_a (hM : IsM w0 LA ln CA cn L C) (hB : Below w0.heap.size w0 w) (p : Int) (h0 : -1 ≤ p) (h1 : p ≤ 1000) (O : isOp ln L cn C p = true) (g1 : ((insAt cn C (p + 1)).op == 10) = false) (T : letterV (selV ln L cn C (p + 1) 0) = false) (O1 : isOp ln L cn C (p + 1) = true) (g3 : ((selV ln L cn C (p + 2) 1).toList == [43]) = true) :
    Calls Try.prog 12 #[.agg #[.string s, .int .i64 x0, .int .i64 x1, .int .i64 x2, .slice LA ln lc, .slice CA cn cc], .int .i64 p] w fun e w' => e = .returned (.tuple #[.int .i64 (strokeV ln L cn C p).1, .int .i64 (strokeV ln L cn C p).2.2]) ∧ Below w.heap.size w w' := by
  have F : Hid (strokeV ln L cn C p = (1, p, 3)) := by show strokeV ln L cn C p = _; simp [strokeV, strokeS, O, g1, T, O1, g3]
  have hI : Inv w0 w (w.alloc (.cells #[.string s, .int .i64 x0, .int .i64 x1, .int .i64 x2, .slice LA ln lc, .slice CA cn cc] 25)) (w.alloc (.cells #[.string s, .int .i64 x0, .int .i64 x1, .int .i64 x2, .slice LA ln lc, .slice CA cn cc] 25)) := Inv.start hB (by (repeat' (first | (with_reducible exact Below.refl _ _) | (with_reducible assumption) | (with_reducible refine below_drewN ?_ _) | (with_reducible refine Below.alloc ?_ ?_ _) | (with_reducible refine Below.drew ?_) | (with_reducible refine Below.setCell ?_ ?_ _) | go_size)))
  have HO := Lib.hid O
  clear O
  have HT := Lib.hid T
  clear T
  have HO1 := Lib.hid O1
  clear O1
  clear hB
  go_enter Try.func12, Try.ntmps12
  go_upto_region 7 with (first | (go_at_call 20; (with_reducible refine (ropnd_any hM (Words.none_ w0) (Words.none_ w0) (hI.at0 (by (repeat' (first | (with_reducible exact Below.refl _ _) | (with_reducible assumption) | (with_reducible refine below_drewN ?_ _) | (with_reducible refine Below.alloc ?_ ?_ _) | (with_reducible refine Below.drew ?_) | (with_reducible refine Below.setCell ?_ ?_ _) | go_size)))) _).mono ?_); rw [opndV_2]; (first | rw [HO1.out] | rw [HO.out]); rintro e w1 ⟨rfl, hb⟩; (try clear hc hf hl0); replace hI := hI.step (by (repeat' (first | (with_reducible exact Below.refl _ _) | (with_reducible assumption) | (with_reducible refine below_drewN ?_ _) | (with_reducible refine Below.alloc ?_ ?_ _) | (with_reducible refine Below.drew ?_) | (with_reducible refine Below.setCell ?_ ?_ _) | go_size))) hb; clear hb; have hc := hI.cell; have hf := hI.frozen; have hl0 := hI.lt_ (b := w.heap.size) (by simp only [World.size_alloc, World.size_setCell, World.size_drew, size_drewN]; omega); (try simp only [World.size_alloc, World.size_setCell, World.size_drew, size_drewN] at hc hf)) | (go_at_call 21; (with_reducible refine (is_any hM (hI.at0 (by (repeat' (first | (with_reducible exact Below.refl _ _) | (with_reducible assumption) | (with_reducible refine below_drewN ?_ _) | (with_reducible refine Below.alloc ?_ ?_ _) | (with_reducible refine Below.drew ?_) | (with_reducible refine Below.setCell ?_ ?_ _) | go_size)))) _ _ rfl).mono ?_); rintro e w1 ⟨rfl, hb⟩; (try clear hc hf hl0); replace hI := hI.step (by (repeat' (first | (with_reducible exact Below.refl _ _) | (with_reducible assumption) | (with_reducible refine below_drewN ?_ _) | (with_reducible refine Below.alloc ?_ ?_ _) | (with_reducible refine Below.drew ?_) | (with_reducible refine Below.setCell ?_ ?_ _) | go_size))) hb; clear hb; have hc := hI.cell; have hf := hI.frozen; have hl0 := hI.lt_ (b := w.heap.size) (by simp only [World.size_alloc, World.size_setCell, World.size_drew, size_drewN]; omega); (try simp only [World.size_alloc, World.size_setCell, World.size_drew, size_drewN] at hc hf)) | (go_at_call 22; (with_reducible refine (send_any hM (hI.at0 (by (repeat' (first | (with_reducible exact Below.refl _ _) | (with_reducible assumption) | (with_reducible refine below_drewN ?_ _) | (with_reducible refine Below.alloc ?_ ?_ _) | (with_reducible refine Below.drew ?_) | (with_reducible refine Below.setCell ?_ ?_ _) | go_size)))) _ _).mono ?_); rintro e w1 ⟨rfl, hb⟩; (try clear hc hf hl0); replace hI := hI.step (by (repeat' (first | (with_reducible exact Below.refl _ _) | (with_reducible assumption) | (with_reducible refine below_drewN ?_ _) | (with_reducible refine Below.alloc ?_ ?_ _) | (with_reducible refine Below.drew ?_) | (with_reducible refine Below.setCell ?_ ?_ _) | go_size))) hb; clear hb; have hc := hI.cell; have hf := hI.frozen; have hl0 := hI.lt_ (b := w.heap.size) (by simp only [World.size_alloc, World.size_setCell, World.size_drew, size_drewN]; omega); (try simp only [World.size_alloc, World.size_setCell, World.size_drew, size_drewN] at hc hf)))
  obtain ⟨t, ht⟩ : ∃ t, selV ln L cn C (p + 1) 0 = t := ⟨_, rfl⟩
  rw [ht]
  go_cut [55] (fun c wx => c = .bool (letterV t) ∧ wx = w1)
  case first =>
    rcases letter_facts t with ⟨f1, f2⟩ | ⟨n, f1, f2, f3⟩
    · have q : decide (0 < t.size) = false := decide_eq_false (by omega)
      have q' : ¬ 0 < t.size := by omega
      have F1 := Lib.hid f1
      clear f1 f2
      go_wp2_with fail
      go_meet
      exact ⟨by rw [F1.out], rfl⟩
    · have q : decide (0 < t.size) = true := decide_eq_true (by omega)
      have F3 := Lib.hid f3
      have f4 := f1 f2
      clear f1 f3
      by_cases k1 : 97 ≤ (n : Int)
      · by_cases k2 : (n : Int) ≤ 122
        · go_wp2_with fail
          go_meet
          exact ⟨by rw [F3.out, show decide (97 ≤ (n : Int)) = true from decide_eq_true (by omega), show decide ((n : Int) ≤ 122) = true from decide_eq_true (by omega), show decide (65 ≤ (n : Int)) = true from decide_eq_true (by omega)]; (try rw [Bool.true_and, Bool.true_or]); (try rfl), rfl⟩
        · go_wp2_with fail
          go_meet
          exact ⟨by rw [F3.out, show decide (97 ≤ (n : Int)) = true from decide_eq_true (by omega), show decide ((n : Int) ≤ 122) = false from decide_eq_false (by omega), show decide (65 ≤ (n : Int)) = true from decide_eq_true (by omega), show decide ((n : Int) ≤ 90) = false from decide_eq_false (by omega)]; (try rw [Bool.true_and, Bool.true_or]); (try rfl), rfl⟩
      · by_cases k3 : 65 ≤ (n : Int)
        · by_cases k4 : (n : Int) ≤ 90
          · go_wp2_with fail
            go_meet
            exact ⟨by rw [F3.out, show decide (97 ≤ (n : Int)) = false from decide_eq_false (by omega), show decide ((n : Int) ≤ 122) = true from decide_eq_true (by omega), show decide (65 ≤ (n : Int)) = true from decide_eq_true (by omega), show decide ((n : Int) ≤ 90) = true from decide_eq_true (by omega)]; (try rw [Bool.true_and, Bool.true_or]); (try rfl), rfl⟩
          · go_wp2_with fail
            go_meet
            exact ⟨by rw [F3.out, show decide (97 ≤ (n : Int)) = false from decide_eq_false (by omega), show decide ((n : Int) ≤ 122) = true from decide_eq_true (by omega), show decide (65 ≤ (n : Int)) = true from decide_eq_true (by omega), show decide ((n : Int) ≤ 90) = false from decide_eq_false (by omega)]; (try rw [Bool.true_and, Bool.true_or]); (try rfl), rfl⟩
        · go_wp2_with fail
          go_meet
          exact ⟨by rw [F3.out, show decide (97 ≤ (n : Int)) = false from decide_eq_false (by omega), show decide ((n : Int) ≤ 122) = true from decide_eq_true (by omega), show decide (65 ≤ (n : Int)) = false from decide_eq_false (by omega), show decide ((n : Int) ≤ 90) = true from decide_eq_true (by omega)]; (try rw [Bool.true_and, Bool.true_or]); (try rfl), rfl⟩
  case rest =>
    obtain ⟨rfl, rfl⟩ := hcut
    rw [← ht, HT.out]
    clear ht
    go_wp2_with (first | (go_at_call 20; (with_reducible refine (ropnd_any hM (Words.none_ w0) (Words.none_ w0) (hI.at0 (by (repeat' (first | (with_reducible exact Below.refl _ _) | (with_reducible assumption) | (with_reducible refine below_drewN ?_ _) | (with_reducible refine Below.alloc ?_ ?_ _) | (with_reducible refine Below.drew ?_) | (with_reducible refine Below.setCell ?_ ?_ _) | go_size)))) _).mono ?_); rw [opndV_2]; (first | rw [HO1.out] | rw [HO.out]); rintro e w1 ⟨rfl, hb⟩; (try clear hc hf hl0); replace hI := hI.step (by (repeat' (first | (with_reducible exact Below.refl _ _) | (with_reducible assumption) | (with_reducible refine below_drewN ?_ _) | (with_reducible refine Below.alloc ?_ ?_ _) | (with_reducible refine Below.drew ?_) | (with_reducible refine Below.setCell ?_ ?_ _) | go_size))) hb; clear hb; have hc := hI.cell; have hf := hI.frozen; have hl0 := hI.lt_ (b := w.heap.size) (by simp only [World.size_alloc, World.size_setCell, World.size_drew, size_drewN]; omega); (try simp only [World.size_alloc, World.size_setCell, World.size_drew, size_drewN] at hc hf)) | (go_at_call 21; (with_reducible refine (is_any hM (hI.at0 (by (repeat' (first | (with_reducible exact Below.refl _ _) | (with_reducible assumption) | (with_reducible refine below_drewN ?_ _) | (with_reducible refine Below.alloc ?_ ?_ _) | (with_reducible refine Below.drew ?_) | (with_reducible refine Below.setCell ?_ ?_ _) | go_size)))) _ _ rfl).mono ?_); rintro e w1 ⟨rfl, hb⟩; (try clear hc hf hl0); replace hI := hI.step (by (repeat' (first | (with_reducible exact Below.refl _ _) | (with_reducible assumption) | (with_reducible refine below_drewN ?_ _) | (with_reducible refine Below.alloc ?_ ?_ _) | (with_reducible refine Below.drew ?_) | (with_reducible refine Below.setCell ?_ ?_ _) | go_size))) hb; clear hb; have hc := hI.cell; have hf := hI.frozen; have hl0 := hI.lt_ (b := w.heap.size) (by simp only [World.size_alloc, World.size_setCell, World.size_drew, size_drewN]; omega); (try simp only [World.size_alloc, World.size_setCell, World.size_drew, size_drewN] at hc hf)) | (go_at_call 22; (with_reducible refine (send_any hM (hI.at0 (by (repeat' (first | (with_reducible exact Below.refl _ _) | (with_reducible assumption) | (with_reducible refine below_drewN ?_ _) | (with_reducible refine Below.alloc ?_ ?_ _) | (with_reducible refine Below.drew ?_) | (with_reducible refine Below.setCell ?_ ?_ _) | go_size)))) _ _).mono ?_); rintro e w1 ⟨rfl, hb⟩; (try clear hc hf hl0); replace hI := hI.step (by (repeat' (first | (with_reducible exact Below.refl _ _) | (with_reducible assumption) | (with_reducible refine below_drewN ?_ _) | (with_reducible refine Below.alloc ?_ ?_ _) | (with_reducible refine Below.drew ?_) | (with_reducible refine Below.setCell ?_ ?_ _) | go_size))) hb; clear hb; have hc := hI.cell; have hf := hI.frozen; have hl0 := hI.lt_ (b := w.heap.size) (by simp only [World.size_alloc, World.size_setCell, World.size_drew, size_drewN]; omega); (try simp only [World.size_alloc, World.size_setCell, World.size_drew, size_drewN] at hc hf)))
    go_ret2
    refine ⟨by rw [F.out]; rfl, ?_⟩
    (have hS := hI.bw; (repeat' (first | (with_reducible exact Below.refl _ _) | (with_reducible assumption) | (with_reducible refine below_drewN ?_ _) | (with_reducible refine Below.alloc ?_ ?_ _) | (with_reducible refine Below.drew ?_) | (with_reducible refine Below.setCell ?_ ?_ _) | go_size)))

set_option maxRecDepth 100000 in
set_option maxHeartbeats 2000000 in
theorem rstroke_minus_a (hM : IsM w0 LA ln CA cn L C) (hB : Below w0.heap.size w0 w) (p : Int) (h0 : -1 ≤ p) (h1 : p ≤ 1000) (O : isOp ln L cn C p = true) (g1 : ((insAt cn C (p + 1)).op == 10) = false) (T : letterV (selV ln L cn C (p + 1) 0) = false) (O1 : isOp ln L cn C (p + 1) = true) (g3 : ((selV ln L cn C (p + 2) 1).toList == [43]) = false) (g4 : ((selV ln L cn C (p + 2) 1).toList == [45]) = true) :
    Calls Try.prog 12 #[.agg #[.string s, .int .i64 x0, .int .i64 x1, .int .i64 x2, .slice LA ln lc, .slice CA cn cc], .int .i64 p] w fun e w' => e = .returned (.tuple #[.int .i64 (strokeV ln L cn C p).1, .int .i64 (strokeV ln L cn C p).2.2]) ∧ Below w.heap.size w w' := by
  have F : Hid (strokeV ln L cn C p = (1, p, 3)) := by show strokeV ln L cn C p = _; simp [strokeV, strokeS, O, g1, T, O1, g3, g4]
  have hI : Inv w0 w (w.alloc (.cells #[.string s, .int .i64 x0, .int .i64 x1, .int .i64 x2, .slice LA ln lc, .slice CA cn cc] 25)) (w.alloc (.cells #[.string s, .int .i64 x0, .int .i64 x1, .int .i64 x2, .slice LA ln lc, .slice CA cn cc] 25)) := Inv.start hB (by (repeat' (first | (with_reducible exact Below.refl _ _) | (with_reducible assumption) | (with_reducible refine below_drewN ?_ _) | (with_reducible refine Below.alloc ?_ ?_ _) | (with_reducible refine Below.drew ?_) | (with_reducible refine Below.setCell ?_ ?_ _) | go_size)))
  have HO := Lib.hid O
  clear O
  have HT := Lib.hid T
  clear T
  have HO1 := Lib.hid O1
  clear O1
  clear hB
  go_enter Try.func12, Try.ntmps12
  go_upto_region 7 with (first | (go_at_call 20; (with_reducible refine (ropnd_any hM (Words.none_ w0) (Words.none_ w0) (hI.at0 (by (repeat' (first | (with_reducible exact Below.refl _ _) | (with_reducible assumption) | (with_reducible refine below_drewN ?_ _) | (with_reducible refine Below.alloc ?_ ?_ _) | (with_reducible refine Below.drew ?_) | (with_reducible refine Below.setCell ?_ ?_ _) | go_size)))) _).mono ?_); rw [opndV_2]; (first | rw [HO1.out] | rw [HO.out]); rintro e w1 ⟨rfl, hb⟩; (try clear hc hf hl0); replace hI := hI.step (by (repeat' (first | (with_reducible exact Below.refl _ _) | (with_reducible assumption) | (with_reducible refine below_drewN ?_ _) | (with_reducible refine Below.alloc ?_ ?_ _) | (with_reducible refine Below.drew ?_) | (with_reducible refine Below.setCell ?_ ?_ _) | go_size))) hb; clear hb; have hc := hI.cell; have hf := hI.frozen; have hl0 := hI.lt_ (b := w.heap.size) (by simp only [World.size_alloc, World.size_setCell, World.size_drew, size_drewN]; omega); (try simp only [World.size_alloc, World.size_setCell, World.size_drew, size_drewN] at hc hf)) | (go_at_call 21; (with_reducible refine (is_any hM (hI.at0 (by (repeat' (first | (with_reducible exact Below.refl _ _) | (with_reducible assumption) | (with_reducible refine below_drewN ?_ _) | (with_reducible refine Below.alloc ?_ ?_ _) | (with_reducible refine Below.drew ?_) | (with_reducible refine Below.setCell ?_ ?_ _) | go_size)))) _ _ rfl).mono ?_); rintro e w1 ⟨rfl, hb⟩; (try clear hc hf hl0); replace hI := hI.step (by (repeat' (first | (with_reducible exact Below.refl _ _) | (with_reducible assumption) | (with_reducible refine below_drewN ?_ _) | (with_reducible refine Below.alloc ?_ ?_ _) | (with_reducible refine Below.drew ?_) | (with_reducible refine Below.setCell ?_ ?_ _) | go_size))) hb; clear hb; have hc := hI.cell; have hf := hI.frozen; have hl0 := hI.lt_ (b := w.heap.size) (by simp only [World.size_alloc, World.size_setCell, World.size_drew, size_drewN]; omega); (try simp only [World.size_alloc, World.size_setCell, World.size_drew, size_drewN] at hc hf)) | (go_at_call 22; (with_reducible refine (send_any hM (hI.at0 (by (repeat' (first | (with_reducible exact Below.refl _ _) | (with_reducible assumption) | (with_reducible refine below_drewN ?_ _) | (with_reducible refine Below.alloc ?_ ?_ _) | (with_reducible refine Below.drew ?_) | (with_reducible refine Below.setCell ?_ ?_ _) | go_size)))) _ _).mono ?_); rintro e w1 ⟨rfl, hb⟩; (try clear hc hf hl0); replace hI := hI.step (by (repeat' (first | (with_reducible exact Below.refl _ _) | (with_reducible assumption) | (with_reducible refine below_drewN ?_ _) | (with_reducible refine Below.alloc ?_ ?_ _) | (with_reducible refine Below.drew ?_) | (with_reducible refine Below.setCell ?_ ?_ _) | go_size))) hb; clear hb; have hc := hI.cell; have hf := hI.frozen; have hl0 := hI.lt_ (b := w.heap.size) (by simp only [World.size_alloc, World.size_setCell, World.size_drew, size_drewN]; omega); (try simp only [World.size_alloc, World.size_setCell, World.size_drew, size_drewN] at hc hf)))
  obtain ⟨t, ht⟩ : ∃ t, selV ln L cn C (p + 1) 0 = t := ⟨_, rfl⟩
  rw [ht]
  go_cut [55] (fun c wx => c = .bool (letterV t) ∧ wx = w1)
  case first =>
    rcases letter_facts t with ⟨f1, f2⟩ | ⟨n, f1, f2, f3⟩
    · have q : decide (0 < t.size) = false := decide_eq_false (by omega)
      have q' : ¬ 0 < t.size := by omega
      have F1 := Lib.hid f1
      clear f1 f2
      go_wp2_with fail
      go_meet
      exact ⟨by rw [F1.out], rfl⟩
    · have q : decide (0 < t.size) = true := decide_eq_true (by omega)
      have F3 := Lib.hid f3
      have f4 := f1 f2
      clear f1 f3
      by_cases k1 : 97 ≤ (n : Int)
      · by_cases k2 : (n : Int) ≤ 122
        · go_wp2_with fail
          go_meet
          exact ⟨by rw [F3.out, show decide (97 ≤ (n : Int)) = true from decide_eq_true (by omega), show decide ((n : Int) ≤ 122) = true from decide_eq_true (by omega), show decide (65 ≤ (n : Int)) = true from decide_eq_true (by omega)]; (try rw [Bool.true_and, Bool.true_or]); (try rfl), rfl⟩
        · go_wp2_with fail
          go_meet
          exact ⟨by rw [F3.out, show decide (97 ≤ (n : Int)) = true from decide_eq_true (by omega), show decide ((n : Int) ≤ 122) = false from decide_eq_false (by omega), show decide (65 ≤ (n : Int)) = true from decide_eq_true (by omega), show decide ((n : Int) ≤ 90) = false from decide_eq_false (by omega)]; (try rw [Bool.true_and, Bool.true_or]); (try rfl), rfl⟩
      · by_cases k3 : 65 ≤ (n : Int)
        · by_cases k4 : (n : Int) ≤ 90
          · go_wp2_with fail
            go_meet
            exact ⟨by rw [F3.out, show decide (97 ≤ (n : Int)) = false from decide_eq_false (by omega), show decide ((n : Int) ≤ 122) = true from decide_eq_true (by omega), show decide (65 ≤ (n : Int)) = true from decide_eq_true (by omega), show decide ((n : Int) ≤ 90) = true from decide_eq_true (by omega)]; (try rw [Bool.true_and, Bool.true_or]); (try rfl), rfl⟩
          · go_wp2_with fail
            go_meet
            exact ⟨by rw [F3.out, show decide (97 ≤ (n : Int)) = false from decide_eq_false (by omega), show decide ((n : Int) ≤ 122) = true from decide_eq_true (by omega), show decide (65 ≤ (n : Int)) = true from decide_eq_true (by omega), show decide ((n : Int) ≤ 90) = false from decide_eq_false (by omega)]; (try rw [Bool.true_and, Bool.true_or]); (try rfl), rfl⟩
        · go_wp2_with fail
          go_meet
          exact ⟨by rw [F3.out, show decide (97 ≤ (n : Int)) = false from decide_eq_false (by omega), show decide ((n : Int) ≤ 122) = true from decide_eq_true (by omega), show decide (65 ≤ (n : Int)) = false from decide_eq_false (by omega), show decide ((n : Int) ≤ 90) = true from decide_eq_true (by omega)]; (try rw [Bool.true_and, Bool.true_or]); (try rfl), rfl⟩
  case rest =>
    obtain ⟨rfl, rfl⟩ := hcut
    rw [← ht, HT.out]
    clear ht
    go_wp2_with (first | (go_at_call 20; (with_reducible refine (ropnd_any hM (Words.none_ w0) (Words.none_ w0) (hI.at0 (by (repeat' (first | (with_reducible exact Below.refl _ _) | (with_reducible assumption) | (with_reducible refine below_drewN ?_ _) | (with_reducible refine Below.alloc ?_ ?_ _) | (with_reducible refine Below.drew ?_) | (with_reducible refine Below.setCell ?_ ?_ _) | go_size)))) _).mono ?_); rw [opndV_2]; (first | rw [HO1.out] | rw [HO.out]); rintro e w1 ⟨rfl, hb⟩; (try clear hc hf hl0); replace hI := hI.step (by (repeat' (first | (with_reducible exact Below.refl _ _) | (with_reducible assumption) | (with_reducible refine below_drewN ?_ _) | (with_reducible refine Below.alloc ?_ ?_ _) | (with_reducible refine Below.drew ?_) | (with_reducible refine Below.setCell ?_ ?_ _) | go_size))) hb; clear hb; have hc := hI.cell; have hf := hI.frozen; have hl0 := hI.lt_ (b := w.heap.size) (by simp only [World.size_alloc, World.size_setCell, World.size_drew, size_drewN]; omega); (try simp only [World.size_alloc, World.size_setCell, World.size_drew, size_drewN] at hc hf)) | (go_at_call 21; (with_reducible refine (is_any hM (hI.at0 (by (repeat' (first | (with_reducible exact Below.refl _ _) | (with_reducible assumption) | (with_reducible refine below_drewN ?_ _) | (with_reducible refine Below.alloc ?_ ?_ _) | (with_reducible refine Below.drew ?_) | (with_reducible refine Below.setCell ?_ ?_ _) | go_size)))) _ _ rfl).mono ?_); rintro e w1 ⟨rfl, hb⟩; (try clear hc hf hl0); replace hI := hI.step (by (repeat' (first | (with_reducible exact Below.refl _ _) | (with_reducible assumption) | (with_reducible refine below_drewN ?_ _) | (with_reducible refine Below.alloc ?_ ?_ _) | (with_reducible refine Below.drew ?_) | (with_reducible refine Below.setCell ?_ ?_ _) | go_size))) hb; clear hb; have hc := hI.cell; have hf := hI.frozen; have hl0 := hI.lt_ (b := w.heap.size) (by simp only [World.size_alloc, World.size_setCell, World.size_drew, size_drewN]; omega); (try simp only [World.size_alloc, World.size_setCell, World.size_drew, size_drewN] at hc hf)) | (go_at_call 22; (with_reducible refine (send_any hM (hI.at0 (by (repeat' (first | (with_reducible exact Below.refl _ _) | (with_reducible assumption) | (with_reducible refine below_drewN ?_ _) | (with_reducible refine Below.alloc ?_ ?_ _) | (with_reducible refine Below.drew ?_) | (with_reducible refine Below.setCell ?_ ?_ _) | go_size)))) _ _).mono ?_); rintro e w1 ⟨rfl, hb⟩; (try clear hc hf hl0); replace hI := hI.step (by (repeat' (first | (with_reducible exact Below.refl _ _) | (with_reducible assumption) | (with_reducible refine below_drewN ?_ _) | (with_reducible refine Below.alloc ?_ ?_ _) | (with_reducible refine Below.drew ?_) | (with_reducible refine Below.setCell ?_ ?_ _) | go_size))) hb; clear hb; have hc := hI.cell; have hf := hI.frozen; have hl0 := hI.lt_ (b := w.heap.size) (by simp only [World.size_alloc, World.size_setCell, World.size_drew, size_drewN]; omega); (try simp only [World.size_alloc, World.size_setCell, World.size_drew, size_drewN] at hc hf)))
    go_ret2
    refine ⟨by rw [F.out]; rfl, ?_⟩
    (have hS := hI.bw; (repeat' (first | (with_reducible exact Below.refl _ _) | (with_reducible assumption) | (with_reducible refine below_drewN ?_ _) | (with_reducible refine Below.alloc ?_ ?_ _) | (with_reducible refine Below.drew ?_) | (with_reducible refine Below.setCell ?_ ?_ _) | go_size)))

set_option maxRecDepth 100000 in
set_option maxHeartbeats 2000000 in
theorem rstroke_times_a (hM : IsM w0 LA ln CA cn L C) (hB : Below w0.heap.size w0 w) (p : Int) (h0 : -1 ≤ p) (h1 : p ≤ 1000) (O : isOp ln L cn C p = true) (g1 : ((insAt cn C (p + 1)).op == 10) = false) (T : letterV (selV ln L cn C (p + 1) 0) = false) (O1 : isOp ln L cn C (p + 1) = true) (g3 : ((selV ln L cn C (p + 2) 1).toList == [43]) = false) (g4 : ((selV ln L cn C (p + 2) 1).toList == [45]) = false) (g5 : ((selV ln L cn C (p + 2) 1).toList == [42]) = true) :
    Calls Try.prog 12 #[.agg #[.string s, .int .i64 x0, .int .i64 x1, .int .i64 x2, .slice LA ln lc, .slice CA cn cc], .int .i64 p] w fun e w' => e = .returned (.tuple #[.int .i64 (strokeV ln L cn C p).1, .int .i64 (strokeV ln L cn C p).2.2]) ∧ Below w.heap.size w w' := by
  have F : Hid (strokeV ln L cn C p = (1, p, 3)) := by show strokeV ln L cn C p = _; simp [strokeV, strokeS, O, g1, T, O1, g3, g4, g5]
  have hI : Inv w0 w (w.alloc (.cells #[.string s, .int .i64 x0, .int .i64 x1, .int .i64 x2, .slice LA ln lc, .slice CA cn cc] 25)) (w.alloc (.cells #[.string s, .int .i64 x0, .int .i64 x1, .int .i64 x2, .slice LA ln lc, .slice CA cn cc] 25)) := Inv.start hB (by (repeat' (first | (with_reducible exact Below.refl _ _) | (with_reducible assumption) | (with_reducible refine below_drewN ?_ _) | (with_reducible refine Below.alloc ?_ ?_ _) | (with_reducible refine Below.drew ?_) | (with_reducible refine Below.setCell ?_ ?_ _) | go_size)))
  have HO := Lib.hid O
  clear O
  have HT := Lib.hid T
  clear T
  have HO1 := Lib.hid O1
  clear O1
  clear hB
  go_enter Try.func12, Try.ntmps12
  go_upto_region 7 with (first | (go_at_call 20; (with_reducible refine (ropnd_any hM (Words.none_ w0) (Words.none_ w0) (hI.at0 (by (repeat' (first | (with_reducible exact Below.refl _ _) | (with_reducible assumption) | (with_reducible refine below_drewN ?_ _) | (with_reducible refine Below.alloc ?_ ?_ _) | (with_reducible refine Below.drew ?_) | (with_reducible refine Below.setCell ?_ ?_ _) | go_size)))) _).mono ?_); rw [opndV_2]; (first | rw [HO1.out] | rw [HO.out]); rintro e w1 ⟨rfl, hb⟩; (try clear hc hf hl0); replace hI := hI.step (by (repeat' (first | (with_reducible exact Below.refl _ _) | (with_reducible assumption) | (with_reducible refine below_drewN ?_ _) | (with_reducible refine Below.alloc ?_ ?_ _) | (with_reducible refine Below.drew ?_) | (with_reducible refine Below.setCell ?_ ?_ _) | go_size))) hb; clear hb; have hc := hI.cell; have hf := hI.frozen; have hl0 := hI.lt_ (b := w.heap.size) (by simp only [World.size_alloc, World.size_setCell, World.size_drew, size_drewN]; omega); (try simp only [World.size_alloc, World.size_setCell, World.size_drew, size_drewN] at hc hf)) | (go_at_call 21; (with_reducible refine (is_any hM (hI.at0 (by (repeat' (first | (with_reducible exact Below.refl _ _) | (with_reducible assumption) | (with_reducible refine below_drewN ?_ _) | (with_reducible refine Below.alloc ?_ ?_ _) | (with_reducible refine Below.drew ?_) | (with_reducible refine Below.setCell ?_ ?_ _) | go_size)))) _ _ rfl).mono ?_); rintro e w1 ⟨rfl, hb⟩; (try clear hc hf hl0); replace hI := hI.step (by (repeat' (first | (with_reducible exact Below.refl _ _) | (with_reducible assumption) | (with_reducible refine below_drewN ?_ _) | (with_reducible refine Below.alloc ?_ ?_ _) | (with_reducible refine Below.drew ?_) | (with_reducible refine Below.setCell ?_ ?_ _) | go_size))) hb; clear hb; have hc := hI.cell; have hf := hI.frozen; have hl0 := hI.lt_ (b := w.heap.size) (by simp only [World.size_alloc, World.size_setCell, World.size_drew, size_drewN]; omega); (try simp only [World.size_alloc, World.size_setCell, World.size_drew, size_drewN] at hc hf)) | (go_at_call 22; (with_reducible refine (send_any hM (hI.at0 (by (repeat' (first | (with_reducible exact Below.refl _ _) | (with_reducible assumption) | (with_reducible refine below_drewN ?_ _) | (with_reducible refine Below.alloc ?_ ?_ _) | (with_reducible refine Below.drew ?_) | (with_reducible refine Below.setCell ?_ ?_ _) | go_size)))) _ _).mono ?_); rintro e w1 ⟨rfl, hb⟩; (try clear hc hf hl0); replace hI := hI.step (by (repeat' (first | (with_reducible exact Below.refl _ _) | (with_reducible assumption) | (with_reducible refine below_drewN ?_ _) | (with_reducible refine Below.alloc ?_ ?_ _) | (with_reducible refine Below.drew ?_) | (with_reducible refine Below.setCell ?_ ?_ _) | go_size))) hb; clear hb; have hc := hI.cell; have hf := hI.frozen; have hl0 := hI.lt_ (b := w.heap.size) (by simp only [World.size_alloc, World.size_setCell, World.size_drew, size_drewN]; omega); (try simp only [World.size_alloc, World.size_setCell, World.size_drew, size_drewN] at hc hf)))
  obtain ⟨t, ht⟩ : ∃ t, selV ln L cn C (p + 1) 0 = t := ⟨_, rfl⟩
  rw [ht]
  go_cut [55] (fun c wx => c = .bool (letterV t) ∧ wx = w1)
  case first =>
    rcases letter_facts t with ⟨f1, f2⟩ | ⟨n, f1, f2, f3⟩
    · have q : decide (0 < t.size) = false := decide_eq_false (by omega)
      have q' : ¬ 0 < t.size := by omega
      have F1 := Lib.hid f1
      clear f1 f2
      go_wp2_with fail
      go_meet
      exact ⟨by rw [F1.out], rfl⟩
    · have q : decide (0 < t.size) = true := decide_eq_true (by omega)
      have F3 := Lib.hid f3
      have f4 := f1 f2
      clear f1 f3
      by_cases k1 : 97 ≤ (n : Int)
      · by_cases k2 : (n : Int) ≤ 122
        · go_wp2_with fail
          go_meet
          exact ⟨by rw [F3.out, show decide (97 ≤ (n : Int)) = true from decide_eq_true (by omega), show decide ((n : Int) ≤ 122) = true from decide_eq_true (by omega), show decide (65 ≤ (n : Int)) = true from decide_eq_true (by omega)]; (try rw [Bool.true_and, Bool.true_or]); (try rfl), rfl⟩
        · go_wp2_with fail
          go_meet
          exact ⟨by rw [F3.out, show decide (97 ≤ (n : Int)) = true from decide_eq_true (by omega), show decide ((n : Int) ≤ 122) = false from decide_eq_false (by omega), show decide (65 ≤ (n : Int)) = true from decide_eq_true (by omega), show decide ((n : Int) ≤ 90) = false from decide_eq_false (by omega)]; (try rw [Bool.true_and, Bool.true_or]); (try rfl), rfl⟩
      · by_cases k3 : 65 ≤ (n : Int)
        · by_cases k4 : (n : Int) ≤ 90
          · go_wp2_with fail
            go_meet
            exact ⟨by rw [F3.out, show decide (97 ≤ (n : Int)) = false from decide_eq_false (by omega), show decide ((n : Int) ≤ 122) = true from decide_eq_true (by omega), show decide (65 ≤ (n : Int)) = true from decide_eq_true (by omega), show decide ((n : Int) ≤ 90) = true from decide_eq_true (by omega)]; (try rw [Bool.true_and, Bool.true_or]); (try rfl), rfl⟩
          · go_wp2_with fail
            go_meet
            exact ⟨by rw [F3.out, show decide (97 ≤ (n : Int)) = false from decide_eq_false (by omega), show decide ((n : Int) ≤ 122) = true from decide_eq_true (by omega), show decide (65 ≤ (n : Int)) = true from decide_eq_true (by omega), show decide ((n : Int) ≤ 90) = false from decide_eq_false (by omega)]; (try rw [Bool.true_and, Bool.true_or]); (try rfl), rfl⟩
        · go_wp2_with fail
          go_meet
          exact ⟨by rw [F3.out, show decide (97 ≤ (n : Int)) = false from decide_eq_false (by omega), show decide ((n : Int) ≤ 122) = true from decide_eq_true (by omega), show decide (65 ≤ (n : Int)) = false from decide_eq_false (by omega), show decide ((n : Int) ≤ 90) = true from decide_eq_true (by omega)]; (try rw [Bool.true_and, Bool.true_or]); (try rfl), rfl⟩
  case rest =>
    obtain ⟨rfl, rfl⟩ := hcut
    rw [← ht, HT.out]
    clear ht
    go_wp2_with (first | (go_at_call 20; (with_reducible refine (ropnd_any hM (Words.none_ w0) (Words.none_ w0) (hI.at0 (by (repeat' (first | (with_reducible exact Below.refl _ _) | (with_reducible assumption) | (with_reducible refine below_drewN ?_ _) | (with_reducible refine Below.alloc ?_ ?_ _) | (with_reducible refine Below.drew ?_) | (with_reducible refine Below.setCell ?_ ?_ _) | go_size)))) _).mono ?_); rw [opndV_2]; (first | rw [HO1.out] | rw [HO.out]); rintro e w1 ⟨rfl, hb⟩; (try clear hc hf hl0); replace hI := hI.step (by (repeat' (first | (with_reducible exact Below.refl _ _) | (with_reducible assumption) | (with_reducible refine below_drewN ?_ _) | (with_reducible refine Below.alloc ?_ ?_ _) | (with_reducible refine Below.drew ?_) | (with_reducible refine Below.setCell ?_ ?_ _) | go_size))) hb; clear hb; have hc := hI.cell; have hf := hI.frozen; have hl0 := hI.lt_ (b := w.heap.size) (by simp only [World.size_alloc, World.size_setCell, World.size_drew, size_drewN]; omega); (try simp only [World.size_alloc, World.size_setCell, World.size_drew, size_drewN] at hc hf)) | (go_at_call 21; (with_reducible refine (is_any hM (hI.at0 (by (repeat' (first | (with_reducible exact Below.refl _ _) | (with_reducible assumption) | (with_reducible refine below_drewN ?_ _) | (with_reducible refine Below.alloc ?_ ?_ _) | (with_reducible refine Below.drew ?_) | (with_reducible refine Below.setCell ?_ ?_ _) | go_size)))) _ _ rfl).mono ?_); rintro e w1 ⟨rfl, hb⟩; (try clear hc hf hl0); replace hI := hI.step (by (repeat' (first | (with_reducible exact Below.refl _ _) | (with_reducible assumption) | (with_reducible refine below_drewN ?_ _) | (with_reducible refine Below.alloc ?_ ?_ _) | (with_reducible refine Below.drew ?_) | (with_reducible refine Below.setCell ?_ ?_ _) | go_size))) hb; clear hb; have hc := hI.cell; have hf := hI.frozen; have hl0 := hI.lt_ (b := w.heap.size) (by simp only [World.size_alloc, World.size_setCell, World.size_drew, size_drewN]; omega); (try simp only [World.size_alloc, World.size_setCell, World.size_drew, size_drewN] at hc hf)) | (go_at_call 22; (with_reducible refine (send_any hM (hI.at0 (by (repeat' (first | (with_reducible exact Below.refl _ _) | (with_reducible assumption) | (with_reducible refine below_drewN ?_ _) | (with_reducible refine Below.alloc ?_ ?_ _) | (with_reducible refine Below.drew ?_) | (with_reducible refine Below.setCell ?_ ?_ _) | go_size)))) _ _).mono ?_); rintro e w1 ⟨rfl, hb⟩; (try clear hc hf hl0); replace hI := hI.step (by (repeat' (first | (with_reducible exact Below.refl _ _) | (with_reducible assumption) | (with_reducible refine below_drewN ?_ _) | (with_reducible refine Below.alloc ?_ ?_ _) | (with_reducible refine Below.drew ?_) | (with_reducible refine Below.setCell ?_ ?_ _) | go_size))) hb; clear hb; have hc := hI.cell; have hf := hI.frozen; have hl0 := hI.lt_ (b := w.heap.size) (by simp only [World.size_alloc, World.size_setCell, World.size_drew, size_drewN]; omega); (try simp only [World.size_alloc, World.size_setCell, World.size_drew, size_drewN] at hc hf)))
    go_ret2
    refine ⟨by rw [F.out]; rfl, ?_⟩
    (have hS := hI.bw; (repeat' (first | (with_reducible exact Below.refl _ _) | (with_reducible assumption) | (with_reducible refine below_drewN ?_ _) | (with_reducible refine Below.alloc ?_ ?_ _) | (with_reducible refine Below.drew ?_) | (with_reducible refine Below.setCell ?_ ?_ _) | go_size)))

set_option maxRecDepth 100000 in
set_option maxHeartbeats 2000000 in
theorem rstroke_less_if_a (hM : IsM w0 LA ln CA cn L C) (hB : Below w0.heap.size w0 w) (p : Int) (h0 : -1 ≤ p) (h1 : p ≤ 1000) (O : isOp ln L cn C p = true) (g1 : ((insAt cn C (p + 1)).op == 10) = false) (T : letterV (selV ln L cn C (p + 1) 0) = false) (O1 : isOp ln L cn C (p + 1) = true) (g3 : ((selV ln L cn C (p + 2) 1).toList == [43]) = false) (g4 : ((selV ln L cn C (p + 2) 1).toList == [45]) = false) (g5 : ((selV ln L cn C (p + 2) 1).toList == [42]) = false) (g6 : ((selV ln L cn C (p + 2) 1).toList == [60]) = true) (g8 : ((insAt cn C (p + 3)).op == 17) = true) :
    Calls Try.prog 12 #[.agg #[.string s, .int .i64 x0, .int .i64 x1, .int .i64 x2, .slice LA ln lc, .slice CA cn cc], .int .i64 p] w fun e w' => e = .returned (.tuple #[.int .i64 (strokeV ln L cn C p).1, .int .i64 (strokeV ln L cn C p).2.2]) ∧ Below w.heap.size w w' := by
  have F : Hid (strokeV ln L cn C p = (3, p, 4)) := by show strokeV ln L cn C p = _; simp [strokeV, strokeS, O, g1, T, O1, g3, g4, g5, g6, g8]
  have hI : Inv w0 w (w.alloc (.cells #[.string s, .int .i64 x0, .int .i64 x1, .int .i64 x2, .slice LA ln lc, .slice CA cn cc] 25)) (w.alloc (.cells #[.string s, .int .i64 x0, .int .i64 x1, .int .i64 x2, .slice LA ln lc, .slice CA cn cc] 25)) := Inv.start hB (by (repeat' (first | (with_reducible exact Below.refl _ _) | (with_reducible assumption) | (with_reducible refine below_drewN ?_ _) | (with_reducible refine Below.alloc ?_ ?_ _) | (with_reducible refine Below.drew ?_) | (with_reducible refine Below.setCell ?_ ?_ _) | go_size)))
  have HO := Lib.hid O
  clear O
  have HT := Lib.hid T
  clear T
  have HO1 := Lib.hid O1
  clear O1
  clear hB
  go_enter Try.func12, Try.ntmps12
  go_upto_region 7 with (first | (go_at_call 20; (with_reducible refine (ropnd_any hM (Words.none_ w0) (Words.none_ w0) (hI.at0 (by (repeat' (first | (with_reducible exact Below.refl _ _) | (with_reducible assumption) | (with_reducible refine below_drewN ?_ _) | (with_reducible refine Below.alloc ?_ ?_ _) | (with_reducible refine Below.drew ?_) | (with_reducible refine Below.setCell ?_ ?_ _) | go_size)))) _).mono ?_); rw [opndV_2]; (first | rw [HO1.out] | rw [HO.out]); rintro e w1 ⟨rfl, hb⟩; (try clear hc hf hl0); replace hI := hI.step (by (repeat' (first | (with_reducible exact Below.refl _ _) | (with_reducible assumption) | (with_reducible refine below_drewN ?_ _) | (with_reducible refine Below.alloc ?_ ?_ _) | (with_reducible refine Below.drew ?_) | (with_reducible refine Below.setCell ?_ ?_ _) | go_size))) hb; clear hb; have hc := hI.cell; have hf := hI.frozen; have hl0 := hI.lt_ (b := w.heap.size) (by simp only [World.size_alloc, World.size_setCell, World.size_drew, size_drewN]; omega); (try simp only [World.size_alloc, World.size_setCell, World.size_drew, size_drewN] at hc hf)) | (go_at_call 21; (with_reducible refine (is_any hM (hI.at0 (by (repeat' (first | (with_reducible exact Below.refl _ _) | (with_reducible assumption) | (with_reducible refine below_drewN ?_ _) | (with_reducible refine Below.alloc ?_ ?_ _) | (with_reducible refine Below.drew ?_) | (with_reducible refine Below.setCell ?_ ?_ _) | go_size)))) _ _ rfl).mono ?_); rintro e w1 ⟨rfl, hb⟩; (try clear hc hf hl0); replace hI := hI.step (by (repeat' (first | (with_reducible exact Below.refl _ _) | (with_reducible assumption) | (with_reducible refine below_drewN ?_ _) | (with_reducible refine Below.alloc ?_ ?_ _) | (with_reducible refine Below.drew ?_) | (with_reducible refine Below.setCell ?_ ?_ _) | go_size))) hb; clear hb; have hc := hI.cell; have hf := hI.frozen; have hl0 := hI.lt_ (b := w.heap.size) (by simp only [World.size_alloc, World.size_setCell, World.size_drew, size_drewN]; omega); (try simp only [World.size_alloc, World.size_setCell, World.size_drew, size_drewN] at hc hf)) | (go_at_call 22; (with_reducible refine (send_any hM (hI.at0 (by (repeat' (first | (with_reducible exact Below.refl _ _) | (with_reducible assumption) | (with_reducible refine below_drewN ?_ _) | (with_reducible refine Below.alloc ?_ ?_ _) | (with_reducible refine Below.drew ?_) | (with_reducible refine Below.setCell ?_ ?_ _) | go_size)))) _ _).mono ?_); rintro e w1 ⟨rfl, hb⟩; (try clear hc hf hl0); replace hI := hI.step (by (repeat' (first | (with_reducible exact Below.refl _ _) | (with_reducible assumption) | (with_reducible refine below_drewN ?_ _) | (with_reducible refine Below.alloc ?_ ?_ _) | (with_reducible refine Below.drew ?_) | (with_reducible refine Below.setCell ?_ ?_ _) | go_size))) hb; clear hb; have hc := hI.cell; have hf := hI.frozen; have hl0 := hI.lt_ (b := w.heap.size) (by simp only [World.size_alloc, World.size_setCell, World.size_drew, size_drewN]; omega); (try simp only [World.size_alloc, World.size_setCell, World.size_drew, size_drewN] at hc hf)))
  obtain ⟨t, ht⟩ : ∃ t, selV ln L cn C (p + 1) 0 = t := ⟨_, rfl⟩
  rw [ht]
  go_cut [55] (fun c wx => c = .bool (letterV t) ∧ wx = w1)
  case first =>
    rcases letter_facts t with ⟨f1, f2⟩ | ⟨n, f1, f2, f3⟩
    · have q : decide (0 < t.size) = false := decide_eq_false (by omega)
      have q' : ¬ 0 < t.size := by omega
      have F1 := Lib.hid f1
      clear f1 f2
      go_wp2_with fail
      go_meet
      exact ⟨by rw [F1.out], rfl⟩
    · have q : decide (0 < t.size) = true := decide_eq_true (by omega)
      have F3 := Lib.hid f3
      have f4 := f1 f2
      clear f1 f3
      by_cases k1 : 97 ≤ (n : Int)
      · by_cases k2 : (n : Int) ≤ 122
        · go_wp2_with fail
          go_meet
          exact ⟨by rw [F3.out, show decide (97 ≤ (n : Int)) = true from decide_eq_true (by omega), show decide ((n : Int) ≤ 122) = true from decide_eq_true (by omega), show decide (65 ≤ (n : Int)) = true from decide_eq_true (by omega)]; (try rw [Bool.true_and, Bool.true_or]); (try rfl), rfl⟩
        · go_wp2_with fail
          go_meet
          exact ⟨by rw [F3.out, show decide (97 ≤ (n : Int)) = true from decide_eq_true (by omega), show decide ((n : Int) ≤ 122) = false from decide_eq_false (by omega), show decide (65 ≤ (n : Int)) = true from decide_eq_true (by omega), show decide ((n : Int) ≤ 90) = false from decide_eq_false (by omega)]; (try rw [Bool.true_and, Bool.true_or]); (try rfl), rfl⟩
      · by_cases k3 : 65 ≤ (n : Int)
        · by_cases k4 : (n : Int) ≤ 90
          · go_wp2_with fail
            go_meet
            exact ⟨by rw [F3.out, show decide (97 ≤ (n : Int)) = false from decide_eq_false (by omega), show decide ((n : Int) ≤ 122) = true from decide_eq_true (by omega), show decide (65 ≤ (n : Int)) = true from decide_eq_true (by omega), show decide ((n : Int) ≤ 90) = true from decide_eq_true (by omega)]; (try rw [Bool.true_and, Bool.true_or]); (try rfl), rfl⟩
          · go_wp2_with fail
            go_meet
            exact ⟨by rw [F3.out, show decide (97 ≤ (n : Int)) = false from decide_eq_false (by omega), show decide ((n : Int) ≤ 122) = true from decide_eq_true (by omega), show decide (65 ≤ (n : Int)) = true from decide_eq_true (by omega), show decide ((n : Int) ≤ 90) = false from decide_eq_false (by omega)]; (try rw [Bool.true_and, Bool.true_or]); (try rfl), rfl⟩
        · go_wp2_with fail
          go_meet
          exact ⟨by rw [F3.out, show decide (97 ≤ (n : Int)) = false from decide_eq_false (by omega), show decide ((n : Int) ≤ 122) = true from decide_eq_true (by omega), show decide (65 ≤ (n : Int)) = false from decide_eq_false (by omega), show decide ((n : Int) ≤ 90) = true from decide_eq_true (by omega)]; (try rw [Bool.true_and, Bool.true_or]); (try rfl), rfl⟩
  case rest =>
    obtain ⟨rfl, rfl⟩ := hcut
    rw [← ht, HT.out]
    clear ht
    go_wp2_with (first | (go_at_call 20; (with_reducible refine (ropnd_any hM (Words.none_ w0) (Words.none_ w0) (hI.at0 (by (repeat' (first | (with_reducible exact Below.refl _ _) | (with_reducible assumption) | (with_reducible refine below_drewN ?_ _) | (with_reducible refine Below.alloc ?_ ?_ _) | (with_reducible refine Below.drew ?_) | (with_reducible refine Below.setCell ?_ ?_ _) | go_size)))) _).mono ?_); rw [opndV_2]; (first | rw [HO1.out] | rw [HO.out]); rintro e w1 ⟨rfl, hb⟩; (try clear hc hf hl0); replace hI := hI.step (by (repeat' (first | (with_reducible exact Below.refl _ _) | (with_reducible assumption) | (with_reducible refine below_drewN ?_ _) | (with_reducible refine Below.alloc ?_ ?_ _) | (with_reducible refine Below.drew ?_) | (with_reducible refine Below.setCell ?_ ?_ _) | go_size))) hb; clear hb; have hc := hI.cell; have hf := hI.frozen; have hl0 := hI.lt_ (b := w.heap.size) (by simp only [World.size_alloc, World.size_setCell, World.size_drew, size_drewN]; omega); (try simp only [World.size_alloc, World.size_setCell, World.size_drew, size_drewN] at hc hf)) | (go_at_call 21; (with_reducible refine (is_any hM (hI.at0 (by (repeat' (first | (with_reducible exact Below.refl _ _) | (with_reducible assumption) | (with_reducible refine below_drewN ?_ _) | (with_reducible refine Below.alloc ?_ ?_ _) | (with_reducible refine Below.drew ?_) | (with_reducible refine Below.setCell ?_ ?_ _) | go_size)))) _ _ rfl).mono ?_); rintro e w1 ⟨rfl, hb⟩; (try clear hc hf hl0); replace hI := hI.step (by (repeat' (first | (with_reducible exact Below.refl _ _) | (with_reducible assumption) | (with_reducible refine below_drewN ?_ _) | (with_reducible refine Below.alloc ?_ ?_ _) | (with_reducible refine Below.drew ?_) | (with_reducible refine Below.setCell ?_ ?_ _) | go_size))) hb; clear hb; have hc := hI.cell; have hf := hI.frozen; have hl0 := hI.lt_ (b := w.heap.size) (by simp only [World.size_alloc, World.size_setCell, World.size_drew, size_drewN]; omega); (try simp only [World.size_alloc, World.size_setCell, World.size_drew, size_drewN] at hc hf)) | (go_at_call 22; (with_reducible refine (send_any hM (hI.at0 (by (repeat' (first | (with_reducible exact Below.refl _ _) | (with_reducible assumption) | (with_reducible refine below_drewN ?_ _) | (with_reducible refine Below.alloc ?_ ?_ _) | (with_reducible refine Below.drew ?_) | (with_reducible refine Below.setCell ?_ ?_ _) | go_size)))) _ _).mono ?_); rintro e w1 ⟨rfl, hb⟩; (try clear hc hf hl0); replace hI := hI.step (by (repeat' (first | (with_reducible exact Below.refl _ _) | (with_reducible assumption) | (with_reducible refine below_drewN ?_ _) | (with_reducible refine Below.alloc ?_ ?_ _) | (with_reducible refine Below.drew ?_) | (with_reducible refine Below.setCell ?_ ?_ _) | go_size))) hb; clear hb; have hc := hI.cell; have hf := hI.frozen; have hl0 := hI.lt_ (b := w.heap.size) (by simp only [World.size_alloc, World.size_setCell, World.size_drew, size_drewN]; omega); (try simp only [World.size_alloc, World.size_setCell, World.size_drew, size_drewN] at hc hf)))
    go_ret2
    refine ⟨by rw [F.out]; rfl, ?_⟩
    (have hS := hI.bw; (repeat' (first | (with_reducible exact Below.refl _ _) | (with_reducible assumption) | (with_reducible refine below_drewN ?_ _) | (with_reducible refine Below.alloc ?_ ?_ _) | (with_reducible refine Below.drew ?_) | (with_reducible refine Below.setCell ?_ ?_ _) | go_size)))

set_option maxRecDepth 100000 in
set_option maxHeartbeats 2000000 in
theorem rstroke_less_a (hM : IsM w0 LA ln CA cn L C) (hB : Below w0.heap.size w0 w) (p : Int) (h0 : -1 ≤ p) (h1 : p ≤ 1000) (O : isOp ln L cn C p = true) (g1 : ((insAt cn C (p + 1)).op == 10) = false) (T : letterV (selV ln L cn C (p + 1) 0) = false) (O1 : isOp ln L cn C (p + 1) = true) (g3 : ((selV ln L cn C (p + 2) 1).toList == [43]) = false) (g4 : ((selV ln L cn C (p + 2) 1).toList == [45]) = false) (g5 : ((selV ln L cn C (p + 2) 1).toList == [42]) = false) (g6 : ((selV ln L cn C (p + 2) 1).toList == [60]) = true) (g8 : ((insAt cn C (p + 3)).op == 17) = false) :
    Calls Try.prog 12 #[.agg #[.string s, .int .i64 x0, .int .i64 x1, .int .i64 x2, .slice LA ln lc, .slice CA cn cc], .int .i64 p] w fun e w' => e = .returned (.tuple #[.int .i64 (strokeV ln L cn C p).1, .int .i64 (strokeV ln L cn C p).2.2]) ∧ Below w.heap.size w w' := by
  have F : Hid (strokeV ln L cn C p = (2, p, 3)) := by show strokeV ln L cn C p = _; simp [strokeV, strokeS, O, g1, T, O1, g3, g4, g5, g6, g8]
  have hI : Inv w0 w (w.alloc (.cells #[.string s, .int .i64 x0, .int .i64 x1, .int .i64 x2, .slice LA ln lc, .slice CA cn cc] 25)) (w.alloc (.cells #[.string s, .int .i64 x0, .int .i64 x1, .int .i64 x2, .slice LA ln lc, .slice CA cn cc] 25)) := Inv.start hB (by (repeat' (first | (with_reducible exact Below.refl _ _) | (with_reducible assumption) | (with_reducible refine below_drewN ?_ _) | (with_reducible refine Below.alloc ?_ ?_ _) | (with_reducible refine Below.drew ?_) | (with_reducible refine Below.setCell ?_ ?_ _) | go_size)))
  have HO := Lib.hid O
  clear O
  have HT := Lib.hid T
  clear T
  have HO1 := Lib.hid O1
  clear O1
  clear hB
  go_enter Try.func12, Try.ntmps12
  go_upto_region 7 with (first | (go_at_call 20; (with_reducible refine (ropnd_any hM (Words.none_ w0) (Words.none_ w0) (hI.at0 (by (repeat' (first | (with_reducible exact Below.refl _ _) | (with_reducible assumption) | (with_reducible refine below_drewN ?_ _) | (with_reducible refine Below.alloc ?_ ?_ _) | (with_reducible refine Below.drew ?_) | (with_reducible refine Below.setCell ?_ ?_ _) | go_size)))) _).mono ?_); rw [opndV_2]; (first | rw [HO1.out] | rw [HO.out]); rintro e w1 ⟨rfl, hb⟩; (try clear hc hf hl0); replace hI := hI.step (by (repeat' (first | (with_reducible exact Below.refl _ _) | (with_reducible assumption) | (with_reducible refine below_drewN ?_ _) | (with_reducible refine Below.alloc ?_ ?_ _) | (with_reducible refine Below.drew ?_) | (with_reducible refine Below.setCell ?_ ?_ _) | go_size))) hb; clear hb; have hc := hI.cell; have hf := hI.frozen; have hl0 := hI.lt_ (b := w.heap.size) (by simp only [World.size_alloc, World.size_setCell, World.size_drew, size_drewN]; omega); (try simp only [World.size_alloc, World.size_setCell, World.size_drew, size_drewN] at hc hf)) | (go_at_call 21; (with_reducible refine (is_any hM (hI.at0 (by (repeat' (first | (with_reducible exact Below.refl _ _) | (with_reducible assumption) | (with_reducible refine below_drewN ?_ _) | (with_reducible refine Below.alloc ?_ ?_ _) | (with_reducible refine Below.drew ?_) | (with_reducible refine Below.setCell ?_ ?_ _) | go_size)))) _ _ rfl).mono ?_); rintro e w1 ⟨rfl, hb⟩; (try clear hc hf hl0); replace hI := hI.step (by (repeat' (first | (with_reducible exact Below.refl _ _) | (with_reducible assumption) | (with_reducible refine below_drewN ?_ _) | (with_reducible refine Below.alloc ?_ ?_ _) | (with_reducible refine Below.drew ?_) | (with_reducible refine Below.setCell ?_ ?_ _) | go_size))) hb; clear hb; have hc := hI.cell; have hf := hI.frozen; have hl0 := hI.lt_ (b := w.heap.size) (by simp only [World.size_alloc, World.size_setCell, World.size_drew, size_drewN]; omega); (try simp only [World.size_alloc, World.size_setCell, World.size_drew, size_drewN] at hc hf)) | (go_at_call 22; (with_reducible refine (send_any hM (hI.at0 (by (repeat' (first | (with_reducible exact Below.refl _ _) | (with_reducible assumption) | (with_reducible refine below_drewN ?_ _) | (with_reducible refine Below.alloc ?_ ?_ _) | (with_reducible refine Below.drew ?_) | (with_reducible refine Below.setCell ?_ ?_ _) | go_size)))) _ _).mono ?_); rintro e w1 ⟨rfl, hb⟩; (try clear hc hf hl0); replace hI := hI.step (by (repeat' (first | (with_reducible exact Below.refl _ _) | (with_reducible assumption) | (with_reducible refine below_drewN ?_ _) | (with_reducible refine Below.alloc ?_ ?_ _) | (with_reducible refine Below.drew ?_) | (with_reducible refine Below.setCell ?_ ?_ _) | go_size))) hb; clear hb; have hc := hI.cell; have hf := hI.frozen; have hl0 := hI.lt_ (b := w.heap.size) (by simp only [World.size_alloc, World.size_setCell, World.size_drew, size_drewN]; omega); (try simp only [World.size_alloc, World.size_setCell, World.size_drew, size_drewN] at hc hf)))
  obtain ⟨t, ht⟩ : ∃ t, selV ln L cn C (p + 1) 0 = t := ⟨_, rfl⟩
  rw [ht]
  go_cut [55] (fun c wx => c = .bool (letterV t) ∧ wx = w1)
  case first =>
    rcases letter_facts t with ⟨f1, f2⟩ | ⟨n, f1, f2, f3⟩
    · have q : decide (0 < t.size) = false := decide_eq_false (by omega)
      have q' : ¬ 0 < t.size := by omega
      have F1 := Lib.hid f1
      clear f1 f2
      go_wp2_with fail
      go_meet
      exact ⟨by rw [F1.out], rfl⟩
    · have q : decide (0 < t.size) = true := decide_eq_true (by omega)
      have F3 := Lib.hid f3
      have f4 := f1 f2
      clear f1 f3
      by_cases k1 : 97 ≤ (n : Int)
      · by_cases k2 : (n : Int) ≤ 122
        · go_wp2_with fail
          go_meet
          exact ⟨by rw [F3.out, show decide (97 ≤ (n : Int)) = true from decide_eq_true (by omega), show decide ((n : Int) ≤ 122) = true from decide_eq_true (by omega), show decide (65 ≤ (n : Int)) = true from decide_eq_true (by omega)]; (try rw [Bool.true_and, Bool.true_or]); (try rfl), rfl⟩
        · go_wp2_with fail
          go_meet
          exact ⟨by rw [F3.out, show decide (97 ≤ (n : Int)) = true from decide_eq_true (by omega), show decide ((n : Int) ≤ 122) = false from decide_eq_false (by omega), show decide (65 ≤ (n : Int)) = true from decide_eq_true (by omega), show decide ((n : Int) ≤ 90) = false from decide_eq_false (by omega)]; (try rw [Bool.true_and, Bool.true_or]); (try rfl), rfl⟩
      · by_cases k3 : 65 ≤ (n : Int)
        · by_cases k4 : (n : Int) ≤ 90
          · go_wp2_with fail
            go_meet
            exact ⟨by rw [F3.out, show decide (97 ≤ (n : Int)) = false from decide_eq_false (by omega), show decide ((n : Int) ≤ 122) = true from decide_eq_true (by omega), show decide (65 ≤ (n : Int)) = true from decide_eq_true (by omega), show decide ((n : Int) ≤ 90) = true from decide_eq_true (by omega)]; (try rw [Bool.true_and, Bool.true_or]); (try rfl), rfl⟩
          · go_wp2_with fail
            go_meet
            exact ⟨by rw [F3.out, show decide (97 ≤ (n : Int)) = false from decide_eq_false (by omega), show decide ((n : Int) ≤ 122) = true from decide_eq_true (by omega), show decide (65 ≤ (n : Int)) = true from decide_eq_true (by omega), show decide ((n : Int) ≤ 90) = false from decide_eq_false (by omega)]; (try rw [Bool.true_and, Bool.true_or]); (try rfl), rfl⟩
        · go_wp2_with fail
          go_meet
          exact ⟨by rw [F3.out, show decide (97 ≤ (n : Int)) = false from decide_eq_false (by omega), show decide ((n : Int) ≤ 122) = true from decide_eq_true (by omega), show decide (65 ≤ (n : Int)) = false from decide_eq_false (by omega), show decide ((n : Int) ≤ 90) = true from decide_eq_true (by omega)]; (try rw [Bool.true_and, Bool.true_or]); (try rfl), rfl⟩
  case rest =>
    obtain ⟨rfl, rfl⟩ := hcut
    rw [← ht, HT.out]
    clear ht
    go_wp2_with (first | (go_at_call 20; (with_reducible refine (ropnd_any hM (Words.none_ w0) (Words.none_ w0) (hI.at0 (by (repeat' (first | (with_reducible exact Below.refl _ _) | (with_reducible assumption) | (with_reducible refine below_drewN ?_ _) | (with_reducible refine Below.alloc ?_ ?_ _) | (with_reducible refine Below.drew ?_) | (with_reducible refine Below.setCell ?_ ?_ _) | go_size)))) _).mono ?_); rw [opndV_2]; (first | rw [HO1.out] | rw [HO.out]); rintro e w1 ⟨rfl, hb⟩; (try clear hc hf hl0); replace hI := hI.step (by (repeat' (first | (with_reducible exact Below.refl _ _) | (with_reducible assumption) | (with_reducible refine below_drewN ?_ _) | (with_reducible refine Below.alloc ?_ ?_ _) | (with_reducible refine Below.drew ?_) | (with_reducible refine Below.setCell ?_ ?_ _) | go_size))) hb; clear hb; have hc := hI.cell; have hf := hI.frozen; have hl0 := hI.lt_ (b := w.heap.size) (by simp only [World.size_alloc, World.size_setCell, World.size_drew, size_drewN]; omega); (try simp only [World.size_alloc, World.size_setCell, World.size_drew, size_drewN] at hc hf)) | (go_at_call 21; (with_reducible refine (is_any hM (hI.at0 (by (repeat' (first | (with_reducible exact Below.refl _ _) | (with_reducible assumption) | (with_reducible refine below_drewN ?_ _) | (with_reducible refine Below.alloc ?_ ?_ _) | (with_reducible refine Below.drew ?_) | (with_reducible refine Below.setCell ?_ ?_ _) | go_size)))) _ _ rfl).mono ?_); rintro e w1 ⟨rfl, hb⟩; (try clear hc hf hl0); replace hI := hI.step (by (repeat' (first | (with_reducible exact Below.refl _ _) | (with_reducible assumption) | (with_reducible refine below_drewN ?_ _) | (with_reducible refine Below.alloc ?_ ?_ _) | (with_reducible refine Below.drew ?_) | (with_reducible refine Below.setCell ?_ ?_ _) | go_size))) hb; clear hb; have hc := hI.cell; have hf := hI.frozen; have hl0 := hI.lt_ (b := w.heap.size) (by simp only [World.size_alloc, World.size_setCell, World.size_drew, size_drewN]; omega); (try simp only [World.size_alloc, World.size_setCell, World.size_drew, size_drewN] at hc hf)) | (go_at_call 22; (with_reducible refine (send_any hM (hI.at0 (by (repeat' (first | (with_reducible exact Below.refl _ _) | (with_reducible assumption) | (with_reducible refine below_drewN ?_ _) | (with_reducible refine Below.alloc ?_ ?_ _) | (with_reducible refine Below.drew ?_) | (with_reducible refine Below.setCell ?_ ?_ _) | go_size)))) _ _).mono ?_); rintro e w1 ⟨rfl, hb⟩; (try clear hc hf hl0); replace hI := hI.step (by (repeat' (first | (with_reducible exact Below.refl _ _) | (with_reducible assumption) | (with_reducible refine below_drewN ?_ _) | (with_reducible refine Below.alloc ?_ ?_ _) | (with_reducible refine Below.drew ?_) | (with_reducible refine Below.setCell ?_ ?_ _) | go_size))) hb; clear hb; have hc := hI.cell; have hf := hI.frozen; have hl0 := hI.lt_ (b := w.heap.size) (by simp only [World.size_alloc, World.size_setCell, World.size_drew, size_drewN]; omega); (try simp only [World.size_alloc, World.size_setCell, World.size_drew, size_drewN] at hc hf)))
    go_ret2
    refine ⟨by rw [F.out]; rfl, ?_⟩
    (have hS := hI.bw; (repeat' (first | (with_reducible exact Below.refl _ _) | (with_reducible assumption) | (with_reducible refine below_drewN ?_ _) | (with_reducible refine Below.alloc ?_ ?_ _) | (with_reducible refine Below.drew ?_) | (with_reducible refine Below.setCell ?_ ?_ _) | go_size)))

set_option maxRecDepth 100000 in
set_option maxHeartbeats 2000000 in
theorem rstroke_same_if_a (hM : IsM w0 LA ln CA cn L C) (hB : Below w0.heap.size w0 w) (p : Int) (h0 : -1 ≤ p) (h1 : p ≤ 1000) (O : isOp ln L cn C p = true) (g1 : ((insAt cn C (p + 1)).op == 10) = false) (T : letterV (selV ln L cn C (p + 1) 0) = false) (O1 : isOp ln L cn C (p + 1) = true) (g3 : ((selV ln L cn C (p + 2) 1).toList == [43]) = false) (g4 : ((selV ln L cn C (p + 2) 1).toList == [45]) = false) (g5 : ((selV ln L cn C (p + 2) 1).toList == [42]) = false) (g6 : ((selV ln L cn C (p + 2) 1).toList == [60]) = false) (g7 : ((selV ln L cn C (p + 2) 1).toList == [61]) = true) (g8 : ((insAt cn C (p + 3)).op == 17) = true) :
    Calls Try.prog 12 #[.agg #[.string s, .int .i64 x0, .int .i64 x1, .int .i64 x2, .slice LA ln lc, .slice CA cn cc], .int .i64 p] w fun e w' => e = .returned (.tuple #[.int .i64 (strokeV ln L cn C p).1, .int .i64 (strokeV ln L cn C p).2.2]) ∧ Below w.heap.size w w' := by
  have F : Hid (strokeV ln L cn C p = (3, p, 4)) := by show strokeV ln L cn C p = _; simp [strokeV, strokeS, O, g1, T, O1, g3, g4, g5, g6, g7, g8]
  have hI : Inv w0 w (w.alloc (.cells #[.string s, .int .i64 x0, .int .i64 x1, .int .i64 x2, .slice LA ln lc, .slice CA cn cc] 25)) (w.alloc (.cells #[.string s, .int .i64 x0, .int .i64 x1, .int .i64 x2, .slice LA ln lc, .slice CA cn cc] 25)) := Inv.start hB (by (repeat' (first | (with_reducible exact Below.refl _ _) | (with_reducible assumption) | (with_reducible refine below_drewN ?_ _) | (with_reducible refine Below.alloc ?_ ?_ _) | (with_reducible refine Below.drew ?_) | (with_reducible refine Below.setCell ?_ ?_ _) | go_size)))
  have HO := Lib.hid O
  clear O
  have HT := Lib.hid T
  clear T
  have HO1 := Lib.hid O1
  clear O1
  clear hB
  go_enter Try.func12, Try.ntmps12
  go_upto_region 7 with (first | (go_at_call 20; (with_reducible refine (ropnd_any hM (Words.none_ w0) (Words.none_ w0) (hI.at0 (by (repeat' (first | (with_reducible exact Below.refl _ _) | (with_reducible assumption) | (with_reducible refine below_drewN ?_ _) | (with_reducible refine Below.alloc ?_ ?_ _) | (with_reducible refine Below.drew ?_) | (with_reducible refine Below.setCell ?_ ?_ _) | go_size)))) _).mono ?_); rw [opndV_2]; (first | rw [HO1.out] | rw [HO.out]); rintro e w1 ⟨rfl, hb⟩; (try clear hc hf hl0); replace hI := hI.step (by (repeat' (first | (with_reducible exact Below.refl _ _) | (with_reducible assumption) | (with_reducible refine below_drewN ?_ _) | (with_reducible refine Below.alloc ?_ ?_ _) | (with_reducible refine Below.drew ?_) | (with_reducible refine Below.setCell ?_ ?_ _) | go_size))) hb; clear hb; have hc := hI.cell; have hf := hI.frozen; have hl0 := hI.lt_ (b := w.heap.size) (by simp only [World.size_alloc, World.size_setCell, World.size_drew, size_drewN]; omega); (try simp only [World.size_alloc, World.size_setCell, World.size_drew, size_drewN] at hc hf)) | (go_at_call 21; (with_reducible refine (is_any hM (hI.at0 (by (repeat' (first | (with_reducible exact Below.refl _ _) | (with_reducible assumption) | (with_reducible refine below_drewN ?_ _) | (with_reducible refine Below.alloc ?_ ?_ _) | (with_reducible refine Below.drew ?_) | (with_reducible refine Below.setCell ?_ ?_ _) | go_size)))) _ _ rfl).mono ?_); rintro e w1 ⟨rfl, hb⟩; (try clear hc hf hl0); replace hI := hI.step (by (repeat' (first | (with_reducible exact Below.refl _ _) | (with_reducible assumption) | (with_reducible refine below_drewN ?_ _) | (with_reducible refine Below.alloc ?_ ?_ _) | (with_reducible refine Below.drew ?_) | (with_reducible refine Below.setCell ?_ ?_ _) | go_size))) hb; clear hb; have hc := hI.cell; have hf := hI.frozen; have hl0 := hI.lt_ (b := w.heap.size) (by simp only [World.size_alloc, World.size_setCell, World.size_drew, size_drewN]; omega); (try simp only [World.size_alloc, World.size_setCell, World.size_drew, size_drewN] at hc hf)) | (go_at_call 22; (with_reducible refine (send_any hM (hI.at0 (by (repeat' (first | (with_reducible exact Below.refl _ _) | (with_reducible assumption) | (with_reducible refine below_drewN ?_ _) | (with_reducible refine Below.alloc ?_ ?_ _) | (with_reducible refine Below.drew ?_) | (with_reducible refine Below.setCell ?_ ?_ _) | go_size)))) _ _).mono ?_); rintro e w1 ⟨rfl, hb⟩; (try clear hc hf hl0); replace hI := hI.step (by (repeat' (first | (with_reducible exact Below.refl _ _) | (with_reducible assumption) | (with_reducible refine below_drewN ?_ _) | (with_reducible refine Below.alloc ?_ ?_ _) | (with_reducible refine Below.drew ?_) | (with_reducible refine Below.setCell ?_ ?_ _) | go_size))) hb; clear hb; have hc := hI.cell; have hf := hI.frozen; have hl0 := hI.lt_ (b := w.heap.size) (by simp only [World.size_alloc, World.size_setCell, World.size_drew, size_drewN]; omega); (try simp only [World.size_alloc, World.size_setCell, World.size_drew, size_drewN] at hc hf)))
  obtain ⟨t, ht⟩ : ∃ t, selV ln L cn C (p + 1) 0 = t := ⟨_, rfl⟩
  rw [ht]
  go_cut [55] (fun c wx => c = .bool (letterV t) ∧ wx = w1)
  case first =>
    rcases letter_facts t with ⟨f1, f2⟩ | ⟨n, f1, f2, f3⟩
    · have q : decide (0 < t.size) = false := decide_eq_false (by omega)
      have q' : ¬ 0 < t.size := by omega
      have F1 := Lib.hid f1
      clear f1 f2
      go_wp2_with fail
      go_meet
      exact ⟨by rw [F1.out], rfl⟩
    · have q : decide (0 < t.size) = true := decide_eq_true (by omega)
      have F3 := Lib.hid f3
      have f4 := f1 f2
      clear f1 f3
      by_cases k1 : 97 ≤ (n : Int)
      · by_cases k2 : (n : Int) ≤ 122
        · go_wp2_with fail
          go_meet
          exact ⟨by rw [F3.out, show decide (97 ≤ (n : Int)) = true from decide_eq_true (by omega), show decide ((n : Int) ≤ 122) = true from decide_eq_true (by omega), show decide (65 ≤ (n : Int)) = true from decide_eq_true (by omega)]; (try rw [Bool.true_and, Bool.true_or]); (try rfl), rfl⟩
        · go_wp2_with fail
          go_meet
          exact ⟨by rw [F3.out, show decide (97 ≤ (n : Int)) = true from decide_eq_true (by omega), show decide ((n : Int) ≤ 122) = false from decide_eq_false (by omega), show decide (65 ≤ (n : Int)) = true from decide_eq_true (by omega), show decide ((n : Int) ≤ 90) = false from decide_eq_false (by omega)]; (try rw [Bool.true_and, Bool.true_or]); (try rfl), rfl⟩
      · by_cases k3 : 65 ≤ (n : Int)
        · by_cases k4 : (n : Int) ≤ 90
          · go_wp2_with fail
            go_meet
            exact ⟨by rw [F3.out, show decide (97 ≤ (n : Int)) = false from decide_eq_false (by omega), show decide ((n : Int) ≤ 122) = true from decide_eq_true (by omega), show decide (65 ≤ (n : Int)) = true from decide_eq_true (by omega), show decide ((n : Int) ≤ 90) = true from decide_eq_true (by omega)]; (try rw [Bool.true_and, Bool.true_or]); (try rfl), rfl⟩
          · go_wp2_with fail
            go_meet
            exact ⟨by rw [F3.out, show decide (97 ≤ (n : Int)) = false from decide_eq_false (by omega), show decide ((n : Int) ≤ 122) = true from decide_eq_true (by omega), show decide (65 ≤ (n : Int)) = true from decide_eq_true (by omega), show decide ((n : Int) ≤ 90) = false from decide_eq_false (by omega)]; (try rw [Bool.true_and, Bool.true_or]); (try rfl), rfl⟩
        · go_wp2_with fail
          go_meet
          exact ⟨by rw [F3.out, show decide (97 ≤ (n : Int)) = false from decide_eq_false (by omega), show decide ((n : Int) ≤ 122) = true from decide_eq_true (by omega), show decide (65 ≤ (n : Int)) = false from decide_eq_false (by omega), show decide ((n : Int) ≤ 90) = true from decide_eq_true (by omega)]; (try rw [Bool.true_and, Bool.true_or]); (try rfl), rfl⟩
  case rest =>
    obtain ⟨rfl, rfl⟩ := hcut
    rw [← ht, HT.out]
    clear ht
    go_wp2_with (first | (go_at_call 20; (with_reducible refine (ropnd_any hM (Words.none_ w0) (Words.none_ w0) (hI.at0 (by (repeat' (first | (with_reducible exact Below.refl _ _) | (with_reducible assumption) | (with_reducible refine below_drewN ?_ _) | (with_reducible refine Below.alloc ?_ ?_ _) | (with_reducible refine Below.drew ?_) | (with_reducible refine Below.setCell ?_ ?_ _) | go_size)))) _).mono ?_); rw [opndV_2]; (first | rw [HO1.out] | rw [HO.out]); rintro e w1 ⟨rfl, hb⟩; (try clear hc hf hl0); replace hI := hI.step (by (repeat' (first | (with_reducible exact Below.refl _ _) | (with_reducible assumption) | (with_reducible refine below_drewN ?_ _) | (with_reducible refine Below.alloc ?_ ?_ _) | (with_reducible refine Below.drew ?_) | (with_reducible refine Below.setCell ?_ ?_ _) | go_size))) hb; clear hb; have hc := hI.cell; have hf := hI.frozen; have hl0 := hI.lt_ (b := w.heap.size) (by simp only [World.size_alloc, World.size_setCell, World.size_drew, size_drewN]; omega); (try simp only [World.size_alloc, World.size_setCell, World.size_drew, size_drewN] at hc hf)) | (go_at_call 21; (with_reducible refine (is_any hM (hI.at0 (by (repeat' (first | (with_reducible exact Below.refl _ _) | (with_reducible assumption) | (with_reducible refine below_drewN ?_ _) | (with_reducible refine Below.alloc ?_ ?_ _) | (with_reducible refine Below.drew ?_) | (with_reducible refine Below.setCell ?_ ?_ _) | go_size)))) _ _ rfl).mono ?_); rintro e w1 ⟨rfl, hb⟩; (try clear hc hf hl0); replace hI := hI.step (by (repeat' (first | (with_reducible exact Below.refl _ _) | (with_reducible assumption) | (with_reducible refine below_drewN ?_ _) | (with_reducible refine Below.alloc ?_ ?_ _) | (with_reducible refine Below.drew ?_) | (with_reducible refine Below.setCell ?_ ?_ _) | go_size))) hb; clear hb; have hc := hI.cell; have hf := hI.frozen; have hl0 := hI.lt_ (b := w.heap.size) (by simp only [World.size_alloc, World.size_setCell, World.size_drew, size_drewN]; omega); (try simp only [World.size_alloc, World.size_setCell, World.size_drew, size_drewN] at hc hf)) | (go_at_call 22; (with_reducible refine (send_any hM (hI.at0 (by (repeat' (first | (with_reducible exact Below.refl _ _) | (with_reducible assumption) | (with_reducible refine below_drewN ?_ _) | (with_reducible refine Below.alloc ?_ ?_ _) | (with_reducible refine Below.drew ?_) | (with_reducible refine Below.setCell ?_ ?_ _) | go_size)))) _ _).mono ?_); rintro e w1 ⟨rfl, hb⟩; (try clear hc hf hl0); replace hI := hI.step (by (repeat' (first | (with_reducible exact Below.refl _ _) | (with_reducible assumption) | (with_reducible refine below_drewN ?_ _) | (with_reducible refine Below.alloc ?_ ?_ _) | (with_reducible refine Below.drew ?_) | (with_reducible refine Below.setCell ?_ ?_ _) | go_size))) hb; clear hb; have hc := hI.cell; have hf := hI.frozen; have hl0 := hI.lt_ (b := w.heap.size) (by simp only [World.size_alloc, World.size_setCell, World.size_drew, size_drewN]; omega); (try simp only [World.size_alloc, World.size_setCell, World.size_drew, size_drewN] at hc hf)))
    go_ret2
    refine ⟨by rw [F.out]; rfl, ?_⟩
    (have hS := hI.bw; (repeat' (first | (with_reducible exact Below.refl _ _) | (with_reducible assumption) | (with_reducible refine below_drewN ?_ _) | (with_reducible refine Below.alloc ?_ ?_ _) | (with_reducible refine Below.drew ?_) | (with_reducible refine Below.setCell ?_ ?_ _) | go_size)))

set_option maxRecDepth 100000 in
set_option maxHeartbeats 2000000 in
theorem rstroke_same_a (hM : IsM w0 LA ln CA cn L C) (hB : Below w0.heap.size w0 w) (p : Int) (h0 : -1 ≤ p) (h1 : p ≤ 1000) (O : isOp ln L cn C p = true) (g1 : ((insAt cn C (p + 1)).op == 10) = false) (T : letterV (selV ln L cn C (p + 1) 0) = false) (O1 : isOp ln L cn C (p + 1) = true) (g3 : ((selV ln L cn C (p + 2) 1).toList == [43]) = false) (g4 : ((selV ln L cn C (p + 2) 1).toList == [45]) = false) (g5 : ((selV ln L cn C (p + 2) 1).toList == [42]) = false) (g6 : ((selV ln L cn C (p + 2) 1).toList == [60]) = false) (g7 : ((selV ln L cn C (p + 2) 1).toList == [61]) = true) (g8 : ((insAt cn C (p + 3)).op == 17) = false) :
    Calls Try.prog 12 #[.agg #[.string s, .int .i64 x0, .int .i64 x1, .int .i64 x2, .slice LA ln lc, .slice CA cn cc], .int .i64 p] w fun e w' => e = .returned (.tuple #[.int .i64 (strokeV ln L cn C p).1, .int .i64 (strokeV ln L cn C p).2.2]) ∧ Below w.heap.size w w' := by
  have F : Hid (strokeV ln L cn C p = (2, p, 3)) := by show strokeV ln L cn C p = _; simp [strokeV, strokeS, O, g1, T, O1, g3, g4, g5, g6, g7, g8]
  have hI : Inv w0 w (w.alloc (.cells #[.string s, .int .i64 x0, .int .i64 x1, .int .i64 x2, .slice LA ln lc, .slice CA cn cc] 25)) (w.alloc (.cells #[.string s, .int .i64 x0, .int .i64 x1, .int .i64 x2, .slice LA ln lc, .slice CA cn cc] 25)) := Inv.start hB (by (repeat' (first | (with_reducible exact Below.refl _ _) | (with_reducible assumption) | (with_reducible refine below_drewN ?_ _) | (with_reducible refine Below.alloc ?_ ?_ _) | (with_reducible refine Below.drew ?_) | (with_reducible refine Below.setCell ?_ ?_ _) | go_size)))
  have HO := Lib.hid O
  clear O
  have HT := Lib.hid T
  clear T
  have HO1 := Lib.hid O1
  clear O1
  clear hB
  go_enter Try.func12, Try.ntmps12
  go_upto_region 7 with (first | (go_at_call 20; (with_reducible refine (ropnd_any hM (Words.none_ w0) (Words.none_ w0) (hI.at0 (by (repeat' (first | (with_reducible exact Below.refl _ _) | (with_reducible assumption) | (with_reducible refine below_drewN ?_ _) | (with_reducible refine Below.alloc ?_ ?_ _) | (with_reducible refine Below.drew ?_) | (with_reducible refine Below.setCell ?_ ?_ _) | go_size)))) _).mono ?_); rw [opndV_2]; (first | rw [HO1.out] | rw [HO.out]); rintro e w1 ⟨rfl, hb⟩; (try clear hc hf hl0); replace hI := hI.step (by (repeat' (first | (with_reducible exact Below.refl _ _) | (with_reducible assumption) | (with_reducible refine below_drewN ?_ _) | (with_reducible refine Below.alloc ?_ ?_ _) | (with_reducible refine Below.drew ?_) | (with_reducible refine Below.setCell ?_ ?_ _) | go_size))) hb; clear hb; have hc := hI.cell; have hf := hI.frozen; have hl0 := hI.lt_ (b := w.heap.size) (by simp only [World.size_alloc, World.size_setCell, World.size_drew, size_drewN]; omega); (try simp only [World.size_alloc, World.size_setCell, World.size_drew, size_drewN] at hc hf)) | (go_at_call 21; (with_reducible refine (is_any hM (hI.at0 (by (repeat' (first | (with_reducible exact Below.refl _ _) | (with_reducible assumption) | (with_reducible refine below_drewN ?_ _) | (with_reducible refine Below.alloc ?_ ?_ _) | (with_reducible refine Below.drew ?_) | (with_reducible refine Below.setCell ?_ ?_ _) | go_size)))) _ _ rfl).mono ?_); rintro e w1 ⟨rfl, hb⟩; (try clear hc hf hl0); replace hI := hI.step (by (repeat' (first | (with_reducible exact Below.refl _ _) | (with_reducible assumption) | (with_reducible refine below_drewN ?_ _) | (with_reducible refine Below.alloc ?_ ?_ _) | (with_reducible refine Below.drew ?_) | (with_reducible refine Below.setCell ?_ ?_ _) | go_size))) hb; clear hb; have hc := hI.cell; have hf := hI.frozen; have hl0 := hI.lt_ (b := w.heap.size) (by simp only [World.size_alloc, World.size_setCell, World.size_drew, size_drewN]; omega); (try simp only [World.size_alloc, World.size_setCell, World.size_drew, size_drewN] at hc hf)) | (go_at_call 22; (with_reducible refine (send_any hM (hI.at0 (by (repeat' (first | (with_reducible exact Below.refl _ _) | (with_reducible assumption) | (with_reducible refine below_drewN ?_ _) | (with_reducible refine Below.alloc ?_ ?_ _) | (with_reducible refine Below.drew ?_) | (with_reducible refine Below.setCell ?_ ?_ _) | go_size)))) _ _).mono ?_); rintro e w1 ⟨rfl, hb⟩; (try clear hc hf hl0); replace hI := hI.step (by (repeat' (first | (with_reducible exact Below.refl _ _) | (with_reducible assumption) | (with_reducible refine below_drewN ?_ _) | (with_reducible refine Below.alloc ?_ ?_ _) | (with_reducible refine Below.drew ?_) | (with_reducible refine Below.setCell ?_ ?_ _) | go_size))) hb; clear hb; have hc := hI.cell; have hf := hI.frozen; have hl0 := hI.lt_ (b := w.heap.size) (by simp only [World.size_alloc, World.size_setCell, World.size_drew, size_drewN]; omega); (try simp only [World.size_alloc, World.size_setCell, World.size_drew, size_drewN] at hc hf)))
  obtain ⟨t, ht⟩ : ∃ t, selV ln L cn C (p + 1) 0 = t := ⟨_, rfl⟩
  rw [ht]
  go_cut [55] (fun c wx => c = .bool (letterV t) ∧ wx = w1)
  case first =>
    rcases letter_facts t with ⟨f1, f2⟩ | ⟨n, f1, f2, f3⟩
    · have q : decide (0 < t.size) = false := decide_eq_false (by omega)
      have q' : ¬ 0 < t.size := by omega
      have F1 := Lib.hid f1
      clear f1 f2
      go_wp2_with fail
      go_meet
      exact ⟨by rw [F1.out], rfl⟩
    · have q : decide (0 < t.size) = true := decide_eq_true (by omega)
      have F3 := Lib.hid f3
      have f4 := f1 f2
      clear f1 f3
      by_cases k1 : 97 ≤ (n : Int)
      · by_cases k2 : (n : Int) ≤ 122
        · go_wp2_with fail
          go_meet
          exact ⟨by rw [F3.out, show decide (97 ≤ (n : Int)) = true from decide_eq_true (by omega), show decide ((n : Int) ≤ 122) = true from decide_eq_true (by omega), show decide (65 ≤ (n : Int)) = true from decide_eq_true (by omega)]; (try rw [Bool.true_and, Bool.true_or]); (try rfl), rfl⟩
        · go_wp2_with fail
          go_meet
          exact ⟨by rw [F3.out, show decide (97 ≤ (n : Int)) = true from decide_eq_true (by omega), show decide ((n : Int) ≤ 122) = false from decide_eq_false (by omega), show decide (65 ≤ (n : Int)) = true from decide_eq_true (by omega), show decide ((n : Int) ≤ 90) = false from decide_eq_false (by omega)]; (try rw [Bool.true_and, Bool.true_or]); (try rfl), rfl⟩
      · by_cases k3 : 65 ≤ (n : Int)
        · by_cases k4 : (n : Int) ≤ 90
          · go_wp2_with fail
            go_meet
            exact ⟨by rw [F3.out, show decide (97 ≤ (n : Int)) = false from decide_eq_false (by omega), show decide ((n : Int) ≤ 122) = true from decide_eq_true (by omega), show decide (65 ≤ (n : Int)) = true from decide_eq_true (by omega), show decide ((n : Int) ≤ 90) = true from decide_eq_true (by omega)]; (try rw [Bool.true_and, Bool.true_or]); (try rfl), rfl⟩
          · go_wp2_with fail
            go_meet
            exact ⟨by rw [F3.out, show decide (97 ≤ (n : Int)) = false from decide_eq_false (by omega), show decide ((n : Int) ≤ 122) = true from decide_eq_true (by omega), show decide (65 ≤ (n : Int)) = true from decide_eq_true (by omega), show decide ((n : Int) ≤ 90) = false from decide_eq_false (by omega)]; (try rw [Bool.true_and, Bool.true_or]); (try rfl), rfl⟩
        · go_wp2_with fail
          go_meet
          exact ⟨by rw [F3.out, show decide (97 ≤ (n : Int)) = false from decide_eq_false (by omega), show decide ((n : Int) ≤ 122) = true from decide_eq_true (by omega), show decide (65 ≤ (n : Int)) = false from decide_eq_false (by omega), show decide ((n : Int) ≤ 90) = true from decide_eq_true (by omega)]; (try rw [Bool.true_and, Bool.true_or]); (try rfl), rfl⟩
  case rest =>
    obtain ⟨rfl, rfl⟩ := hcut
    rw [← ht, HT.out]
    clear ht
    go_wp2_with (first | (go_at_call 20; (with_reducible refine (ropnd_any hM (Words.none_ w0) (Words.none_ w0) (hI.at0 (by (repeat' (first | (with_reducible exact Below.refl _ _) | (with_reducible assumption) | (with_reducible refine below_drewN ?_ _) | (with_reducible refine Below.alloc ?_ ?_ _) | (with_reducible refine Below.drew ?_) | (with_reducible refine Below.setCell ?_ ?_ _) | go_size)))) _).mono ?_); rw [opndV_2]; (first | rw [HO1.out] | rw [HO.out]); rintro e w1 ⟨rfl, hb⟩; (try clear hc hf hl0); replace hI := hI.step (by (repeat' (first | (with_reducible exact Below.refl _ _) | (with_reducible assumption) | (with_reducible refine below_drewN ?_ _) | (with_reducible refine Below.alloc ?_ ?_ _) | (with_reducible refine Below.drew ?_) | (with_reducible refine Below.setCell ?_ ?_ _) | go_size))) hb; clear hb; have hc := hI.cell; have hf := hI.frozen; have hl0 := hI.lt_ (b := w.heap.size) (by simp only [World.size_alloc, World.size_setCell, World.size_drew, size_drewN]; omega); (try simp only [World.size_alloc, World.size_setCell, World.size_drew, size_drewN] at hc hf)) | (go_at_call 21; (with_reducible refine (is_any hM (hI.at0 (by (repeat' (first | (with_reducible exact Below.refl _ _) | (with_reducible assumption) | (with_reducible refine below_drewN ?_ _) | (with_reducible refine Below.alloc ?_ ?_ _) | (with_reducible refine Below.drew ?_) | (with_reducible refine Below.setCell ?_ ?_ _) | go_size)))) _ _ rfl).mono ?_); rintro e w1 ⟨rfl, hb⟩; (try clear hc hf hl0); replace hI := hI.step (by (repeat' (first | (with_reducible exact Below.refl _ _) | (with_reducible assumption) | (with_reducible refine below_drewN ?_ _) | (with_reducible refine Below.alloc ?_ ?_ _) | (with_reducible refine Below.drew ?_) | (with_reducible refine Below.setCell ?_ ?_ _) | go_size))) hb; clear hb; have hc := hI.cell; have hf := hI.frozen; have hl0 := hI.lt_ (b := w.heap.size) (by simp only [World.size_alloc, World.size_setCell, World.size_drew, size_drewN]; omega); (try simp only [World.size_alloc, World.size_setCell, World.size_drew, size_drewN] at hc hf)) | (go_at_call 22; (with_reducible refine (send_any hM (hI.at0 (by (repeat' (first | (with_reducible exact Below.refl _ _) | (with_reducible assumption) | (with_reducible refine below_drewN ?_ _) | (with_reducible refine Below.alloc ?_ ?_ _) | (with_reducible refine Below.drew ?_) | (with_reducible refine Below.setCell ?_ ?_ _) | go_size)))) _ _).mono ?_); rintro e w1 ⟨rfl, hb⟩; (try clear hc hf hl0); replace hI := hI.step (by (repeat' (first | (with_reducible exact Below.refl _ _) | (with_reducible assumption) | (with_reducible refine below_drewN ?_ _) | (with_reducible refine Below.alloc ?_ ?_ _) | (with_reducible refine Below.drew ?_) | (with_reducible refine Below.setCell ?_ ?_ _) | go_size))) hb; clear hb; have hc := hI.cell; have hf := hI.frozen; have hl0 := hI.lt_ (b := w.heap.size) (by simp only [World.size_alloc, World.size_setCell, World.size_drew, size_drewN]; omega); (try simp only [World.size_alloc, World.size_setCell, World.size_drew, size_drewN] at hc hf)))
    go_ret2
    refine ⟨by rw [F.out]; rfl, ?_⟩
    (have hS := hI.bw; (repeat' (first | (with_reducible exact Below.refl _ _) | (with_reducible assumption) | (with_reducible refine below_drewN ?_ _) | (with_reducible refine Below.alloc ?_ ?_ _) | (with_reducible refine Below.drew ?_) | (with_reducible refine Below.setCell ?_ ?_ _) | go_size)))

set_option maxRecDepth 100000 in
set_option maxHeartbeats 2000000 in
theorem rstroke_else_a (hM : IsM w0 LA ln CA cn L C) (hB : Below w0.heap.size w0 w) (p : Int) (h0 : -1 ≤ p) (h1 : p ≤ 1000) (O : isOp ln L cn C p = true) (g1 : ((insAt cn C (p + 1)).op == 10) = false) (T : letterV (selV ln L cn C (p + 1) 0) = false) (O1 : isOp ln L cn C (p + 1) = true) (g3 : ((selV ln L cn C (p + 2) 1).toList == [43]) = false) (g4 : ((selV ln L cn C (p + 2) 1).toList == [45]) = false) (g5 : ((selV ln L cn C (p + 2) 1).toList == [42]) = false) (g6 : ((selV ln L cn C (p + 2) 1).toList == [60]) = false) (g7 : ((selV ln L cn C (p + 2) 1).toList == [61]) = false) :
    Calls Try.prog 12 #[.agg #[.string s, .int .i64 x0, .int .i64 x1, .int .i64 x2, .slice LA ln lc, .slice CA cn cc], .int .i64 p] w fun e w' => e = .returned (.tuple #[.int .i64 (strokeV ln L cn C p).1, .int .i64 (strokeV ln L cn C p).2.2]) ∧ Below w.heap.size w w' := by
  have F : Hid (strokeV ln L cn C p = (0, 0, 0)) := by show strokeV ln L cn C p = _; simp [strokeV, strokeS, O, g1, T, O1, g3, g4, g5, g6, g7]
  have hI : Inv w0 w (w.alloc (.cells #[.string s, .int .i64 x0, .int .i64 x1, .int .i64 x2, .slice LA ln lc, .slice CA cn cc] 25)) (w.alloc (.cells #[.string s, .int .i64 x0, .int .i64 x1, .int .i64 x2, .slice LA ln lc, .slice CA cn cc] 25)) := Inv.start hB (by (repeat' (first | (with_reducible exact Below.refl _ _) | (with_reducible assumption) | (with_reducible refine below_drewN ?_ _) | (with_reducible refine Below.alloc ?_ ?_ _) | (with_reducible refine Below.drew ?_) | (with_reducible refine Below.setCell ?_ ?_ _) | go_size)))
  have HO := Lib.hid O
  clear O
  have HT := Lib.hid T
  clear T
  have HO1 := Lib.hid O1
  clear O1
  clear hB
  go_enter Try.func12, Try.ntmps12
  go_upto_region 7 with (first | (go_at_call 20; (with_reducible refine (ropnd_any hM (Words.none_ w0) (Words.none_ w0) (hI.at0 (by (repeat' (first | (with_reducible exact Below.refl _ _) | (with_reducible assumption) | (with_reducible refine below_drewN ?_ _) | (with_reducible refine Below.alloc ?_ ?_ _) | (with_reducible refine Below.drew ?_) | (with_reducible refine Below.setCell ?_ ?_ _) | go_size)))) _).mono ?_); rw [opndV_2]; (first | rw [HO1.out] | rw [HO.out]); rintro e w1 ⟨rfl, hb⟩; (try clear hc hf hl0); replace hI := hI.step (by (repeat' (first | (with_reducible exact Below.refl _ _) | (with_reducible assumption) | (with_reducible refine below_drewN ?_ _) | (with_reducible refine Below.alloc ?_ ?_ _) | (with_reducible refine Below.drew ?_) | (with_reducible refine Below.setCell ?_ ?_ _) | go_size))) hb; clear hb; have hc := hI.cell; have hf := hI.frozen; have hl0 := hI.lt_ (b := w.heap.size) (by simp only [World.size_alloc, World.size_setCell, World.size_drew, size_drewN]; omega); (try simp only [World.size_alloc, World.size_setCell, World.size_drew, size_drewN] at hc hf)) | (go_at_call 21; (with_reducible refine (is_any hM (hI.at0 (by (repeat' (first | (with_reducible exact Below.refl _ _) | (with_reducible assumption) | (with_reducible refine below_drewN ?_ _) | (with_reducible refine Below.alloc ?_ ?_ _) | (with_reducible refine Below.drew ?_) | (with_reducible refine Below.setCell ?_ ?_ _) | go_size)))) _ _ rfl).mono ?_); rintro e w1 ⟨rfl, hb⟩; (try clear hc hf hl0); replace hI := hI.step (by (repeat' (first | (with_reducible exact Below.refl _ _) | (with_reducible assumption) | (with_reducible refine below_drewN ?_ _) | (with_reducible refine Below.alloc ?_ ?_ _) | (with_reducible refine Below.drew ?_) | (with_reducible refine Below.setCell ?_ ?_ _) | go_size))) hb; clear hb; have hc := hI.cell; have hf := hI.frozen; have hl0 := hI.lt_ (b := w.heap.size) (by simp only [World.size_alloc, World.size_setCell, World.size_drew, size_drewN]; omega); (try simp only [World.size_alloc, World.size_setCell, World.size_drew, size_drewN] at hc hf)) | (go_at_call 22; (with_reducible refine (send_any hM (hI.at0 (by (repeat' (first | (with_reducible exact Below.refl _ _) | (with_reducible assumption) | (with_reducible refine below_drewN ?_ _) | (with_reducible refine Below.alloc ?_ ?_ _) | (with_reducible refine Below.drew ?_) | (with_reducible refine Below.setCell ?_ ?_ _) | go_size)))) _ _).mono ?_); rintro e w1 ⟨rfl, hb⟩; (try clear hc hf hl0); replace hI := hI.step (by (repeat' (first | (with_reducible exact Below.refl _ _) | (with_reducible assumption) | (with_reducible refine below_drewN ?_ _) | (with_reducible refine Below.alloc ?_ ?_ _) | (with_reducible refine Below.drew ?_) | (with_reducible refine Below.setCell ?_ ?_ _) | go_size))) hb; clear hb; have hc := hI.cell; have hf := hI.frozen; have hl0 := hI.lt_ (b := w.heap.size) (by simp only [World.size_alloc, World.size_setCell, World.size_drew, size_drewN]; omega); (try simp only [World.size_alloc, World.size_setCell, World.size_drew, size_drewN] at hc hf)))
  obtain ⟨t, ht⟩ : ∃ t, selV ln L cn C (p + 1) 0 = t := ⟨_, rfl⟩
  rw [ht]
  go_cut [55] (fun c wx => c = .bool (letterV t) ∧ wx = w1)
  case first =>
    rcases letter_facts t with ⟨f1, f2⟩ | ⟨n, f1, f2, f3⟩
    · have q : decide (0 < t.size) = false := decide_eq_false (by omega)
      have q' : ¬ 0 < t.size := by omega
      have F1 := Lib.hid f1
      clear f1 f2
      go_wp2_with fail
      go_meet
      exact ⟨by rw [F1.out], rfl⟩
    · have q : decide (0 < t.size) = true := decide_eq_true (by omega)
      have F3 := Lib.hid f3
      have f4 := f1 f2
      clear f1 f3
      by_cases k1 : 97 ≤ (n : Int)
      · by_cases k2 : (n : Int) ≤ 122
        · go_wp2_with fail
          go_meet
          exact ⟨by rw [F3.out, show decide (97 ≤ (n : Int)) = true from decide_eq_true (by omega), show decide ((n : Int) ≤ 122) = true from decide_eq_true (by omega), show decide (65 ≤ (n : Int)) = true from decide_eq_true (by omega)]; (try rw [Bool.true_and, Bool.true_or]); (try rfl), rfl⟩
        · go_wp2_with fail
          go_meet
          exact ⟨by rw [F3.out, show decide (97 ≤ (n : Int)) = true from decide_eq_true (by omega), show decide ((n : Int) ≤ 122) = false from decide_eq_false (by omega), show decide (65 ≤ (n : Int)) = true from decide_eq_true (by omega), show decide ((n : Int) ≤ 90) = false from decide_eq_false (by omega)]; (try rw [Bool.true_and, Bool.true_or]); (try rfl), rfl⟩
      · by_cases k3 : 65 ≤ (n : Int)
        · by_cases k4 : (n : Int) ≤ 90
          · go_wp2_with fail
            go_meet
            exact ⟨by rw [F3.out, show decide (97 ≤ (n : Int)) = false from decide_eq_false (by omega), show decide ((n : Int) ≤ 122) = true from decide_eq_true (by omega), show decide (65 ≤ (n : Int)) = true from decide_eq_true (by omega), show decide ((n : Int) ≤ 90) = true from decide_eq_true (by omega)]; (try rw [Bool.true_and, Bool.true_or]); (try rfl), rfl⟩
          · go_wp2_with fail
            go_meet
            exact ⟨by rw [F3.out, show decide (97 ≤ (n : Int)) = false from decide_eq_false (by omega), show decide ((n : Int) ≤ 122) = true from decide_eq_true (by omega), show decide (65 ≤ (n : Int)) = true from decide_eq_true (by omega), show decide ((n : Int) ≤ 90) = false from decide_eq_false (by omega)]; (try rw [Bool.true_and, Bool.true_or]); (try rfl), rfl⟩
        · go_wp2_with fail
          go_meet
          exact ⟨by rw [F3.out, show decide (97 ≤ (n : Int)) = false from decide_eq_false (by omega), show decide ((n : Int) ≤ 122) = true from decide_eq_true (by omega), show decide (65 ≤ (n : Int)) = false from decide_eq_false (by omega), show decide ((n : Int) ≤ 90) = true from decide_eq_true (by omega)]; (try rw [Bool.true_and, Bool.true_or]); (try rfl), rfl⟩
  case rest =>
    obtain ⟨rfl, rfl⟩ := hcut
    rw [← ht, HT.out]
    clear ht
    go_wp2_with (first | (go_at_call 20; (with_reducible refine (ropnd_any hM (Words.none_ w0) (Words.none_ w0) (hI.at0 (by (repeat' (first | (with_reducible exact Below.refl _ _) | (with_reducible assumption) | (with_reducible refine below_drewN ?_ _) | (with_reducible refine Below.alloc ?_ ?_ _) | (with_reducible refine Below.drew ?_) | (with_reducible refine Below.setCell ?_ ?_ _) | go_size)))) _).mono ?_); rw [opndV_2]; (first | rw [HO1.out] | rw [HO.out]); rintro e w1 ⟨rfl, hb⟩; (try clear hc hf hl0); replace hI := hI.step (by (repeat' (first | (with_reducible exact Below.refl _ _) | (with_reducible assumption) | (with_reducible refine below_drewN ?_ _) | (with_reducible refine Below.alloc ?_ ?_ _) | (with_reducible refine Below.drew ?_) | (with_reducible refine Below.setCell ?_ ?_ _) | go_size))) hb; clear hb; have hc := hI.cell; have hf := hI.frozen; have hl0 := hI.lt_ (b := w.heap.size) (by simp only [World.size_alloc, World.size_setCell, World.size_drew, size_drewN]; omega); (try simp only [World.size_alloc, World.size_setCell, World.size_drew, size_drewN] at hc hf)) | (go_at_call 21; (with_reducible refine (is_any hM (hI.at0 (by (repeat' (first | (with_reducible exact Below.refl _ _) | (with_reducible assumption) | (with_reducible refine below_drewN ?_ _) | (with_reducible refine Below.alloc ?_ ?_ _) | (with_reducible refine Below.drew ?_) | (with_reducible refine Below.setCell ?_ ?_ _) | go_size)))) _ _ rfl).mono ?_); rintro e w1 ⟨rfl, hb⟩; (try clear hc hf hl0); replace hI := hI.step (by (repeat' (first | (with_reducible exact Below.refl _ _) | (with_reducible assumption) | (with_reducible refine below_drewN ?_ _) | (with_reducible refine Below.alloc ?_ ?_ _) | (with_reducible refine Below.drew ?_) | (with_reducible refine Below.setCell ?_ ?_ _) | go_size))) hb; clear hb; have hc := hI.cell; have hf := hI.frozen; have hl0 := hI.lt_ (b := w.heap.size) (by simp only [World.size_alloc, World.size_setCell, World.size_drew, size_drewN]; omega); (try simp only [World.size_alloc, World.size_setCell, World.size_drew, size_drewN] at hc hf)) | (go_at_call 22; (with_reducible refine (send_any hM (hI.at0 (by (repeat' (first | (with_reducible exact Below.refl _ _) | (with_reducible assumption) | (with_reducible refine below_drewN ?_ _) | (with_reducible refine Below.alloc ?_ ?_ _) | (with_reducible refine Below.drew ?_) | (with_reducible refine Below.setCell ?_ ?_ _) | go_size)))) _ _).mono ?_); rintro e w1 ⟨rfl, hb⟩; (try clear hc hf hl0); replace hI := hI.step (by (repeat' (first | (with_reducible exact Below.refl _ _) | (with_reducible assumption) | (with_reducible refine below_drewN ?_ _) | (with_reducible refine Below.alloc ?_ ?_ _) | (with_reducible refine Below.drew ?_) | (with_reducible refine Below.setCell ?_ ?_ _) | go_size))) hb; clear hb; have hc := hI.cell; have hf := hI.frozen; have hl0 := hI.lt_ (b := w.heap.size) (by simp only [World.size_alloc, World.size_setCell, World.size_drew, size_drewN]; omega); (try simp only [World.size_alloc, World.size_setCell, World.size_drew, size_drewN] at hc hf)))
    go_ret2
    refine ⟨by rw [F.out]; rfl, ?_⟩
    (have hS := hI.bw; (repeat' (first | (with_reducible exact Below.refl _ _) | (with_reducible assumption) | (with_reducible refine below_drewN ?_ _) | (with_reducible refine Below.alloc ?_ ?_ _) | (with_reducible refine Below.drew ?_) | (with_reducible refine Below.setCell ?_ ?_ _) | go_size)))

set_option maxRecDepth 100000 in
set_option maxHeartbeats 2000000 in
theorem rstroke_ask_b (hM : IsM w0 LA ln CA cn L C) (hB : Below w0.heap.size w0 w) (p : Int) (h0 : -1 ≤ p) (h1 : p ≤ 1000) (O : isOp ln L cn C p = true) (g1 : ((insAt cn C (p + 1)).op == 10) = true) (g2 : ((insAt cn C (p + 2)).op == 12) = false) (T : letterV (selV ln L cn C (p + 1) 0) = true) :
    Calls Try.prog 12 #[.agg #[.string s, .int .i64 x0, .int .i64 x1, .int .i64 x2, .slice LA ln lc, .slice CA cn cc], .int .i64 p] w fun e w' => e = .returned (.tuple #[.int .i64 (strokeV ln L cn C p).1, .int .i64 (strokeV ln L cn C p).2.2]) ∧ Below w.heap.size w w' := by
  have F : Hid (strokeV ln L cn C p = (5, p, 2)) := by show strokeV ln L cn C p = _; simp [strokeV, strokeS, O, g1, g2, T]
  have hI : Inv w0 w (w.alloc (.cells #[.string s, .int .i64 x0, .int .i64 x1, .int .i64 x2, .slice LA ln lc, .slice CA cn cc] 25)) (w.alloc (.cells #[.string s, .int .i64 x0, .int .i64 x1, .int .i64 x2, .slice LA ln lc, .slice CA cn cc] 25)) := Inv.start hB (by (repeat' (first | (with_reducible exact Below.refl _ _) | (with_reducible assumption) | (with_reducible refine below_drewN ?_ _) | (with_reducible refine Below.alloc ?_ ?_ _) | (with_reducible refine Below.drew ?_) | (with_reducible refine Below.setCell ?_ ?_ _) | go_size)))
  have HO := Lib.hid O
  clear O
  have HT := Lib.hid T
  clear T
  clear hB
  go_enter Try.func12, Try.ntmps12
  go_upto_region 7 with (first | (go_at_call 20; (with_reducible refine (ropnd_any hM (Words.none_ w0) (Words.none_ w0) (hI.at0 (by (repeat' (first | (with_reducible exact Below.refl _ _) | (with_reducible assumption) | (with_reducible refine below_drewN ?_ _) | (with_reducible refine Below.alloc ?_ ?_ _) | (with_reducible refine Below.drew ?_) | (with_reducible refine Below.setCell ?_ ?_ _) | go_size)))) _).mono ?_); rw [opndV_2, HO.out]; rintro e w1 ⟨rfl, hb⟩; (try clear hc hf hl0); replace hI := hI.step (by (repeat' (first | (with_reducible exact Below.refl _ _) | (with_reducible assumption) | (with_reducible refine below_drewN ?_ _) | (with_reducible refine Below.alloc ?_ ?_ _) | (with_reducible refine Below.drew ?_) | (with_reducible refine Below.setCell ?_ ?_ _) | go_size))) hb; clear hb; have hc := hI.cell; have hf := hI.frozen; have hl0 := hI.lt_ (b := w.heap.size) (by simp only [World.size_alloc, World.size_setCell, World.size_drew, size_drewN]; omega); (try simp only [World.size_alloc, World.size_setCell, World.size_drew, size_drewN] at hc hf)) | (go_at_call 21; (with_reducible refine (is_any hM (hI.at0 (by (repeat' (first | (with_reducible exact Below.refl _ _) | (with_reducible assumption) | (with_reducible refine below_drewN ?_ _) | (with_reducible refine Below.alloc ?_ ?_ _) | (with_reducible refine Below.drew ?_) | (with_reducible refine Below.setCell ?_ ?_ _) | go_size)))) _ _ rfl).mono ?_); rintro e w1 ⟨rfl, hb⟩; (try clear hc hf hl0); replace hI := hI.step (by (repeat' (first | (with_reducible exact Below.refl _ _) | (with_reducible assumption) | (with_reducible refine below_drewN ?_ _) | (with_reducible refine Below.alloc ?_ ?_ _) | (with_reducible refine Below.drew ?_) | (with_reducible refine Below.setCell ?_ ?_ _) | go_size))) hb; clear hb; have hc := hI.cell; have hf := hI.frozen; have hl0 := hI.lt_ (b := w.heap.size) (by simp only [World.size_alloc, World.size_setCell, World.size_drew, size_drewN]; omega); (try simp only [World.size_alloc, World.size_setCell, World.size_drew, size_drewN] at hc hf)) | (go_at_call 22; (with_reducible refine (send_any hM (hI.at0 (by (repeat' (first | (with_reducible exact Below.refl _ _) | (with_reducible assumption) | (with_reducible refine below_drewN ?_ _) | (with_reducible refine Below.alloc ?_ ?_ _) | (with_reducible refine Below.drew ?_) | (with_reducible refine Below.setCell ?_ ?_ _) | go_size)))) _ _).mono ?_); rintro e w1 ⟨rfl, hb⟩; (try clear hc hf hl0); replace hI := hI.step (by (repeat' (first | (with_reducible exact Below.refl _ _) | (with_reducible assumption) | (with_reducible refine below_drewN ?_ _) | (with_reducible refine Below.alloc ?_ ?_ _) | (with_reducible refine Below.drew ?_) | (with_reducible refine Below.setCell ?_ ?_ _) | go_size))) hb; clear hb; have hc := hI.cell; have hf := hI.frozen; have hl0 := hI.lt_ (b := w.heap.size) (by simp only [World.size_alloc, World.size_setCell, World.size_drew, size_drewN]; omega); (try simp only [World.size_alloc, World.size_setCell, World.size_drew, size_drewN] at hc hf)))
  obtain ⟨t, ht⟩ : ∃ t, selV ln L cn C (p + 1) 0 = t := ⟨_, rfl⟩
  rw [ht]
  go_cut [55] (fun c wx => c = .bool (letterV t) ∧ wx = w1)
  case first =>
    rcases letter_facts t with ⟨f1, f2⟩ | ⟨n, f1, f2, f3⟩
    · have q : decide (0 < t.size) = false := decide_eq_false (by omega)
      have q' : ¬ 0 < t.size := by omega
      have F1 := Lib.hid f1
      clear f1 f2
      go_wp2_with fail
      go_meet
      exact ⟨by rw [F1.out], rfl⟩
    · have q : decide (0 < t.size) = true := decide_eq_true (by omega)
      have F3 := Lib.hid f3
      have f4 := f1 f2
      clear f1 f3
      by_cases k1 : 97 ≤ (n : Int)
      · by_cases k2 : (n : Int) ≤ 122
        · go_wp2_with fail
          go_meet
          exact ⟨by rw [F3.out, show decide (97 ≤ (n : Int)) = true from decide_eq_true (by omega), show decide ((n : Int) ≤ 122) = true from decide_eq_true (by omega), show decide (65 ≤ (n : Int)) = true from decide_eq_true (by omega)]; (try rw [Bool.true_and, Bool.true_or]); (try rfl), rfl⟩
        · go_wp2_with fail
          go_meet
          exact ⟨by rw [F3.out, show decide (97 ≤ (n : Int)) = true from decide_eq_true (by omega), show decide ((n : Int) ≤ 122) = false from decide_eq_false (by omega), show decide (65 ≤ (n : Int)) = true from decide_eq_true (by omega), show decide ((n : Int) ≤ 90) = false from decide_eq_false (by omega)]; (try rw [Bool.true_and, Bool.true_or]); (try rfl), rfl⟩
      · by_cases k3 : 65 ≤ (n : Int)
        · by_cases k4 : (n : Int) ≤ 90
          · go_wp2_with fail
            go_meet
            exact ⟨by rw [F3.out, show decide (97 ≤ (n : Int)) = false from decide_eq_false (by omega), show decide ((n : Int) ≤ 122) = true from decide_eq_true (by omega), show decide (65 ≤ (n : Int)) = true from decide_eq_true (by omega), show decide ((n : Int) ≤ 90) = true from decide_eq_true (by omega)]; (try rw [Bool.true_and, Bool.true_or]); (try rfl), rfl⟩
          · go_wp2_with fail
            go_meet
            exact ⟨by rw [F3.out, show decide (97 ≤ (n : Int)) = false from decide_eq_false (by omega), show decide ((n : Int) ≤ 122) = true from decide_eq_true (by omega), show decide (65 ≤ (n : Int)) = true from decide_eq_true (by omega), show decide ((n : Int) ≤ 90) = false from decide_eq_false (by omega)]; (try rw [Bool.true_and, Bool.true_or]); (try rfl), rfl⟩
        · go_wp2_with fail
          go_meet
          exact ⟨by rw [F3.out, show decide (97 ≤ (n : Int)) = false from decide_eq_false (by omega), show decide ((n : Int) ≤ 122) = true from decide_eq_true (by omega), show decide (65 ≤ (n : Int)) = false from decide_eq_false (by omega), show decide ((n : Int) ≤ 90) = true from decide_eq_true (by omega)]; (try rw [Bool.true_and, Bool.true_or]); (try rfl), rfl⟩
  case rest =>
    obtain ⟨rfl, rfl⟩ := hcut
    rw [← ht, HT.out]
    clear ht
    go_wp2_with (first | (go_at_call 20; (with_reducible refine (ropnd_any hM (Words.none_ w0) (Words.none_ w0) (hI.at0 (by (repeat' (first | (with_reducible exact Below.refl _ _) | (with_reducible assumption) | (with_reducible refine below_drewN ?_ _) | (with_reducible refine Below.alloc ?_ ?_ _) | (with_reducible refine Below.drew ?_) | (with_reducible refine Below.setCell ?_ ?_ _) | go_size)))) _).mono ?_); rw [opndV_2, HO.out]; rintro e w1 ⟨rfl, hb⟩; (try clear hc hf hl0); replace hI := hI.step (by (repeat' (first | (with_reducible exact Below.refl _ _) | (with_reducible assumption) | (with_reducible refine below_drewN ?_ _) | (with_reducible refine Below.alloc ?_ ?_ _) | (with_reducible refine Below.drew ?_) | (with_reducible refine Below.setCell ?_ ?_ _) | go_size))) hb; clear hb; have hc := hI.cell; have hf := hI.frozen; have hl0 := hI.lt_ (b := w.heap.size) (by simp only [World.size_alloc, World.size_setCell, World.size_drew, size_drewN]; omega); (try simp only [World.size_alloc, World.size_setCell, World.size_drew, size_drewN] at hc hf)) | (go_at_call 21; (with_reducible refine (is_any hM (hI.at0 (by (repeat' (first | (with_reducible exact Below.refl _ _) | (with_reducible assumption) | (with_reducible refine below_drewN ?_ _) | (with_reducible refine Below.alloc ?_ ?_ _) | (with_reducible refine Below.drew ?_) | (with_reducible refine Below.setCell ?_ ?_ _) | go_size)))) _ _ rfl).mono ?_); rintro e w1 ⟨rfl, hb⟩; (try clear hc hf hl0); replace hI := hI.step (by (repeat' (first | (with_reducible exact Below.refl _ _) | (with_reducible assumption) | (with_reducible refine below_drewN ?_ _) | (with_reducible refine Below.alloc ?_ ?_ _) | (with_reducible refine Below.drew ?_) | (with_reducible refine Below.setCell ?_ ?_ _) | go_size))) hb; clear hb; have hc := hI.cell; have hf := hI.frozen; have hl0 := hI.lt_ (b := w.heap.size) (by simp only [World.size_alloc, World.size_setCell, World.size_drew, size_drewN]; omega); (try simp only [World.size_alloc, World.size_setCell, World.size_drew, size_drewN] at hc hf)) | (go_at_call 22; (with_reducible refine (send_any hM (hI.at0 (by (repeat' (first | (with_reducible exact Below.refl _ _) | (with_reducible assumption) | (with_reducible refine below_drewN ?_ _) | (with_reducible refine Below.alloc ?_ ?_ _) | (with_reducible refine Below.drew ?_) | (with_reducible refine Below.setCell ?_ ?_ _) | go_size)))) _ _).mono ?_); rintro e w1 ⟨rfl, hb⟩; (try clear hc hf hl0); replace hI := hI.step (by (repeat' (first | (with_reducible exact Below.refl _ _) | (with_reducible assumption) | (with_reducible refine below_drewN ?_ _) | (with_reducible refine Below.alloc ?_ ?_ _) | (with_reducible refine Below.drew ?_) | (with_reducible refine Below.setCell ?_ ?_ _) | go_size))) hb; clear hb; have hc := hI.cell; have hf := hI.frozen; have hl0 := hI.lt_ (b := w.heap.size) (by simp only [World.size_alloc, World.size_setCell, World.size_drew, size_drewN]; omega); (try simp only [World.size_alloc, World.size_setCell, World.size_drew, size_drewN] at hc hf)))
    go_ret2
    refine ⟨by rw [F.out]; rfl, ?_⟩
    (have hS := hI.bw; (repeat' (first | (with_reducible exact Below.refl _ _) | (with_reducible assumption) | (with_reducible refine below_drewN ?_ _) | (with_reducible refine Below.alloc ?_ ?_ _) | (with_reducible refine Below.drew ?_) | (with_reducible refine Below.setCell ?_ ?_ _) | go_size)))

set_option maxRecDepth 100000 in
set_option maxHeartbeats 2000000 in
theorem rstroke_one_b (hM : IsM w0 LA ln CA cn L C) (hB : Below w0.heap.size w0 w) (p : Int) (h0 : -1 ≤ p) (h1 : p ≤ 1000) (O : isOp ln L cn C p = true) (g1 : ((insAt cn C (p + 1)).op == 10) = true) (g2 : ((insAt cn C (p + 2)).op == 12) = false) (T : letterV (selV ln L cn C (p + 1) 0) = false) (O1 : isOp ln L cn C (p + 1) = false) :
    Calls Try.prog 12 #[.agg #[.string s, .int .i64 x0, .int .i64 x1, .int .i64 x2, .slice LA ln lc, .slice CA cn cc], .int .i64 p] w fun e w' => e = .returned (.tuple #[.int .i64 (strokeV ln L cn C p).1, .int .i64 (strokeV ln L cn C p).2.2]) ∧ Below w.heap.size w w' := by
  have F : Hid (strokeV ln L cn C p = (0, 0, 0)) := by show strokeV ln L cn C p = _; simp [strokeV, strokeS, O, g1, g2, T, O1]
  have hI : Inv w0 w (w.alloc (.cells #[.string s, .int .i64 x0, .int .i64 x1, .int .i64 x2, .slice LA ln lc, .slice CA cn cc] 25)) (w.alloc (.cells #[.string s, .int .i64 x0, .int .i64 x1, .int .i64 x2, .slice LA ln lc, .slice CA cn cc] 25)) := Inv.start hB (by (repeat' (first | (with_reducible exact Below.refl _ _) | (with_reducible assumption) | (with_reducible refine below_drewN ?_ _) | (with_reducible refine Below.alloc ?_ ?_ _) | (with_reducible refine Below.drew ?_) | (with_reducible refine Below.setCell ?_ ?_ _) | go_size)))
  have HO := Lib.hid O
  clear O
  have HT := Lib.hid T
  clear T
  have HO1 := Lib.hid O1
  clear O1
  clear hB
  go_enter Try.func12, Try.ntmps12
  go_upto_region 7 with (first | (go_at_call 20; (with_reducible refine (ropnd_any hM (Words.none_ w0) (Words.none_ w0) (hI.at0 (by (repeat' (first | (with_reducible exact Below.refl _ _) | (with_reducible assumption) | (with_reducible refine below_drewN ?_ _) | (with_reducible refine Below.alloc ?_ ?_ _) | (with_reducible refine Below.drew ?_) | (with_reducible refine Below.setCell ?_ ?_ _) | go_size)))) _).mono ?_); rw [opndV_2]; (first | rw [HO1.out] | rw [HO.out]); rintro e w1 ⟨rfl, hb⟩; (try clear hc hf hl0); replace hI := hI.step (by (repeat' (first | (with_reducible exact Below.refl _ _) | (with_reducible assumption) | (with_reducible refine below_drewN ?_ _) | (with_reducible refine Below.alloc ?_ ?_ _) | (with_reducible refine Below.drew ?_) | (with_reducible refine Below.setCell ?_ ?_ _) | go_size))) hb; clear hb; have hc := hI.cell; have hf := hI.frozen; have hl0 := hI.lt_ (b := w.heap.size) (by simp only [World.size_alloc, World.size_setCell, World.size_drew, size_drewN]; omega); (try simp only [World.size_alloc, World.size_setCell, World.size_drew, size_drewN] at hc hf)) | (go_at_call 21; (with_reducible refine (is_any hM (hI.at0 (by (repeat' (first | (with_reducible exact Below.refl _ _) | (with_reducible assumption) | (with_reducible refine below_drewN ?_ _) | (with_reducible refine Below.alloc ?_ ?_ _) | (with_reducible refine Below.drew ?_) | (with_reducible refine Below.setCell ?_ ?_ _) | go_size)))) _ _ rfl).mono ?_); rintro e w1 ⟨rfl, hb⟩; (try clear hc hf hl0); replace hI := hI.step (by (repeat' (first | (with_reducible exact Below.refl _ _) | (with_reducible assumption) | (with_reducible refine below_drewN ?_ _) | (with_reducible refine Below.alloc ?_ ?_ _) | (with_reducible refine Below.drew ?_) | (with_reducible refine Below.setCell ?_ ?_ _) | go_size))) hb; clear hb; have hc := hI.cell; have hf := hI.frozen; have hl0 := hI.lt_ (b := w.heap.size) (by simp only [World.size_alloc, World.size_setCell, World.size_drew, size_drewN]; omega); (try simp only [World.size_alloc, World.size_setCell, World.size_drew, size_drewN] at hc hf)) | (go_at_call 22; (with_reducible refine (send_any hM (hI.at0 (by (repeat' (first | (with_reducible exact Below.refl _ _) | (with_reducible assumption) | (with_reducible refine below_drewN ?_ _) | (with_reducible refine Below.alloc ?_ ?_ _) | (with_reducible refine Below.drew ?_) | (with_reducible refine Below.setCell ?_ ?_ _) | go_size)))) _ _).mono ?_); rintro e w1 ⟨rfl, hb⟩; (try clear hc hf hl0); replace hI := hI.step (by (repeat' (first | (with_reducible exact Below.refl _ _) | (with_reducible assumption) | (with_reducible refine below_drewN ?_ _) | (with_reducible refine Below.alloc ?_ ?_ _) | (with_reducible refine Below.drew ?_) | (with_reducible refine Below.setCell ?_ ?_ _) | go_size))) hb; clear hb; have hc := hI.cell; have hf := hI.frozen; have hl0 := hI.lt_ (b := w.heap.size) (by simp only [World.size_alloc, World.size_setCell, World.size_drew, size_drewN]; omega); (try simp only [World.size_alloc, World.size_setCell, World.size_drew, size_drewN] at hc hf)))
  obtain ⟨t, ht⟩ : ∃ t, selV ln L cn C (p + 1) 0 = t := ⟨_, rfl⟩
  rw [ht]
  go_cut [55] (fun c wx => c = .bool (letterV t) ∧ wx = w1)
  case first =>
    rcases letter_facts t with ⟨f1, f2⟩ | ⟨n, f1, f2, f3⟩
    · have q : decide (0 < t.size) = false := decide_eq_false (by omega)
      have q' : ¬ 0 < t.size := by omega
      have F1 := Lib.hid f1
      clear f1 f2
      go_wp2_with fail
      go_meet
      exact ⟨by rw [F1.out], rfl⟩
    · have q : decide (0 < t.size) = true := decide_eq_true (by omega)
      have F3 := Lib.hid f3
      have f4 := f1 f2
      clear f1 f3
      by_cases k1 : 97 ≤ (n : Int)
      · by_cases k2 : (n : Int) ≤ 122
        · go_wp2_with fail
          go_meet
          exact ⟨by rw [F3.out, show decide (97 ≤ (n : Int)) = true from decide_eq_true (by omega), show decide ((n : Int) ≤ 122) = true from decide_eq_true (by omega), show decide (65 ≤ (n : Int)) = true from decide_eq_true (by omega)]; (try rw [Bool.true_and, Bool.true_or]); (try rfl), rfl⟩
        · go_wp2_with fail
          go_meet
          exact ⟨by rw [F3.out, show decide (97 ≤ (n : Int)) = true from decide_eq_true (by omega), show decide ((n : Int) ≤ 122) = false from decide_eq_false (by omega), show decide (65 ≤ (n : Int)) = true from decide_eq_true (by omega), show decide ((n : Int) ≤ 90) = false from decide_eq_false (by omega)]; (try rw [Bool.true_and, Bool.true_or]); (try rfl), rfl⟩
      · by_cases k3 : 65 ≤ (n : Int)
        · by_cases k4 : (n : Int) ≤ 90
          · go_wp2_with fail
            go_meet
            exact ⟨by rw [F3.out, show decide (97 ≤ (n : Int)) = false from decide_eq_false (by omega), show decide ((n : Int) ≤ 122) = true from decide_eq_true (by omega), show decide (65 ≤ (n : Int)) = true from decide_eq_true (by omega), show decide ((n : Int) ≤ 90) = true from decide_eq_true (by omega)]; (try rw [Bool.true_and, Bool.true_or]); (try rfl), rfl⟩
          · go_wp2_with fail
            go_meet
            exact ⟨by rw [F3.out, show decide (97 ≤ (n : Int)) = false from decide_eq_false (by omega), show decide ((n : Int) ≤ 122) = true from decide_eq_true (by omega), show decide (65 ≤ (n : Int)) = true from decide_eq_true (by omega), show decide ((n : Int) ≤ 90) = false from decide_eq_false (by omega)]; (try rw [Bool.true_and, Bool.true_or]); (try rfl), rfl⟩
        · go_wp2_with fail
          go_meet
          exact ⟨by rw [F3.out, show decide (97 ≤ (n : Int)) = false from decide_eq_false (by omega), show decide ((n : Int) ≤ 122) = true from decide_eq_true (by omega), show decide (65 ≤ (n : Int)) = false from decide_eq_false (by omega), show decide ((n : Int) ≤ 90) = true from decide_eq_true (by omega)]; (try rw [Bool.true_and, Bool.true_or]); (try rfl), rfl⟩
  case rest =>
    obtain ⟨rfl, rfl⟩ := hcut
    rw [← ht, HT.out]
    clear ht
    go_wp2_with (first | (go_at_call 20; (with_reducible refine (ropnd_any hM (Words.none_ w0) (Words.none_ w0) (hI.at0 (by (repeat' (first | (with_reducible exact Below.refl _ _) | (with_reducible assumption) | (with_reducible refine below_drewN ?_ _) | (with_reducible refine Below.alloc ?_ ?_ _) | (with_reducible refine Below.drew ?_) | (with_reducible refine Below.setCell ?_ ?_ _) | go_size)))) _).mono ?_); rw [opndV_2]; (first | rw [HO1.out] | rw [HO.out]); rintro e w1 ⟨rfl, hb⟩; (try clear hc hf hl0); replace hI := hI.step (by (repeat' (first | (with_reducible exact Below.refl _ _) | (with_reducible assumption) | (with_reducible refine below_drewN ?_ _) | (with_reducible refine Below.alloc ?_ ?_ _) | (with_reducible refine Below.drew ?_) | (with_reducible refine Below.setCell ?_ ?_ _) | go_size))) hb; clear hb; have hc := hI.cell; have hf := hI.frozen; have hl0 := hI.lt_ (b := w.heap.size) (by simp only [World.size_alloc, World.size_setCell, World.size_drew, size_drewN]; omega); (try simp only [World.size_alloc, World.size_setCell, World.size_drew, size_drewN] at hc hf)) | (go_at_call 21; (with_reducible refine (is_any hM (hI.at0 (by (repeat' (first | (with_reducible exact Below.refl _ _) | (with_reducible assumption) | (with_reducible refine below_drewN ?_ _) | (with_reducible refine Below.alloc ?_ ?_ _) | (with_reducible refine Below.drew ?_) | (with_reducible refine Below.setCell ?_ ?_ _) | go_size)))) _ _ rfl).mono ?_); rintro e w1 ⟨rfl, hb⟩; (try clear hc hf hl0); replace hI := hI.step (by (repeat' (first | (with_reducible exact Below.refl _ _) | (with_reducible assumption) | (with_reducible refine below_drewN ?_ _) | (with_reducible refine Below.alloc ?_ ?_ _) | (with_reducible refine Below.drew ?_) | (with_reducible refine Below.setCell ?_ ?_ _) | go_size))) hb; clear hb; have hc := hI.cell; have hf := hI.frozen; have hl0 := hI.lt_ (b := w.heap.size) (by simp only [World.size_alloc, World.size_setCell, World.size_drew, size_drewN]; omega); (try simp only [World.size_alloc, World.size_setCell, World.size_drew, size_drewN] at hc hf)) | (go_at_call 22; (with_reducible refine (send_any hM (hI.at0 (by (repeat' (first | (with_reducible exact Below.refl _ _) | (with_reducible assumption) | (with_reducible refine below_drewN ?_ _) | (with_reducible refine Below.alloc ?_ ?_ _) | (with_reducible refine Below.drew ?_) | (with_reducible refine Below.setCell ?_ ?_ _) | go_size)))) _ _).mono ?_); rintro e w1 ⟨rfl, hb⟩; (try clear hc hf hl0); replace hI := hI.step (by (repeat' (first | (with_reducible exact Below.refl _ _) | (with_reducible assumption) | (with_reducible refine below_drewN ?_ _) | (with_reducible refine Below.alloc ?_ ?_ _) | (with_reducible refine Below.drew ?_) | (with_reducible refine Below.setCell ?_ ?_ _) | go_size))) hb; clear hb; have hc := hI.cell; have hf := hI.frozen; have hl0 := hI.lt_ (b := w.heap.size) (by simp only [World.size_alloc, World.size_setCell, World.size_drew, size_drewN]; omega); (try simp only [World.size_alloc, World.size_setCell, World.size_drew, size_drewN] at hc hf)))
    go_ret2
    refine ⟨by rw [F.out]; rfl, ?_⟩
    (have hS := hI.bw; (repeat' (first | (with_reducible exact Below.refl _ _) | (with_reducible assumption) | (with_reducible refine below_drewN ?_ _) | (with_reducible refine Below.alloc ?_ ?_ _) | (with_reducible refine Below.drew ?_) | (with_reducible refine Below.setCell ?_ ?_ _) | go_size)))

set_option maxRecDepth 100000 in
set_option maxHeartbeats 2000000 in
theorem rstroke_plus_b (hM : IsM w0 LA ln CA cn L C) (hB : Below w0.heap.size w0 w) (p : Int) (h0 : -1 ≤ p) (h1 : p ≤ 1000) (O : isOp ln L cn C p = true) (g1 : ((insAt cn C (p + 1)).op == 10) = true) (g2 : ((insAt cn C (p + 2)).op == 12) = false) (T : letterV (selV ln L cn C (p + 1) 0) = false) (O1 : isOp ln L cn C (p + 1) = true) (g3 : ((selV ln L cn C (p + 2) 1).toList == [43]) = true) :
    Calls Try.prog 12 #[.agg #[.string s, .int .i64 x0, .int .i64 x1, .int .i64 x2, .slice LA ln lc, .slice CA cn cc], .int .i64 p] w fun e w' => e = .returned (.tuple #[.int .i64 (strokeV ln L cn C p).1, .int .i64 (strokeV ln L cn C p).2.2]) ∧ Below w.heap.size w w' := by
  have F : Hid (strokeV ln L cn C p = (1, p, 3)) := by show strokeV ln L cn C p = _; simp [strokeV, strokeS, O, g1, g2, T, O1, g3]
  have hI : Inv w0 w (w.alloc (.cells #[.string s, .int .i64 x0, .int .i64 x1, .int .i64 x2, .slice LA ln lc, .slice CA cn cc] 25)) (w.alloc (.cells #[.string s, .int .i64 x0, .int .i64 x1, .int .i64 x2, .slice LA ln lc, .slice CA cn cc] 25)) := Inv.start hB (by (repeat' (first | (with_reducible exact Below.refl _ _) | (with_reducible assumption) | (with_reducible refine below_drewN ?_ _) | (with_reducible refine Below.alloc ?_ ?_ _) | (with_reducible refine Below.drew ?_) | (with_reducible refine Below.setCell ?_ ?_ _) | go_size)))
  have HO := Lib.hid O
  clear O
  have HT := Lib.hid T
  clear T
  have HO1 := Lib.hid O1
  clear O1
  clear hB
  go_enter Try.func12, Try.ntmps12
  go_upto_region 7 with (first | (go_at_call 20; (with_reducible refine (ropnd_any hM (Words.none_ w0) (Words.none_ w0) (hI.at0 (by (repeat' (first | (with_reducible exact Below.refl _ _) | (with_reducible assumption) | (with_reducible refine below_drewN ?_ _) | (with_reducible refine Below.alloc ?_ ?_ _) | (with_reducible refine Below.drew ?_) | (with_reducible refine Below.setCell ?_ ?_ _) | go_size)))) _).mono ?_); rw [opndV_2]; (first | rw [HO1.out] | rw [HO.out]); rintro e w1 ⟨rfl, hb⟩; (try clear hc hf hl0); replace hI := hI.step (by (repeat' (first | (with_reducible exact Below.refl _ _) | (with_reducible assumption) | (with_reducible refine below_drewN ?_ _) | (with_reducible refine Below.alloc ?_ ?_ _) | (with_reducible refine Below.drew ?_) | (with_reducible refine Below.setCell ?_ ?_ _) | go_size))) hb; clear hb; have hc := hI.cell; have hf := hI.frozen; have hl0 := hI.lt_ (b := w.heap.size) (by simp only [World.size_alloc, World.size_setCell, World.size_drew, size_drewN]; omega); (try simp only [World.size_alloc, World.size_setCell, World.size_drew, size_drewN] at hc hf)) | (go_at_call 21; (with_reducible refine (is_any hM (hI.at0 (by (repeat' (first | (with_reducible exact Below.refl _ _) | (with_reducible assumption) | (with_reducible refine below_drewN ?_ _) | (with_reducible refine Below.alloc ?_ ?_ _) | (with_reducible refine Below.drew ?_) | (with_reducible refine Below.setCell ?_ ?_ _) | go_size)))) _ _ rfl).mono ?_); rintro e w1 ⟨rfl, hb⟩; (try clear hc hf hl0); replace hI := hI.step (by (repeat' (first | (with_reducible exact Below.refl _ _) | (with_reducible assumption) | (with_reducible refine below_drewN ?_ _) | (with_reducible refine Below.alloc ?_ ?_ _) | (with_reducible refine Below.drew ?_) | (with_reducible refine Below.setCell ?_ ?_ _) | go_size))) hb; clear hb; have hc := hI.cell; have hf := hI.frozen; have hl0 := hI.lt_ (b := w.heap.size) (by simp only [World.size_alloc, World.size_setCell, World.size_drew, size_drewN]; omega); (try simp only [World.size_alloc, World.size_setCell, World.size_drew, size_drewN] at hc hf)) | (go_at_call 22; (with_reducible refine (send_any hM (hI.at0 (by (repeat' (first | (with_reducible exact Below.refl _ _) | (with_reducible assumption) | (with_reducible refine below_drewN ?_ _) | (with_reducible refine Below.alloc ?_ ?_ _) | (with_reducible refine Below.drew ?_) | (with_reducible refine Below.setCell ?_ ?_ _) | go_size)))) _ _).mono ?_); rintro e w1 ⟨rfl, hb⟩; (try clear hc hf hl0); replace hI := hI.step (by (repeat' (first | (with_reducible exact Below.refl _ _) | (with_reducible assumption) | (with_reducible refine below_drewN ?_ _) | (with_reducible refine Below.alloc ?_ ?_ _) | (with_reducible refine Below.drew ?_) | (with_reducible refine Below.setCell ?_ ?_ _) | go_size))) hb; clear hb; have hc := hI.cell; have hf := hI.frozen; have hl0 := hI.lt_ (b := w.heap.size) (by simp only [World.size_alloc, World.size_setCell, World.size_drew, size_drewN]; omega); (try simp only [World.size_alloc, World.size_setCell, World.size_drew, size_drewN] at hc hf)))
  obtain ⟨t, ht⟩ : ∃ t, selV ln L cn C (p + 1) 0 = t := ⟨_, rfl⟩
  rw [ht]
  go_cut [55] (fun c wx => c = .bool (letterV t) ∧ wx = w1)
  case first =>
    rcases letter_facts t with ⟨f1, f2⟩ | ⟨n, f1, f2, f3⟩
    · have q : decide (0 < t.size) = false := decide_eq_false (by omega)
      have q' : ¬ 0 < t.size := by omega
      have F1 := Lib.hid f1
      clear f1 f2
      go_wp2_with fail
      go_meet
      exact ⟨by rw [F1.out], rfl⟩
    · have q : decide (0 < t.size) = true := decide_eq_true (by omega)
      have F3 := Lib.hid f3
      have f4 := f1 f2
      clear f1 f3
      by_cases k1 : 97 ≤ (n : Int)
      · by_cases k2 : (n : Int) ≤ 122
        · go_wp2_with fail
          go_meet
          exact ⟨by rw [F3.out, show decide (97 ≤ (n : Int)) = true from decide_eq_true (by omega), show decide ((n : Int) ≤ 122) = true from decide_eq_true (by omega), show decide (65 ≤ (n : Int)) = true from decide_eq_true (by omega)]; (try rw [Bool.true_and, Bool.true_or]); (try rfl), rfl⟩
        · go_wp2_with fail
          go_meet
          exact ⟨by rw [F3.out, show decide (97 ≤ (n : Int)) = true from decide_eq_true (by omega), show decide ((n : Int) ≤ 122) = false from decide_eq_false (by omega), show decide (65 ≤ (n : Int)) = true from decide_eq_true (by omega), show decide ((n : Int) ≤ 90) = false from decide_eq_false (by omega)]; (try rw [Bool.true_and, Bool.true_or]); (try rfl), rfl⟩
      · by_cases k3 : 65 ≤ (n : Int)
        · by_cases k4 : (n : Int) ≤ 90
          · go_wp2_with fail
            go_meet
            exact ⟨by rw [F3.out, show decide (97 ≤ (n : Int)) = false from decide_eq_false (by omega), show decide ((n : Int) ≤ 122) = true from decide_eq_true (by omega), show decide (65 ≤ (n : Int)) = true from decide_eq_true (by omega), show decide ((n : Int) ≤ 90) = true from decide_eq_true (by omega)]; (try rw [Bool.true_and, Bool.true_or]); (try rfl), rfl⟩
          · go_wp2_with fail
            go_meet
            exact ⟨by rw [F3.out, show decide (97 ≤ (n : Int)) = false from decide_eq_false (by omega), show decide ((n : Int) ≤ 122) = true from decide_eq_true (by omega), show decide (65 ≤ (n : Int)) = true from decide_eq_true (by omega), show decide ((n : Int) ≤ 90) = false from decide_eq_false (by omega)]; (try rw [Bool.true_and, Bool.true_or]); (try rfl), rfl⟩
        · go_wp2_with fail
          go_meet
          exact ⟨by rw [F3.out, show decide (97 ≤ (n : Int)) = false from decide_eq_false (by omega), show decide ((n : Int) ≤ 122) = true from decide_eq_true (by omega), show decide (65 ≤ (n : Int)) = false from decide_eq_false (by omega), show decide ((n : Int) ≤ 90) = true from decide_eq_true (by omega)]; (try rw [Bool.true_and, Bool.true_or]); (try rfl), rfl⟩
  case rest =>
    obtain ⟨rfl, rfl⟩ := hcut
    rw [← ht, HT.out]
    clear ht
    go_wp2_with (first | (go_at_call 20; (with_reducible refine (ropnd_any hM (Words.none_ w0) (Words.none_ w0) (hI.at0 (by (repeat' (first | (with_reducible exact Below.refl _ _) | (with_reducible assumption) | (with_reducible refine below_drewN ?_ _) | (with_reducible refine Below.alloc ?_ ?_ _) | (with_reducible refine Below.drew ?_) | (with_reducible refine Below.setCell ?_ ?_ _) | go_size)))) _).mono ?_); rw [opndV_2]; (first | rw [HO1.out] | rw [HO.out]); rintro e w1 ⟨rfl, hb⟩; (try clear hc hf hl0); replace hI := hI.step (by (repeat' (first | (with_reducible exact Below.refl _ _) | (with_reducible assumption) | (with_reducible refine below_drewN ?_ _) | (with_reducible refine Below.alloc ?_ ?_ _) | (with_reducible refine Below.drew ?_) | (with_reducible refine Below.setCell ?_ ?_ _) | go_size))) hb; clear hb; have hc := hI.cell; have hf := hI.frozen; have hl0 := hI.lt_ (b := w.heap.size) (by simp only [World.size_alloc, World.size_setCell, World.size_drew, size_drewN]; omega); (try simp only [World.size_alloc, World.size_setCell, World.size_drew, size_drewN] at hc hf)) | (go_at_call 21; (with_reducible refine (is_any hM (hI.at0 (by (repeat' (first | (with_reducible exact Below.refl _ _) | (with_reducible assumption) | (with_reducible refine below_drewN ?_ _) | (with_reducible refine Below.alloc ?_ ?_ _) | (with_reducible refine Below.drew ?_) | (with_reducible refine Below.setCell ?_ ?_ _) | go_size)))) _ _ rfl).mono ?_); rintro e w1 ⟨rfl, hb⟩; (try clear hc hf hl0); replace hI := hI.step (by (repeat' (first | (with_reducible exact Below.refl _ _) | (with_reducible assumption) | (with_reducible refine below_drewN ?_ _) | (with_reducible refine Below.alloc ?_ ?_ _) | (with_reducible refine Below.drew ?_) | (with_reducible refine Below.setCell ?_ ?_ _) | go_size))) hb; clear hb; have hc := hI.cell; have hf := hI.frozen; have hl0 := hI.lt_ (b := w.heap.size) (by simp only [World.size_alloc, World.size_setCell, World.size_drew, size_drewN]; omega); (try simp only [World.size_alloc, World.size_setCell, World.size_drew, size_drewN] at hc hf)) | (go_at_call 22; (with_reducible refine (send_any hM (hI.at0 (by (repeat' (first | (with_reducible exact Below.refl _ _) | (with_reducible assumption) | (with_reducible refine below_drewN ?_ _) | (with_reducible refine Below.alloc ?_ ?_ _) | (with_reducible refine Below.drew ?_) | (with_reducible refine Below.setCell ?_ ?_ _) | go_size)))) _ _).mono ?_); rintro e w1 ⟨rfl, hb⟩; (try clear hc hf hl0); replace hI := hI.step (by (repeat' (first | (with_reducible exact Below.refl _ _) | (with_reducible assumption) | (with_reducible refine below_drewN ?_ _) | (with_reducible refine Below.alloc ?_ ?_ _) | (with_reducible refine Below.drew ?_) | (with_reducible refine Below.setCell ?_ ?_ _) | go_size))) hb; clear hb; have hc := hI.cell; have hf := hI.frozen; have hl0 := hI.lt_ (b := w.heap.size) (by simp only [World.size_alloc, World.size_setCell, World.size_drew, size_drewN]; omega); (try simp only [World.size_alloc, World.size_setCell, World.size_drew, size_drewN] at hc hf)))
    go_ret2
    refine ⟨by rw [F.out]; rfl, ?_⟩
    (have hS := hI.bw; (repeat' (first | (with_reducible exact Below.refl _ _) | (with_reducible assumption) | (with_reducible refine below_drewN ?_ _) | (with_reducible refine Below.alloc ?_ ?_ _) | (with_reducible refine Below.drew ?_) | (with_reducible refine Below.setCell ?_ ?_ _) | go_size)))

set_option maxRecDepth 100000 in
set_option maxHeartbeats 2000000 in
theorem rstroke_minus_b (hM : IsM w0 LA ln CA cn L C) (hB : Below w0.heap.size w0 w) (p : Int) (h0 : -1 ≤ p) (h1 : p ≤ 1000) (O : isOp ln L cn C p = true) (g1 : ((insAt cn C (p + 1)).op == 10) = true) (g2 : ((insAt cn C (p + 2)).op == 12) = false) (T : letterV (selV ln L cn C (p + 1) 0) = false) (O1 : isOp ln L cn C (p + 1) = true) (g3 : ((selV ln L cn C (p + 2) 1).toList == [43]) = false) (g4 : ((selV ln L cn C (p + 2) 1).toList == [45]) = true) :
    Calls Try.prog 12 #[.agg #[.string s, .int .i64 x0, .int .i64 x1, .int .i64 x2, .slice LA ln lc, .slice CA cn cc], .int .i64 p] w fun e w' => e = .returned (.tuple #[.int .i64 (strokeV ln L cn C p).1, .int .i64 (strokeV ln L cn C p).2.2]) ∧ Below w.heap.size w w' := by
  have F : Hid (strokeV ln L cn C p = (1, p, 3)) := by show strokeV ln L cn C p = _; simp [strokeV, strokeS, O, g1, g2, T, O1, g3, g4]
  have hI : Inv w0 w (w.alloc (.cells #[.string s, .int .i64 x0, .int .i64 x1, .int .i64 x2, .slice LA ln lc, .slice CA cn cc] 25)) (w.alloc (.cells #[.string s, .int .i64 x0, .int .i64 x1, .int .i64 x2, .slice LA ln lc, .slice CA cn cc] 25)) := Inv.start hB (by (repeat' (first | (with_reducible exact Below.refl _ _) | (with_reducible assumption) | (with_reducible refine below_drewN ?_ _) | (with_reducible refine Below.alloc ?_ ?_ _) | (with_reducible refine Below.drew ?_) | (with_reducible refine Below.setCell ?_ ?_ _) | go_size)))
  have HO := Lib.hid O
  clear O
  have HT := Lib.hid T
  clear T
  have HO1 := Lib.hid O1
  clear O1
  clear hB
  go_enter Try.func12, Try.ntmps12
  go_upto_region 7 with (first | (go_at_call 20; (with_reducible refine (ropnd_any hM (Words.none_ w0) (Words.none_ w0) (hI.at0 (by (repeat' (first | (with_reducible exact Below.refl _ _) | (with_reducible assumption) | (with_reducible refine below_drewN ?_ _) | (with_reducible refine Below.alloc ?_ ?_ _) | (with_reducible refine Below.drew ?_) | (with_reducible refine Below.setCell ?_ ?_ _) | go_size)))) _).mono ?_); rw [opndV_2]; (first | rw [HO1.out] | rw [HO.out]); rintro e w1 ⟨rfl, hb⟩; (try clear hc hf hl0); replace hI := hI.step (by (repeat' (first | (with_reducible exact Below.refl _ _) | (with_reducible assumption) | (with_reducible refine below_drewN ?_ _) | (with_reducible refine Below.alloc ?_ ?_ _) | (with_reducible refine Below.drew ?_) | (with_reducible refine Below.setCell ?_ ?_ _) | go_size))) hb; clear hb; have hc := hI.cell; have hf := hI.frozen; have hl0 := hI.lt_ (b := w.heap.size) (by simp only [World.size_alloc, World.size_setCell, World.size_drew, size_drewN]; omega); (try simp only [World.size_alloc, World.size_setCell, World.size_drew, size_drewN] at hc hf)) | (go_at_call 21; (with_reducible refine (is_any hM (hI.at0 (by (repeat' (first | (with_reducible exact Below.refl _ _) | (with_reducible assumption) | (with_reducible refine below_drewN ?_ _) | (with_reducible refine Below.alloc ?_ ?_ _) | (with_reducible refine Below.drew ?_) | (with_reducible refine Below.setCell ?_ ?_ _) | go_size)))) _ _ rfl).mono ?_); rintro e w1 ⟨rfl, hb⟩; (try clear hc hf hl0); replace hI := hI.step (by (repeat' (first | (with_reducible exact Below.refl _ _) | (with_reducible assumption) | (with_reducible refine below_drewN ?_ _) | (with_reducible refine Below.alloc ?_ ?_ _) | (with_reducible refine Below.drew ?_) | (with_reducible refine Below.setCell ?_ ?_ _) | go_size))) hb; clear hb; have hc := hI.cell; have hf := hI.frozen; have hl0 := hI.lt_ (b := w.heap.size) (by simp only [World.size_alloc, World.size_setCell, World.size_drew, size_drewN]; omega); (try simp only [World.size_alloc, World.size_setCell, World.size_drew, size_drewN] at hc hf)) | (go_at_call 22; (with_reducible refine (send_any hM (hI.at0 (by (repeat' (first | (with_reducible exact Below.refl _ _) | (with_reducible assumption) | (with_reducible refine below_drewN ?_ _) | (with_reducible refine Below.alloc ?_ ?_ _) | (with_reducible refine Below.drew ?_) | (with_reducible refine Below.setCell ?_ ?_ _) | go_size)))) _ _).mono ?_); rintro e w1 ⟨rfl, hb⟩; (try clear hc hf hl0); replace hI := hI.step (by (repeat' (first | (with_reducible exact Below.refl _ _) | (with_reducible assumption) | (with_reducible refine below_drewN ?_ _) | (with_reducible refine Below.alloc ?_ ?_ _) | (with_reducible refine Below.drew ?_) | (with_reducible refine Below.setCell ?_ ?_ _) | go_size))) hb; clear hb; have hc := hI.cell; have hf := hI.frozen; have hl0 := hI.lt_ (b := w.heap.size) (by simp only [World.size_alloc, World.size_setCell, World.size_drew, size_drewN]; omega); (try simp only [World.size_alloc, World.size_setCell, World.size_drew, size_drewN] at hc hf)))
  obtain ⟨t, ht⟩ : ∃ t, selV ln L cn C (p + 1) 0 = t := ⟨_, rfl⟩
  rw [ht]
  go_cut [55] (fun c wx => c = .bool (letterV t) ∧ wx = w1)
  case first =>
    rcases letter_facts t with ⟨f1, f2⟩ | ⟨n, f1, f2, f3⟩
    · have q : decide (0 < t.size) = false := decide_eq_false (by omega)
      have q' : ¬ 0 < t.size := by omega
      have F1 := Lib.hid f1
      clear f1 f2
      go_wp2_with fail
      go_meet
      exact ⟨by rw [F1.out], rfl⟩
    · have q : decide (0 < t.size) = true := decide_eq_true (by omega)
      have F3 := Lib.hid f3
      have f4 := f1 f2
      clear f1 f3
      by_cases k1 : 97 ≤ (n : Int)
      · by_cases k2 : (n : Int) ≤ 122
        · go_wp2_with fail
          go_meet
          exact ⟨by rw [F3.out, show decide (97 ≤ (n : Int)) = true from decide_eq_true (by omega), show decide ((n : Int) ≤ 122) = true from decide_eq_true (by omega), show decide (65 ≤ (n : Int)) = true from decide_eq_true (by omega)]; (try rw [Bool.true_and, Bool.true_or]); (try rfl), rfl⟩
        · go_wp2_with fail
          go_meet
          exact ⟨by rw [F3.out, show decide (97 ≤ (n : Int)) = true from decide_eq_true (by omega), show decide ((n : Int) ≤ 122) = false from decide_eq_false (by omega), show decide (65 ≤ (n : Int)) = true from decide_eq_true (by omega), show decide ((n : Int) ≤ 90) = false from decide_eq_false (by omega)]; (try rw [Bool.true_and, Bool.true_or]); (try rfl), rfl⟩
      · by_cases k3 : 65 ≤ (n : Int)
        · by_cases k4 : (n : Int) ≤ 90
          · go_wp2_with fail
            go_meet
            exact ⟨by rw [F3.out, show decide (97 ≤ (n : Int)) = false from decide_eq_false (by omega), show decide ((n : Int) ≤ 122) = true from decide_eq_true (by omega), show decide (65 ≤ (n : Int)) = true from decide_eq_true (by omega), show decide ((n : Int) ≤ 90) = true from decide_eq_true (by omega)]; (try rw [Bool.true_and, Bool.true_or]); (try rfl), rfl⟩
          · go_wp2_with fail
            go_meet
            exact ⟨by rw [F3.out, show decide (97 ≤ (n : Int)) = false from decide_eq_false (by omega), show decide ((n : Int) ≤ 122) = true from decide_eq_true (by omega), show decide (65 ≤ (n : Int)) = true from decide_eq_true (by omega), show decide ((n : Int) ≤ 90) = false from decide_eq_false (by omega)]; (try rw [Bool.true_and, Bool.true_or]); (try rfl), rfl⟩
        · go_wp2_with fail
          go_meet
          exact ⟨by rw [F3.out, show decide (97 ≤ (n : Int)) = false from decide_eq_false (by omega), show decide ((n : Int) ≤ 122) = true from decide_eq_true (by omega), show decide (65 ≤ (n : Int)) = false from decide_eq_false (by omega), show decide ((n : Int) ≤ 90) = true from decide_eq_true (by omega)]; (try rw [Bool.true_and, Bool.true_or]); (try rfl), rfl⟩
  case rest =>
    obtain ⟨rfl, rfl⟩ := hcut
    rw [← ht, HT.out]
    clear ht
    go_wp2_with (first | (go_at_call 20; (with_reducible refine (ropnd_any hM (Words.none_ w0) (Words.none_ w0) (hI.at0 (by (repeat' (first | (with_reducible exact Below.refl _ _) | (with_reducible assumption) | (with_reducible refine below_drewN ?_ _) | (with_reducible refine Below.alloc ?_ ?_ _) | (with_reducible refine Below.drew ?_) | (with_reducible refine Below.setCell ?_ ?_ _) | go_size)))) _).mono ?_); rw [opndV_2]; (first | rw [HO1.out] | rw [HO.out]); rintro e w1 ⟨rfl, hb⟩; (try clear hc hf hl0); replace hI := hI.step (by (repeat' (first | (with_reducible exact Below.refl _ _) | (with_reducible assumption) | (with_reducible refine below_drewN ?_ _) | (with_reducible refine Below.alloc ?_ ?_ _) | (with_reducible refine Below.drew ?_) | (with_reducible refine Below.setCell ?_ ?_ _) | go_size))) hb; clear hb; have hc := hI.cell; have hf := hI.frozen; have hl0 := hI.lt_ (b := w.heap.size) (by simp only [World.size_alloc, World.size_setCell, World.size_drew, size_drewN]; omega); (try simp only [World.size_alloc, World.size_setCell, World.size_drew, size_drewN] at hc hf)) | (go_at_call 21; (with_reducible refine (is_any hM (hI.at0 (by (repeat' (first | (with_reducible exact Below.refl _ _) | (with_reducible assumption) | (with_reducible refine below_drewN ?_ _) | (with_reducible refine Below.alloc ?_ ?_ _) | (with_reducible refine Below.drew ?_) | (with_reducible refine Below.setCell ?_ ?_ _) | go_size)))) _ _ rfl).mono ?_); rintro e w1 ⟨rfl, hb⟩; (try clear hc hf hl0); replace hI := hI.step (by (repeat' (first | (with_reducible exact Below.refl _ _) | (with_reducible assumption) | (with_reducible refine below_drewN ?_ _) | (with_reducible refine Below.alloc ?_ ?_ _) | (with_reducible refine Below.drew ?_) | (with_reducible refine Below.setCell ?_ ?_ _) | go_size))) hb; clear hb; have hc := hI.cell; have hf := hI.frozen; have hl0 := hI.lt_ (b := w.heap.size) (by simp only [World.size_alloc, World.size_setCell, World.size_drew, size_drewN]; omega); (try simp only [World.size_alloc, World.size_setCell, World.size_drew, size_drewN] at hc hf)) | (go_at_call 22; (with_reducible refine (send_any hM (hI.at0 (by (repeat' (first | (with_reducible exact Below.refl _ _) | (with_reducible assumption) | (with_reducible refine below_drewN ?_ _) | (with_reducible refine Below.alloc ?_ ?_ _) | (with_reducible refine Below.drew ?_) | (with_reducible refine Below.setCell ?_ ?_ _) | go_size)))) _ _).mono ?_); rintro e w1 ⟨rfl, hb⟩; (try clear hc hf hl0); replace hI := hI.step (by (repeat' (first | (with_reducible exact Below.refl _ _) | (with_reducible assumption) | (with_reducible refine below_drewN ?_ _) | (with_reducible refine Below.alloc ?_ ?_ _) | (with_reducible refine Below.drew ?_) | (with_reducible refine Below.setCell ?_ ?_ _) | go_size))) hb; clear hb; have hc := hI.cell; have hf := hI.frozen; have hl0 := hI.lt_ (b := w.heap.size) (by simp only [World.size_alloc, World.size_setCell, World.size_drew, size_drewN]; omega); (try simp only [World.size_alloc, World.size_setCell, World.size_drew, size_drewN] at hc hf)))
    go_ret2
    refine ⟨by rw [F.out]; rfl, ?_⟩
    (have hS := hI.bw; (repeat' (first | (with_reducible exact Below.refl _ _) | (with_reducible assumption) | (with_reducible refine below_drewN ?_ _) | (with_reducible refine Below.alloc ?_ ?_ _) | (with_reducible refine Below.drew ?_) | (with_reducible refine Below.setCell ?_ ?_ _) | go_size)))

set_option maxRecDepth 100000 in
set_option maxHeartbeats 2000000 in
theorem rstroke_times_b (hM : IsM w0 LA ln CA cn L C) (hB : Below w0.heap.size w0 w) (p : Int) (h0 : -1 ≤ p) (h1 : p ≤ 1000) (O : isOp ln L cn C p = true) (g1 : ((insAt cn C (p + 1)).op == 10) = true) (g2 : ((insAt cn C (p + 2)).op == 12) = false) (T : letterV (selV ln L cn C (p + 1) 0) = false) (O1 : isOp ln L cn C (p + 1) = true) (g3 : ((selV ln L cn C (p + 2) 1).toList == [43]) = false) (g4 : ((selV ln L cn C (p + 2) 1).toList == [45]) = false) (g5 : ((selV ln L cn C (p + 2) 1).toList == [42]) = true) :
    Calls Try.prog 12 #[.agg #[.string s, .int .i64 x0, .int .i64 x1, .int .i64 x2, .slice LA ln lc, .slice CA cn cc], .int .i64 p] w fun e w' => e = .returned (.tuple #[.int .i64 (strokeV ln L cn C p).1, .int .i64 (strokeV ln L cn C p).2.2]) ∧ Below w.heap.size w w' := by
  have F : Hid (strokeV ln L cn C p = (1, p, 3)) := by show strokeV ln L cn C p = _; simp [strokeV, strokeS, O, g1, g2, T, O1, g3, g4, g5]
  have hI : Inv w0 w (w.alloc (.cells #[.string s, .int .i64 x0, .int .i64 x1, .int .i64 x2, .slice LA ln lc, .slice CA cn cc] 25)) (w.alloc (.cells #[.string s, .int .i64 x0, .int .i64 x1, .int .i64 x2, .slice LA ln lc, .slice CA cn cc] 25)) := Inv.start hB (by (repeat' (first | (with_reducible exact Below.refl _ _) | (with_reducible assumption) | (with_reducible refine below_drewN ?_ _) | (with_reducible refine Below.alloc ?_ ?_ _) | (with_reducible refine Below.drew ?_) | (with_reducible refine Below.setCell ?_ ?_ _) | go_size)))
  have HO := Lib.hid O
  clear O
  have HT := Lib.hid T
  clear T
  have HO1 := Lib.hid O1
  clear O1
  clear hB
  go_enter Try.func12, Try.ntmps12
  go_upto_region 7 with (first | (go_at_call 20; (with_reducible refine (ropnd_any hM (Words.none_ w0) (Words.none_ w0) (hI.at0 (by (repeat' (first | (with_reducible exact Below.refl _ _) | (with_reducible assumption) | (with_reducible refine below_drewN ?_ _) | (with_reducible refine Below.alloc ?_ ?_ _) | (with_reducible refine Below.drew ?_) | (with_reducible refine Below.setCell ?_ ?_ _) | go_size)))) _).mono ?_); rw [opndV_2]; (first | rw [HO1.out] | rw [HO.out]); rintro e w1 ⟨rfl, hb⟩; (try clear hc hf hl0); replace hI := hI.step (by (repeat' (first | (with_reducible exact Below.refl _ _) | (with_reducible assumption) | (with_reducible refine below_drewN ?_ _) | (with_reducible refine Below.alloc ?_ ?_ _) | (with_reducible refine Below.drew ?_) | (with_reducible refine Below.setCell ?_ ?_ _) | go_size))) hb; clear hb; have hc := hI.cell; have hf := hI.frozen; have hl0 := hI.lt_ (b := w.heap.size) (by simp only [World.size_alloc, World.size_setCell, World.size_drew, size_drewN]; omega); (try simp only [World.size_alloc, World.size_setCell, World.size_drew, size_drewN] at hc hf)) | (go_at_call 21; (with_reducible refine (is_any hM (hI.at0 (by (repeat' (first | (with_reducible exact Below.refl _ _) | (with_reducible assumption) | (with_reducible refine below_drewN ?_ _) | (with_reducible refine Below.alloc ?_ ?_ _) | (with_reducible refine Below.drew ?_) | (with_reducible refine Below.setCell ?_ ?_ _) | go_size)))) _ _ rfl).mono ?_); rintro e w1 ⟨rfl, hb⟩; (try clear hc hf hl0); replace hI := hI.step (by (repeat' (first | (with_reducible exact Below.refl _ _) | (with_reducible assumption) | (with_reducible refine below_drewN ?_ _) | (with_reducible refine Below.alloc ?_ ?_ _) | (with_reducible refine Below.drew ?_) | (with_reducible refine Below.setCell ?_ ?_ _) | go_size))) hb; clear hb; have hc := hI.cell; have hf := hI.frozen; have hl0 := hI.lt_ (b := w.heap.size) (by simp only [World.size_alloc, World.size_setCell, World.size_drew, size_drewN]; omega); (try simp only [World.size_alloc, World.size_setCell, World.size_drew, size_drewN] at hc hf)) | (go_at_call 22; (with_reducible refine (send_any hM (hI.at0 (by (repeat' (first | (with_reducible exact Below.refl _ _) | (with_reducible assumption) | (with_reducible refine below_drewN ?_ _) | (with_reducible refine Below.alloc ?_ ?_ _) | (with_reducible refine Below.drew ?_) | (with_reducible refine Below.setCell ?_ ?_ _) | go_size)))) _ _).mono ?_); rintro e w1 ⟨rfl, hb⟩; (try clear hc hf hl0); replace hI := hI.step (by (repeat' (first | (with_reducible exact Below.refl _ _) | (with_reducible assumption) | (with_reducible refine below_drewN ?_ _) | (with_reducible refine Below.alloc ?_ ?_ _) | (with_reducible refine Below.drew ?_) | (with_reducible refine Below.setCell ?_ ?_ _) | go_size))) hb; clear hb; have hc := hI.cell; have hf := hI.frozen; have hl0 := hI.lt_ (b := w.heap.size) (by simp only [World.size_alloc, World.size_setCell, World.size_drew, size_drewN]; omega); (try simp only [World.size_alloc, World.size_setCell, World.size_drew, size_drewN] at hc hf)))
  obtain ⟨t, ht⟩ : ∃ t, selV ln L cn C (p + 1) 0 = t := ⟨_, rfl⟩
  rw [ht]
  go_cut [55] (fun c wx => c = .bool (letterV t) ∧ wx = w1)
  case first =>
    rcases letter_facts t with ⟨f1, f2⟩ | ⟨n, f1, f2, f3⟩
    · have q : decide (0 < t.size) = false := decide_eq_false (by omega)
      have q' : ¬ 0 < t.size := by omega
      have F1 := Lib.hid f1
      clear f1 f2
      go_wp2_with fail
      go_meet
      exact ⟨by rw [F1.out], rfl⟩
    · have q : decide (0 < t.size) = true := decide_eq_true (by omega)
      have F3 := Lib.hid f3
      have f4 := f1 f2
      clear f1 f3
      by_cases k1 : 97 ≤ (n : Int)
      · by_cases k2 : (n : Int) ≤ 122
        · go_wp2_with fail
          go_meet
          exact ⟨by rw [F3.out, show decide (97 ≤ (n : Int)) = true from decide_eq_true (by omega), show decide ((n : Int) ≤ 122) = true from decide_eq_true (by omega), show decide (65 ≤ (n : Int)) = true from decide_eq_true (by omega)]; (try rw [Bool.true_and, Bool.true_or]); (try rfl), rfl⟩
        · go_wp2_with fail
          go_meet
          exact ⟨by rw [F3.out, show decide (97 ≤ (n : Int)) = true from decide_eq_true (by omega), show decide ((n : Int) ≤ 122) = false from decide_eq_false (by omega), show decide (65 ≤ (n : Int)) = true from decide_eq_true (by omega), show decide ((n : Int) ≤ 90) = false from decide_eq_false (by omega)]; (try rw [Bool.true_and, Bool.true_or]); (try rfl), rfl⟩
      · by_cases k3 : 65 ≤ (n : Int)
        · by_cases k4 : (n : Int) ≤ 90
          · go_wp2_with fail
            go_meet
            exact ⟨by rw [F3.out, show decide (97 ≤ (n : Int)) = false from decide_eq_false (by omega), show decide ((n : Int) ≤ 122) = true from decide_eq_true (by omega), show decide (65 ≤ (n : Int)) = true from decide_eq_true (by omega), show decide ((n : Int) ≤ 90) = true from decide_eq_true (by omega)]; (try rw [Bool.true_and, Bool.true_or]); (try rfl), rfl⟩
          · go_wp2_with fail
            go_meet
            exact ⟨by rw [F3.out, show decide (97 ≤ (n : Int)) = false from decide_eq_false (by omega), show decide ((n : Int) ≤ 122) = true from decide_eq_true (by omega), show decide (65 ≤ (n : Int)) = true from decide_eq_true (by omega), show decide ((n : Int) ≤ 90) = false from decide_eq_false (by omega)]; (try rw [Bool.true_and, Bool.true_or]); (try rfl), rfl⟩
        · go_wp2_with fail
          go_meet
          exact ⟨by rw [F3.out, show decide (97 ≤ (n : Int)) = false from decide_eq_false (by omega), show decide ((n : Int) ≤ 122) = true from decide_eq_true (by omega), show decide (65 ≤ (n : Int)) = false from decide_eq_false (by omega), show decide ((n : Int) ≤ 90) = true from decide_eq_true (by omega)]; (try rw [Bool.true_and, Bool.true_or]); (try rfl), rfl⟩
  case rest =>
    obtain ⟨rfl, rfl⟩ := hcut
    rw [← ht, HT.out]
    clear ht
    go_wp2_with (first | (go_at_call 20; (with_reducible refine (ropnd_any hM (Words.none_ w0) (Words.none_ w0) (hI.at0 (by (repeat' (first | (with_reducible exact Below.refl _ _) | (with_reducible assumption) | (with_reducible refine below_drewN ?_ _) | (with_reducible refine Below.alloc ?_ ?_ _) | (with_reducible refine Below.drew ?_) | (with_reducible refine Below.setCell ?_ ?_ _) | go_size)))) _).mono ?_); rw [opndV_2]; (first | rw [HO1.out] | rw [HO.out]); rintro e w1 ⟨rfl, hb⟩; (try clear hc hf hl0); replace hI := hI.step (by (repeat' (first | (with_reducible exact Below.refl _ _) | (with_reducible assumption) | (with_reducible refine below_drewN ?_ _) | (with_reducible refine Below.alloc ?_ ?_ _) | (with_reducible refine Below.drew ?_) | (with_reducible refine Below.setCell ?_ ?_ _) | go_size))) hb; clear hb; have hc := hI.cell; have hf := hI.frozen; have hl0 := hI.lt_ (b := w.heap.size) (by simp only [World.size_alloc, World.size_setCell, World.size_drew, size_drewN]; omega); (try simp only [World.size_alloc, World.size_setCell, World.size_drew, size_drewN] at hc hf)) | (go_at_call 21; (with_reducible refine (is_any hM (hI.at0 (by (repeat' (first | (with_reducible exact Below.refl _ _) | (with_reducible assumption) | (with_reducible refine below_drewN ?_ _) | (with_reducible refine Below.alloc ?_ ?_ _) | (with_reducible refine Below.drew ?_) | (with_reducible refine Below.setCell ?_ ?_ _) | go_size)))) _ _ rfl).mono ?_); rintro e w1 ⟨rfl, hb⟩; (try clear hc hf hl0); replace hI := hI.step (by (repeat' (first | (with_reducible exact Below.refl _ _) | (with_reducible assumption) | (with_reducible refine below_drewN ?_ _) | (with_reducible refine Below.alloc ?_ ?_ _) | (with_reducible refine Below.drew ?_) | (with_reducible refine Below.setCell ?_ ?_ _) | go_size))) hb; clear hb; have hc := hI.cell; have hf := hI.frozen; have hl0 := hI.lt_ (b := w.heap.size) (by simp only [World.size_alloc, World.size_setCell, World.size_drew, size_drewN]; omega); (try simp only [World.size_alloc, World.size_setCell, World.size_drew, size_drewN] at hc hf)) | (go_at_call 22; (with_reducible refine (send_any hM (hI.at0 (by (repeat' (first | (with_reducible exact Below.refl _ _) | (with_reducible assumption) | (with_reducible refine below_drewN ?_ _) | (with_reducible refine Below.alloc ?_ ?_ _) | (with_reducible refine Below.drew ?_) | (with_reducible refine Below.setCell ?_ ?_ _) | go_size)))) _ _).mono ?_); rintro e w1 ⟨rfl, hb⟩; (try clear hc hf hl0); replace hI := hI.step (by (repeat' (first | (with_reducible exact Below.refl _ _) | (with_reducible assumption) | (with_reducible refine below_drewN ?_ _) | (with_reducible refine Below.alloc ?_ ?_ _) | (with_reducible refine Below.drew ?_) | (with_reducible refine Below.setCell ?_ ?_ _) | go_size))) hb; clear hb; have hc := hI.cell; have hf := hI.frozen; have hl0 := hI.lt_ (b := w.heap.size) (by simp only [World.size_alloc, World.size_setCell, World.size_drew, size_drewN]; omega); (try simp only [World.size_alloc, World.size_setCell, World.size_drew, size_drewN] at hc hf)))
    go_ret2
    refine ⟨by rw [F.out]; rfl, ?_⟩
    (have hS := hI.bw; (repeat' (first | (with_reducible exact Below.refl _ _) | (with_reducible assumption) | (with_reducible refine below_drewN ?_ _) | (with_reducible refine Below.alloc ?_ ?_ _) | (with_reducible refine Below.drew ?_) | (with_reducible refine Below.setCell ?_ ?_ _) | go_size)))

set_option maxRecDepth 100000 in
set_option maxHeartbeats 2000000 in
theorem rstroke_less_if_b (hM : IsM w0 LA ln CA cn L C) (hB : Below w0.heap.size w0 w) (p : Int) (h0 : -1 ≤ p) (h1 : p ≤ 1000) (O : isOp ln L cn C p = true) (g1 : ((insAt cn C (p + 1)).op == 10) = true) (g2 : ((insAt cn C (p + 2)).op == 12) = false) (T : letterV (selV ln L cn C (p + 1) 0) = false) (O1 : isOp ln L cn C (p + 1) = true) (g3 : ((selV ln L cn C (p + 2) 1).toList == [43]) = false) (g4 : ((selV ln L cn C (p + 2) 1).toList == [45]) = false) (g5 : ((selV ln L cn C (p + 2) 1).toList == [42]) = false) (g6 : ((selV ln L cn C (p + 2) 1).toList == [60]) = true) (g8 : ((insAt cn C (p + 3)).op == 17) = true) :
    Calls Try.prog 12 #[.agg #[.string s, .int .i64 x0, .int .i64 x1, .int .i64 x2, .slice LA ln lc, .slice CA cn cc], .int .i64 p] w fun e w' => e = .returned (.tuple #[.int .i64 (strokeV ln L cn C p).1, .int .i64 (strokeV ln L cn C p).2.2]) ∧ Below w.heap.size w w' := by
  have F : Hid (strokeV ln L cn C p = (3, p, 4)) := by show strokeV ln L cn C p = _; simp [strokeV, strokeS, O, g1, g2, T, O1, g3, g4, g5, g6, g8]
  have hI : Inv w0 w (w.alloc (.cells #[.string s, .int .i64 x0, .int .i64 x1, .int .i64 x2, .slice LA ln lc, .slice CA cn cc] 25)) (w.alloc (.cells #[.string s, .int .i64 x0, .int .i64 x1, .int .i64 x2, .slice LA ln lc, .slice CA cn cc] 25)) := Inv.start hB (by (repeat' (first | (with_reducible exact Below.refl _ _) | (with_reducible assumption) | (with_reducible refine below_drewN ?_ _) | (with_reducible refine Below.alloc ?_ ?_ _) | (with_reducible refine Below.drew ?_) | (with_reducible refine Below.setCell ?_ ?_ _) | go_size)))
  have HO := Lib.hid O
  clear O
  have HT := Lib.hid T
  clear T
  have HO1 := Lib.hid O1
  clear O1
  clear hB
  go_enter Try.func12, Try.ntmps12
  go_upto_region 7 with (first | (go_at_call 20; (with_reducible refine (ropnd_any hM (Words.none_ w0) (Words.none_ w0) (hI.at0 (by (repeat' (first | (with_reducible exact Below.refl _ _) | (with_reducible assumption) | (with_reducible refine below_drewN ?_ _) | (with_reducible refine Below.alloc ?_ ?_ _) | (with_reducible refine Below.drew ?_) | (with_reducible refine Below.setCell ?_ ?_ _) | go_size)))) _).mono ?_); rw [opndV_2]; (first | rw [HO1.out] | rw [HO.out]); rintro e w1 ⟨rfl, hb⟩; (try clear hc hf hl0); replace hI := hI.step (by (repeat' (first | (with_reducible exact Below.refl _ _) | (with_reducible assumption) | (with_reducible refine below_drewN ?_ _) | (with_reducible refine Below.alloc ?_ ?_ _) | (with_reducible refine Below.drew ?_) | (with_reducible refine Below.setCell ?_ ?_ _) | go_size))) hb; clear hb; have hc := hI.cell; have hf := hI.frozen; have hl0 := hI.lt_ (b := w.heap.size) (by simp only [World.size_alloc, World.size_setCell, World.size_drew, size_drewN]; omega); (try simp only [World.size_alloc, World.size_setCell, World.size_drew, size_drewN] at hc hf)) | (go_at_call 21; (with_reducible refine (is_any hM (hI.at0 (by (repeat' (first | (with_reducible exact Below.refl _ _) | (with_reducible assumption) | (with_reducible refine below_drewN ?_ _) | (with_reducible refine Below.alloc ?_ ?_ _) | (with_reducible refine Below.drew ?_) | (with_reducible refine Below.setCell ?_ ?_ _) | go_size)))) _ _ rfl).mono ?_); rintro e w1 ⟨rfl, hb⟩; (try clear hc hf hl0); replace hI := hI.step (by (repeat' (first | (with_reducible exact Below.refl _ _) | (with_reducible assumption) | (with_reducible refine below_drewN ?_ _) | (with_reducible refine Below.alloc ?_ ?_ _) | (with_reducible refine Below.drew ?_) | (with_reducible refine Below.setCell ?_ ?_ _) | go_size))) hb; clear hb; have hc := hI.cell; have hf := hI.frozen; have hl0 := hI.lt_ (b := w.heap.size) (by simp only [World.size_alloc, World.size_setCell, World.size_drew, size_drewN]; omega); (try simp only [World.size_alloc, World.size_setCell, World.size_drew, size_drewN] at hc hf)) | (go_at_call 22; (with_reducible refine (send_any hM (hI.at0 (by (repeat' (first | (with_reducible exact Below.refl _ _) | (with_reducible assumption) | (with_reducible refine below_drewN ?_ _) | (with_reducible refine Below.alloc ?_ ?_ _) | (with_reducible refine Below.drew ?_) | (with_reducible refine Below.setCell ?_ ?_ _) | go_size)))) _ _).mono ?_); rintro e w1 ⟨rfl, hb⟩; (try clear hc hf hl0); replace hI := hI.step (by (repeat' (first | (with_reducible exact Below.refl _ _) | (with_reducible assumption) | (with_reducible refine below_drewN ?_ _) | (with_reducible refine Below.alloc ?_ ?_ _) | (with_reducible refine Below.drew ?_) | (with_reducible refine Below.setCell ?_ ?_ _) | go_size))) hb; clear hb; have hc := hI.cell; have hf := hI.frozen; have hl0 := hI.lt_ (b := w.heap.size) (by simp only [World.size_alloc, World.size_setCell, World.size_drew, size_drewN]; omega); (try simp only [World.size_alloc, World.size_setCell, World.size_drew, size_drewN] at hc hf)))
  obtain ⟨t, ht⟩ : ∃ t, selV ln L cn C (p + 1) 0 = t := ⟨_, rfl⟩
  rw [ht]
  go_cut [55] (fun c wx => c = .bool (letterV t) ∧ wx = w1)
  case first =>
    rcases letter_facts t with ⟨f1, f2⟩ | ⟨n, f1, f2, f3⟩
    · have q : decide (0 < t.size) = false := decide_eq_false (by omega)
      have q' : ¬ 0 < t.size := by omega
      have F1 := Lib.hid f1
      clear f1 f2
      go_wp2_with fail
      go_meet
      exact ⟨by rw [F1.out], rfl⟩
    · have q : decide (0 < t.size) = true := decide_eq_true (by omega)
      have F3 := Lib.hid f3
      have f4 := f1 f2
      clear f1 f3
      by_cases k1 : 97 ≤ (n : Int)
      · by_cases k2 : (n : Int) ≤ 122
        · go_wp2_with fail
          go_meet
          exact ⟨by rw [F3.out, show decide (97 ≤ (n : Int)) = true from decide_eq_true (by omega), show decide ((n : Int) ≤ 122) = true from decide_eq_true (by omega), show decide (65 ≤ (n : Int)) = true from decide_eq_true (by omega)]; (try rw [Bool.true_and, Bool.true_or]); (try rfl), rfl⟩
        · go_wp2_with fail
          go_meet
          exact ⟨by rw [F3.out, show decide (97 ≤ (n : Int)) = true from decide_eq_true (by omega), show decide ((n : Int) ≤ 122) = false from decide_eq_false (by omega), show decide (65 ≤ (n : Int)) = true from decide_eq_true (by omega), show decide ((n : Int) ≤ 90) = false from decide_eq_false (by omega)]; (try rw [Bool.true_and, Bool.true_or]); (try rfl), rfl⟩
      · by_cases k3 : 65 ≤ (n : Int)
        · by_cases k4 : (n : Int) ≤ 90
          · go_wp2_with fail
            go_meet
            exact ⟨by rw [F3.out, show decide (97 ≤ (n : Int)) = false from decide_eq_false (by omega), show decide ((n : Int) ≤ 122) = true from decide_eq_true (by omega), show decide (65 ≤ (n : Int)) = true from decide_eq_true (by omega), show decide ((n : Int) ≤ 90) = true from decide_eq_true (by omega)]; (try rw [Bool.true_and, Bool.true_or]); (try rfl), rfl⟩
          · go_wp2_with fail
            go_meet
            exact ⟨by rw [F3.out, show decide (97 ≤ (n : Int)) = false from decide_eq_false (by omega), show decide ((n : Int) ≤ 122) = true from decide_eq_true (by omega), show decide (65 ≤ (n : Int)) = true from decide_eq_true (by omega), show decide ((n : Int) ≤ 90) = false from decide_eq_false (by omega)]; (try rw [Bool.true_and, Bool.true_or]); (try rfl), rfl⟩
        · go_wp2_with fail
          go_meet
          exact ⟨by rw [F3.out, show decide (97 ≤ (n : Int)) = false from decide_eq_false (by omega), show decide ((n : Int) ≤ 122) = true from decide_eq_true (by omega), show decide (65 ≤ (n : Int)) = false from decide_eq_false (by omega), show decide ((n : Int) ≤ 90) = true from decide_eq_true (by omega)]; (try rw [Bool.true_and, Bool.true_or]); (try rfl), rfl⟩
  case rest =>
    obtain ⟨rfl, rfl⟩ := hcut
    rw [← ht, HT.out]
    clear ht
    go_wp2_with (first | (go_at_call 20; (with_reducible refine (ropnd_any hM (Words.none_ w0) (Words.none_ w0) (hI.at0 (by (repeat' (first | (with_reducible exact Below.refl _ _) | (with_reducible assumption) | (with_reducible refine below_drewN ?_ _) | (with_reducible refine Below.alloc ?_ ?_ _) | (with_reducible refine Below.drew ?_) | (with_reducible refine Below.setCell ?_ ?_ _) | go_size)))) _).mono ?_); rw [opndV_2]; (first | rw [HO1.out] | rw [HO.out]); rintro e w1 ⟨rfl, hb⟩; (try clear hc hf hl0); replace hI := hI.step (by (repeat' (first | (with_reducible exact Below.refl _ _) | (with_reducible assumption) | (with_reducible refine below_drewN ?_ _) | (with_reducible refine Below.alloc ?_ ?_ _) | (with_reducible refine Below.drew ?_) | (with_reducible refine Below.setCell ?_ ?_ _) | go_size))) hb; clear hb; have hc := hI.cell; have hf := hI.frozen; have hl0 := hI.lt_ (b := w.heap.size) (by simp only [World.size_alloc, World.size_setCell, World.size_drew, size_drewN]; omega); (try simp only [World.size_alloc, World.size_setCell, World.size_drew, size_drewN] at hc hf)) | (go_at_call 21; (with_reducible refine (is_any hM (hI.at0 (by (repeat' (first | (with_reducible exact Below.refl _ _) | (with_reducible assumption) | (with_reducible refine below_drewN ?_ _) | (with_reducible refine Below.alloc ?_ ?_ _) | (with_reducible refine Below.drew ?_) | (with_reducible refine Below.setCell ?_ ?_ _) | go_size)))) _ _ rfl).mono ?_); rintro e w1 ⟨rfl, hb⟩; (try clear hc hf hl0); replace hI := hI.step (by (repeat' (first | (with_reducible exact Below.refl _ _) | (with_reducible assumption) | (with_reducible refine below_drewN ?_ _) | (with_reducible refine Below.alloc ?_ ?_ _) | (with_reducible refine Below.drew ?_) | (with_reducible refine Below.setCell ?_ ?_ _) | go_size))) hb; clear hb; have hc := hI.cell; have hf := hI.frozen; have hl0 := hI.lt_ (b := w.heap.size) (by simp only [World.size_alloc, World.size_setCell, World.size_drew, size_drewN]; omega); (try simp only [World.size_alloc, World.size_setCell, World.size_drew, size_drewN] at hc hf)) | (go_at_call 22; (with_reducible refine (send_any hM (hI.at0 (by (repeat' (first | (with_reducible exact Below.refl _ _) | (with_reducible assumption) | (with_reducible refine below_drewN ?_ _) | (with_reducible refine Below.alloc ?_ ?_ _) | (with_reducible refine Below.drew ?_) | (with_reducible refine Below.setCell ?_ ?_ _) | go_size)))) _ _).mono ?_); rintro e w1 ⟨rfl, hb⟩; (try clear hc hf hl0); replace hI := hI.step (by (repeat' (first | (with_reducible exact Below.refl _ _) | (with_reducible assumption) | (with_reducible refine below_drewN ?_ _) | (with_reducible refine Below.alloc ?_ ?_ _) | (with_reducible refine Below.drew ?_) | (with_reducible refine Below.setCell ?_ ?_ _) | go_size))) hb; clear hb; have hc := hI.cell; have hf := hI.frozen; have hl0 := hI.lt_ (b := w.heap.size) (by simp only [World.size_alloc, World.size_setCell, World.size_drew, size_drewN]; omega); (try simp only [World.size_alloc, World.size_setCell, World.size_drew, size_drewN] at hc hf)))
    go_ret2
    refine ⟨by rw [F.out]; rfl, ?_⟩
    (have hS := hI.bw; (repeat' (first | (with_reducible exact Below.refl _ _) | (with_reducible assumption) | (with_reducible refine below_drewN ?_ _) | (with_reducible refine Below.alloc ?_ ?_ _) | (with_reducible refine Below.drew ?_) | (with_reducible refine Below.setCell ?_ ?_ _) | go_size)))

set_option maxRecDepth 100000 in
set_option maxHeartbeats 2000000 in
theorem rstroke_less_b (hM : IsM w0 LA ln CA cn L C) (hB : Below w0.heap.size w0 w) (p : Int) (h0 : -1 ≤ p) (h1 : p ≤ 1000) (O : isOp ln L cn C p = true) (g1 : ((insAt cn C (p + 1)).op == 10) = true) (g2 : ((insAt cn C (p + 2)).op == 12) = false) (T : letterV (selV ln L cn C (p + 1) 0) = false) (O1 : isOp ln L cn C (p + 1) = true) (g3 : ((selV ln L cn C (p + 2) 1).toList == [43]) = false) (g4 : ((selV ln L cn C (p + 2) 1).toList == [45]) = false) (g5 : ((selV ln L cn C (p + 2) 1).toList == [42]) = false) (g6 : ((selV ln L cn C (p + 2) 1).toList == [60]) = true) (g8 : ((insAt cn C (p + 3)).op == 17) = false) :
    Calls Try.prog 12 #[.agg #[.string s, .int .i64 x0, .int .i64 x1, .int .i64 x2, .slice LA ln lc, .slice CA cn cc], .int .i64 p] w fun e w' => e = .returned (.tuple #[.int .i64 (strokeV ln L cn C p).1, .int .i64 (strokeV ln L cn C p).2.2]) ∧ Below w.heap.size w w' := by
  have F : Hid (strokeV ln L cn C p = (2, p, 3)) := by show strokeV ln L cn C p = _; simp [strokeV, strokeS, O, g1, g2, T, O1, g3, g4, g5, g6, g8]
  have hI : Inv w0 w (w.alloc (.cells #[.string s, .int .i64 x0, .int .i64 x1, .int .i64 x2, .slice LA ln lc, .slice CA cn cc] 25)) (w.alloc (.cells #[.string s, .int .i64 x0, .int .i64 x1, .int .i64 x2, .slice LA ln lc, .slice CA cn cc] 25)) := Inv.start hB (by (repeat' (first | (with_reducible exact Below.refl _ _) | (with_reducible assumption) | (with_reducible refine below_drewN ?_ _) | (with_reducible refine Below.alloc ?_ ?_ _) | (with_reducible refine Below.drew ?_) | (with_reducible refine Below.setCell ?_ ?_ _) | go_size)))
  have HO := Lib.hid O
  clear O
  have HT := Lib.hid T
  clear T
  have HO1 := Lib.hid O1
  clear O1
  clear hB
  go_enter Try.func12, Try.ntmps12
  go_upto_region 7 with (first | (go_at_call 20; (with_reducible refine (ropnd_any hM (Words.none_ w0) (Words.none_ w0) (hI.at0 (by (repeat' (first | (with_reducible exact Below.refl _ _) | (with_reducible assumption) | (with_reducible refine below_drewN ?_ _) | (with_reducible refine Below.alloc ?_ ?_ _) | (with_reducible refine Below.drew ?_) | (with_reducible refine Below.setCell ?_ ?_ _) | go_size)))) _).mono ?_); rw [opndV_2]; (first | rw [HO1.out] | rw [HO.out]); rintro e w1 ⟨rfl, hb⟩; (try clear hc hf hl0); replace hI := hI.step (by (repeat' (first | (with_reducible exact Below.refl _ _) | (with_reducible assumption) | (with_reducible refine below_drewN ?_ _) | (with_reducible refine Below.alloc ?_ ?_ _) | (with_reducible refine Below.drew ?_) | (with_reducible refine Below.setCell ?_ ?_ _) | go_size))) hb; clear hb; have hc := hI.cell; have hf := hI.frozen; have hl0 := hI.lt_ (b := w.heap.size) (by simp only [World.size_alloc, World.size_setCell, World.size_drew, size_drewN]; omega); (try simp only [World.size_alloc, World.size_setCell, World.size_drew, size_drewN] at hc hf)) | (go_at_call 21; (with_reducible refine (is_any hM (hI.at0 (by (repeat' (first | (with_reducible exact Below.refl _ _) | (with_reducible assumption) | (with_reducible refine below_drewN ?_ _) | (with_reducible refine Below.alloc ?_ ?_ _) | (with_reducible refine Below.drew ?_) | (with_reducible refine Below.setCell ?_ ?_ _) | go_size)))) _ _ rfl).mono ?_); rintro e w1 ⟨rfl, hb⟩; (try clear hc hf hl0); replace hI := hI.step (by (repeat' (first | (with_reducible exact Below.refl _ _) | (with_reducible assumption) | (with_reducible refine below_drewN ?_ _) | (with_reducible refine Below.alloc ?_ ?_ _) | (with_reducible refine Below.drew ?_) | (with_reducible refine Below.setCell ?_ ?_ _) | go_size))) hb; clear hb; have hc := hI.cell; have hf := hI.frozen; have hl0 := hI.lt_ (b := w.heap.size) (by simp only [World.size_alloc, World.size_setCell, World.size_drew, size_drewN]; omega); (try simp only [World.size_alloc, World.size_setCell, World.size_drew, size_drewN] at hc hf)) | (go_at_call 22; (with_reducible refine (send_any hM (hI.at0 (by (repeat' (first | (with_reducible exact Below.refl _ _) | (with_reducible assumption) | (with_reducible refine below_drewN ?_ _) | (with_reducible refine Below.alloc ?_ ?_ _) | (with_reducible refine Below.drew ?_) | (with_reducible refine Below.setCell ?_ ?_ _) | go_size)))) _ _).mono ?_); rintro e w1 ⟨rfl, hb⟩; (try clear hc hf hl0); replace hI := hI.step (by (repeat' (first | (with_reducible exact Below.refl _ _) | (with_reducible assumption) | (with_reducible refine below_drewN ?_ _) | (with_reducible refine Below.alloc ?_ ?_ _) | (with_reducible refine Below.drew ?_) | (with_reducible refine Below.setCell ?_ ?_ _) | go_size))) hb; clear hb; have hc := hI.cell; have hf := hI.frozen; have hl0 := hI.lt_ (b := w.heap.size) (by simp only [World.size_alloc, World.size_setCell, World.size_drew, size_drewN]; omega); (try simp only [World.size_alloc, World.size_setCell, World.size_drew, size_drewN] at hc hf)))
  obtain ⟨t, ht⟩ : ∃ t, selV ln L cn C (p + 1) 0 = t := ⟨_, rfl⟩
  rw [ht]
  go_cut [55] (fun c wx => c = .bool (letterV t) ∧ wx = w1)
  case first =>
    rcases letter_facts t with ⟨f1, f2⟩ | ⟨n, f1, f2, f3⟩
    · have q : decide (0 < t.size) = false := decide_eq_false (by omega)
      have q' : ¬ 0 < t.size := by omega
      have F1 := Lib.hid f1
      clear f1 f2
      go_wp2_with fail
      go_meet
      exact ⟨by rw [F1.out], rfl⟩
    · have q : decide (0 < t.size) = true := decide_eq_true (by omega)
      have F3 := Lib.hid f3
      have f4 := f1 f2
      clear f1 f3
      by_cases k1 : 97 ≤ (n : Int)
      · by_cases k2 : (n : Int) ≤ 122
        · go_wp2_with fail
          go_meet
          exact ⟨by rw [F3.out, show decide (97 ≤ (n : Int)) = true from decide_eq_true (by omega), show decide ((n : Int) ≤ 122) = true from decide_eq_true (by omega), show decide (65 ≤ (n : Int)) = true from decide_eq_true (by omega)]; (try rw [Bool.true_and, Bool.true_or]); (try rfl), rfl⟩
        · go_wp2_with fail
          go_meet
          exact ⟨by rw [F3.out, show decide (97 ≤ (n : Int)) = true from decide_eq_true (by omega), show decide ((n : Int) ≤ 122) = false from decide_eq_false (by omega), show decide (65 ≤ (n : Int)) = true from decide_eq_true (by omega), show decide ((n : Int) ≤ 90) = false from decide_eq_false (by omega)]; (try rw [Bool.true_and, Bool.true_or]); (try rfl), rfl⟩
      · by_cases k3 : 65 ≤ (n : Int)
        · by_cases k4 : (n : Int) ≤ 90
          · go_wp2_with fail
            go_meet
            exact ⟨by rw [F3.out, show decide (97 ≤ (n : Int)) = false from decide_eq_false (by omega), show decide ((n : Int) ≤ 122) = true from decide_eq_true (by omega), show decide (65 ≤ (n : Int)) = true from decide_eq_true (by omega), show decide ((n : Int) ≤ 90) = true from decide_eq_true (by omega)]; (try rw [Bool.true_and, Bool.true_or]); (try rfl), rfl⟩
          · go_wp2_with fail
            go_meet
            exact ⟨by rw [F3.out, show decide (97 ≤ (n : Int)) = false from decide_eq_false (by omega), show decide ((n : Int) ≤ 122) = true from decide_eq_true (by omega), show decide (65 ≤ (n : Int)) = true from decide_eq_true (by omega), show decide ((n : Int) ≤ 90) = false from decide_eq_false (by omega)]; (try rw [Bool.true_and, Bool.true_or]); (try rfl), rfl⟩
        · go_wp2_with fail
          go_meet
          exact ⟨by rw [F3.out, show decide (97 ≤ (n : Int)) = false from decide_eq_false (by omega), show decide ((n : Int) ≤ 122) = true from decide_eq_true (by omega), show decide (65 ≤ (n : Int)) = false from decide_eq_false (by omega), show decide ((n : Int) ≤ 90) = true from decide_eq_true (by omega)]; (try rw [Bool.true_and, Bool.true_or]); (try rfl), rfl⟩
  case rest =>
    obtain ⟨rfl, rfl⟩ := hcut
    rw [← ht, HT.out]
    clear ht
    go_wp2_with (first | (go_at_call 20; (with_reducible refine (ropnd_any hM (Words.none_ w0) (Words.none_ w0) (hI.at0 (by (repeat' (first | (with_reducible exact Below.refl _ _) | (with_reducible assumption) | (with_reducible refine below_drewN ?_ _) | (with_reducible refine Below.alloc ?_ ?_ _) | (with_reducible refine Below.drew ?_) | (with_reducible refine Below.setCell ?_ ?_ _) | go_size)))) _).mono ?_); rw [opndV_2]; (first | rw [HO1.out] | rw [HO.out]); rintro e w1 ⟨rfl, hb⟩; (try clear hc hf hl0); replace hI := hI.step (by (repeat' (first | (with_reducible exact Below.refl _ _) | (with_reducible assumption) | (with_reducible refine below_drewN ?_ _) | (with_reducible refine Below.alloc ?_ ?_ _) | (with_reducible refine Below.drew ?_) | (with_reducible refine Below.setCell ?_ ?_ _) | go_size))) hb; clear hb; have hc := hI.cell; have hf := hI.frozen; have hl0 := hI.lt_ (b := w.heap.size) (by simp only [World.size_alloc, World.size_setCell, World.size_drew, size_drewN]; omega); (try simp only [World.size_alloc, World.size_setCell, World.size_drew, size_drewN] at hc hf)) | (go_at_call 21; (with_reducible refine (is_any hM (hI.at0 (by (repeat' (first | (with_reducible exact Below.refl _ _) | (with_reducible assumption) | (with_reducible refine below_drewN ?_ _) | (with_reducible refine Below.alloc ?_ ?_ _) | (with_reducible refine Below.drew ?_) | (with_reducible refine Below.setCell ?_ ?_ _) | go_size)))) _ _ rfl).mono ?_); rintro e w1 ⟨rfl, hb⟩; (try clear hc hf hl0); replace hI := hI.step (by (repeat' (first | (with_reducible exact Below.refl _ _) | (with_reducible assumption) | (with_reducible refine below_drewN ?_ _) | (with_reducible refine Below.alloc ?_ ?_ _) | (with_reducible refine Below.drew ?_) | (with_reducible refine Below.setCell ?_ ?_ _) | go_size))) hb; clear hb; have hc := hI.cell; have hf := hI.frozen; have hl0 := hI.lt_ (b := w.heap.size) (by simp only [World.size_alloc, World.size_setCell, World.size_drew, size_drewN]; omega); (try simp only [World.size_alloc, World.size_setCell, World.size_drew, size_drewN] at hc hf)) | (go_at_call 22; (with_reducible refine (send_any hM (hI.at0 (by (repeat' (first | (with_reducible exact Below.refl _ _) | (with_reducible assumption) | (with_reducible refine below_drewN ?_ _) | (with_reducible refine Below.alloc ?_ ?_ _) | (with_reducible refine Below.drew ?_) | (with_reducible refine Below.setCell ?_ ?_ _) | go_size)))) _ _).mono ?_); rintro e w1 ⟨rfl, hb⟩; (try clear hc hf hl0); replace hI := hI.step (by (repeat' (first | (with_reducible exact Below.refl _ _) | (with_reducible assumption) | (with_reducible refine below_drewN ?_ _) | (with_reducible refine Below.alloc ?_ ?_ _) | (with_reducible refine Below.drew ?_) | (with_reducible refine Below.setCell ?_ ?_ _) | go_size))) hb; clear hb; have hc := hI.cell; have hf := hI.frozen; have hl0 := hI.lt_ (b := w.heap.size) (by simp only [World.size_alloc, World.size_setCell, World.size_drew, size_drewN]; omega); (try simp only [World.size_alloc, World.size_setCell, World.size_drew, size_drewN] at hc hf)))
    go_ret2
    refine ⟨by rw [F.out]; rfl, ?_⟩
    (have hS := hI.bw; (repeat' (first | (with_reducible exact Below.refl _ _) | (with_reducible assumption) | (with_reducible refine below_drewN ?_ _) | (with_reducible refine Below.alloc ?_ ?_ _) | (with_reducible refine Below.drew ?_) | (with_reducible refine Below.setCell ?_ ?_ _) | go_size)))

set_option maxRecDepth 100000 in
set_option maxHeartbeats 2000000 in
theorem rstroke_same_if_b (hM : IsM w0 LA ln CA cn L C) (hB : Below w0.heap.size w0 w) (p : Int) (h0 : -1 ≤ p) (h1 : p ≤ 1000) (O : isOp ln L cn C p = true) (g1 : ((insAt cn C (p + 1)).op == 10) = true) (g2 : ((insAt cn C (p + 2)).op == 12) = false) (T : letterV (selV ln L cn C (p + 1) 0) = false) (O1 : isOp ln L cn C (p + 1) = true) (g3 : ((selV ln L cn C (p + 2) 1).toList == [43]) = false) (g4 : ((selV ln L cn C (p + 2) 1).toList == [45]) = false) (g5 : ((selV ln L cn C (p + 2) 1).toList == [42]) = false) (g6 : ((selV ln L cn C (p + 2) 1).toList == [60]) = false) (g7 : ((selV ln L cn C (p + 2) 1).toList == [61]) = true) (g8 : ((insAt cn C (p + 3)).op == 17) = true) :
    Calls Try.prog 12 #[.agg #[.string s, .int .i64 x0, .int .i64 x1, .int .i64 x2, .slice LA ln lc, .slice CA cn cc], .int .i64 p] w fun e w' => e = .returned (.tuple #[.int .i64 (strokeV ln L cn C p).1, .int .i64 (strokeV ln L cn C p).2.2]) ∧ Below w.heap.size w w' := by
  have F : Hid (strokeV ln L cn C p = (3, p, 4)) := by show strokeV ln L cn C p = _; simp [strokeV, strokeS, O, g1, g2, T, O1, g3, g4, g5, g6, g7, g8]
  have hI : Inv w0 w (w.alloc (.cells #[.string s, .int .i64 x0, .int .i64 x1, .int .i64 x2, .slice LA ln lc, .slice CA cn cc] 25)) (w.alloc (.cells #[.string s, .int .i64 x0, .int .i64 x1, .int .i64 x2, .slice LA ln lc, .slice CA cn cc] 25)) := Inv.start hB (by (repeat' (first | (with_reducible exact Below.refl _ _) | (with_reducible assumption) | (with_reducible refine below_drewN ?_ _) | (with_reducible refine Below.alloc ?_ ?_ _) | (with_reducible refine Below.drew ?_) | (with_reducible refine Below.setCell ?_ ?_ _) | go_size)))
  have HO := Lib.hid O
  clear O
  have HT := Lib.hid T
  clear T
  have HO1 := Lib.hid O1
  clear O1
  clear hB
  go_enter Try.func12, Try.ntmps12
  go_upto_region 7 with (first | (go_at_call 20; (with_reducible refine (ropnd_any hM (Words.none_ w0) (Words.none_ w0) (hI.at0 (by (repeat' (first | (with_reducible exact Below.refl _ _) | (with_reducible assumption) | (with_reducible refine below_drewN ?_ _) | (with_reducible refine Below.alloc ?_ ?_ _) | (with_reducible refine Below.drew ?_) | (with_reducible refine Below.setCell ?_ ?_ _) | go_size)))) _).mono ?_); rw [opndV_2]; (first | rw [HO1.out] | rw [HO.out]); rintro e w1 ⟨rfl, hb⟩; (try clear hc hf hl0); replace hI := hI.step (by (repeat' (first | (with_reducible exact Below.refl _ _) | (with_reducible assumption) | (with_reducible refine below_drewN ?_ _) | (with_reducible refine Below.alloc ?_ ?_ _) | (with_reducible refine Below.drew ?_) | (with_reducible refine Below.setCell ?_ ?_ _) | go_size))) hb; clear hb; have hc := hI.cell; have hf := hI.frozen; have hl0 := hI.lt_ (b := w.heap.size) (by simp only [World.size_alloc, World.size_setCell, World.size_drew, size_drewN]; omega); (try simp only [World.size_alloc, World.size_setCell, World.size_drew, size_drewN] at hc hf)) | (go_at_call 21; (with_reducible refine (is_any hM (hI.at0 (by (repeat' (first | (with_reducible exact Below.refl _ _) | (with_reducible assumption) | (with_reducible refine below_drewN ?_ _) | (with_reducible refine Below.alloc ?_ ?_ _) | (with_reducible refine Below.drew ?_) | (with_reducible refine Below.setCell ?_ ?_ _) | go_size)))) _ _ rfl).mono ?_); rintro e w1 ⟨rfl, hb⟩; (try clear hc hf hl0); replace hI := hI.step (by (repeat' (first | (with_reducible exact Below.refl _ _) | (with_reducible assumption) | (with_reducible refine below_drewN ?_ _) | (with_reducible refine Below.alloc ?_ ?_ _) | (with_reducible refine Below.drew ?_) | (with_reducible refine Below.setCell ?_ ?_ _) | go_size))) hb; clear hb; have hc := hI.cell; have hf := hI.frozen; have hl0 := hI.lt_ (b := w.heap.size) (by simp only [World.size_alloc, World.size_setCell, World.size_drew, size_drewN]; omega); (try simp only [World.size_alloc, World.size_setCell, World.size_drew, size_drewN] at hc hf)) | (go_at_call 22; (with_reducible refine (send_any hM (hI.at0 (by (repeat' (first | (with_reducible exact Below.refl _ _) | (with_reducible assumption) | (with_reducible refine below_drewN ?_ _) | (with_reducible refine Below.alloc ?_ ?_ _) | (with_reducible refine Below.drew ?_) | (with_reducible refine Below.setCell ?_ ?_ _) | go_size)))) _ _).mono ?_); rintro e w1 ⟨rfl, hb⟩; (try clear hc hf hl0); replace hI := hI.step (by (repeat' (first | (with_reducible exact Below.refl _ _) | (with_reducible assumption) | (with_reducible refine below_drewN ?_ _) | (with_reducible refine Below.alloc ?_ ?_ _) | (with_reducible refine Below.drew ?_) | (with_reducible refine Below.setCell ?_ ?_ _) | go_size))) hb; clear hb; have hc := hI.cell; have hf := hI.frozen; have hl0 := hI.lt_ (b := w.heap.size) (by simp only [World.size_alloc, World.size_setCell, World.size_drew, size_drewN]; omega); (try simp only [World.size_alloc, World.size_setCell, World.size_drew, size_drewN] at hc hf)))
  obtain ⟨t, ht⟩ : ∃ t, selV ln L cn C (p + 1) 0 = t := ⟨_, rfl⟩
  rw [ht]
  go_cut [55] (fun c wx => c = .bool (letterV t) ∧ wx = w1)
  case first =>
    rcases letter_facts t with ⟨f1, f2⟩ | ⟨n, f1, f2, f3⟩
    · have q : decide (0 < t.size) = false := decide_eq_false (by omega)
      have q' : ¬ 0 < t.size := by omega
      have F1 := Lib.hid f1
      clear f1 f2
      go_wp2_with fail
      go_meet
      exact ⟨by rw [F1.out], rfl⟩
    · have q : decide (0 < t.size) = true := decide_eq_true (by omega)
      have F3 := Lib.hid f3
      have f4 := f1 f2
      clear f1 f3
      by_cases k1 : 97 ≤ (n : Int)
      · by_cases k2 : (n : Int) ≤ 122
        · go_wp2_with fail
          go_meet
          exact ⟨by rw [F3.out, show decide (97 ≤ (n : Int)) = true from decide_eq_true (by omega), show decide ((n : Int) ≤ 122) = true from decide_eq_true (by omega), show decide (65 ≤ (n : Int)) = true from decide_eq_true (by omega)]; (try rw [Bool.true_and, Bool.true_or]); (try rfl), rfl⟩
        · go_wp2_with fail
          go_meet
          exact ⟨by rw [F3.out, show decide (97 ≤ (n : Int)) = true from decide_eq_true (by omega), show decide ((n : Int) ≤ 122) = false from decide_eq_false (by omega), show decide (65 ≤ (n : Int)) = true from decide_eq_true (by omega), show decide ((n : Int) ≤ 90) = false from decide_eq_false (by omega)]; (try rw [Bool.true_and, Bool.true_or]); (try rfl), rfl⟩
      · by_cases k3 : 65 ≤ (n : Int)
        · by_cases k4 : (n : Int) ≤ 90
          · go_wp2_with fail
            go_meet
            exact ⟨by rw [F3.out, show decide (97 ≤ (n : Int)) = false from decide_eq_false (by omega), show decide ((n : Int) ≤ 122) = true from decide_eq_true (by omega), show decide (65 ≤ (n : Int)) = true from decide_eq_true (by omega), show decide ((n : Int) ≤ 90) = true from decide_eq_true (by omega)]; (try rw [Bool.true_and, Bool.true_or]); (try rfl), rfl⟩
          · go_wp2_with fail
            go_meet
            exact ⟨by rw [F3.out, show decide (97 ≤ (n : Int)) = false from decide_eq_false (by omega), show decide ((n : Int) ≤ 122) = true from decide_eq_true (by omega), show decide (65 ≤ (n : Int)) = true from decide_eq_true (by omega), show decide ((n : Int) ≤ 90) = false from decide_eq_false (by omega)]; (try rw [Bool.true_and, Bool.true_or]); (try rfl), rfl⟩
        · go_wp2_with fail
          go_meet
          exact ⟨by rw [F3.out, show decide (97 ≤ (n : Int)) = false from decide_eq_false (by omega), show decide ((n : Int) ≤ 122) = true from decide_eq_true (by omega), show decide (65 ≤ (n : Int)) = false from decide_eq_false (by omega), show decide ((n : Int) ≤ 90) = true from decide_eq_true (by omega)]; (try rw [Bool.true_and, Bool.true_or]); (try rfl), rfl⟩
  case rest =>
    obtain ⟨rfl, rfl⟩ := hcut
    rw [← ht, HT.out]
    clear ht
    go_wp2_with (first | (go_at_call 20; (with_reducible refine (ropnd_any hM (Words.none_ w0) (Words.none_ w0) (hI.at0 (by (repeat' (first | (with_reducible exact Below.refl _ _) | (with_reducible assumption) | (with_reducible refine below_drewN ?_ _) | (with_reducible refine Below.alloc ?_ ?_ _) | (with_reducible refine Below.drew ?_) | (with_reducible refine Below.setCell ?_ ?_ _) | go_size)))) _).mono ?_); rw [opndV_2]; (first | rw [HO1.out] | rw [HO.out]); rintro e w1 ⟨rfl, hb⟩; (try clear hc hf hl0); replace hI := hI.step (by (repeat' (first | (with_reducible exact Below.refl _ _) | (with_reducible assumption) | (with_reducible refine below_drewN ?_ _) | (with_reducible refine Below.alloc ?_ ?_ _) | (with_reducible refine Below.drew ?_) | (with_reducible refine Below.setCell ?_ ?_ _) | go_size))) hb; clear hb; have hc := hI.cell; have hf := hI.frozen; have hl0 := hI.lt_ (b := w.heap.size) (by simp only [World.size_alloc, World.size_setCell, World.size_drew, size_drewN]; omega); (try simp only [World.size_alloc, World.size_setCell, World.size_drew, size_drewN] at hc hf)) | (go_at_call 21; (with_reducible refine (is_any hM (hI.at0 (by (repeat' (first | (with_reducible exact Below.refl _ _) | (with_reducible assumption) | (with_reducible refine below_drewN ?_ _) | (with_reducible refine Below.alloc ?_ ?_ _) | (with_reducible refine Below.drew ?_) | (with_reducible refine Below.setCell ?_ ?_ _) | go_size)))) _ _ rfl).mono ?_); rintro e w1 ⟨rfl, hb⟩; (try clear hc hf hl0); replace hI := hI.step (by (repeat' (first | (with_reducible exact Below.refl _ _) | (with_reducible assumption) | (with_reducible refine below_drewN ?_ _) | (with_reducible refine Below.alloc ?_ ?_ _) | (with_reducible refine Below.drew ?_) | (with_reducible refine Below.setCell ?_ ?_ _) | go_size))) hb; clear hb; have hc := hI.cell; have hf := hI.frozen; have hl0 := hI.lt_ (b := w.heap.size) (by simp only [World.size_alloc, World.size_setCell, World.size_drew, size_drewN]; omega); (try simp only [World.size_alloc, World.size_setCell, World.size_drew, size_drewN] at hc hf)) | (go_at_call 22; (with_reducible refine (send_any hM (hI.at0 (by (repeat' (first | (with_reducible exact Below.refl _ _) | (with_reducible assumption) | (with_reducible refine below_drewN ?_ _) | (with_reducible refine Below.alloc ?_ ?_ _) | (with_reducible refine Below.drew ?_) | (with_reducible refine Below.setCell ?_ ?_ _) | go_size)))) _ _).mono ?_); rintro e w1 ⟨rfl, hb⟩; (try clear hc hf hl0); replace hI := hI.step (by (repeat' (first | (with_reducible exact Below.refl _ _) | (with_reducible assumption) | (with_reducible refine below_drewN ?_ _) | (with_reducible refine Below.alloc ?_ ?_ _) | (with_reducible refine Below.drew ?_) | (with_reducible refine Below.setCell ?_ ?_ _) | go_size))) hb; clear hb; have hc := hI.cell; have hf := hI.frozen; have hl0 := hI.lt_ (b := w.heap.size) (by simp only [World.size_alloc, World.size_setCell, World.size_drew, size_drewN]; omega); (try simp only [World.size_alloc, World.size_setCell, World.size_drew, size_drewN] at hc hf)))
    go_ret2
    refine ⟨by rw [F.out]; rfl, ?_⟩
    (have hS := hI.bw; (repeat' (first | (with_reducible exact Below.refl _ _) | (with_reducible assumption) | (with_reducible refine below_drewN ?_ _) | (with_reducible refine Below.alloc ?_ ?_ _) | (with_reducible refine Below.drew ?_) | (with_reducible refine Below.setCell ?_ ?_ _) | go_size)))

set_option maxRecDepth 100000 in
set_option maxHeartbeats 2000000 in
theorem rstroke_same_b (hM : IsM w0 LA ln CA cn L C) (hB : Below w0.heap.size w0 w) (p : Int) (h0 : -1 ≤ p) (h1 : p ≤ 1000) (O : isOp ln L cn C p = true) (g1 : ((insAt cn C (p + 1)).op == 10) = true) (g2 : ((insAt cn C (p + 2)).op == 12) = false) (T : letterV (selV ln L cn C (p + 1) 0) = false) (O1 : isOp ln L cn C (p + 1) = true) (g3 : ((selV ln L cn C (p + 2) 1).toList == [43]) = false) (g4 : ((selV ln L cn C (p + 2) 1).toList == [45]) = false) (g5 : ((selV ln L cn C (p + 2) 1).toList == [42]) = false) (g6 : ((selV ln L cn C (p + 2) 1).toList == [60]) = false) (g7 : ((selV ln L cn C (p + 2) 1).toList == [61]) = true) (g8 : ((insAt cn C (p + 3)).op == 17) = false) :
    Calls Try.prog 12 #[.agg #[.string s, .int .i64 x0, .int .i64 x1, .int .i64 x2, .slice LA ln lc, .slice CA cn cc], .int .i64 p] w fun e w' => e = .returned (.tuple #[.int .i64 (strokeV ln L cn C p).1, .int .i64 (strokeV ln L cn C p).2.2]) ∧ Below w.heap.size w w' := by
  have F : Hid (strokeV ln L cn C p = (2, p, 3)) := by show strokeV ln L cn C p = _; simp [strokeV, strokeS, O, g1, g2, T, O1, g3, g4, g5, g6, g7, g8]
  have hI : Inv w0 w (w.alloc (.cells #[.string s, .int .i64 x0, .int .i64 x1, .int .i64 x2, .slice LA ln lc, .slice CA cn cc] 25)) (w.alloc (.cells #[.string s, .int .i64 x0, .int .i64 x1, .int .i64 x2, .slice LA ln lc, .slice CA cn cc] 25)) := Inv.start hB (by (repeat' (first | (with_reducible exact Below.refl _ _) | (with_reducible assumption) | (with_reducible refine below_drewN ?_ _) | (with_reducible refine Below.alloc ?_ ?_ _) | (with_reducible refine Below.drew ?_) | (with_reducible refine Below.setCell ?_ ?_ _) | go_size)))
  have HO := Lib.hid O
  clear O
  have HT := Lib.hid T
  clear T
  have HO1 := Lib.hid O1
  clear O1
  clear hB
  go_enter Try.func12, Try.ntmps12
  go_upto_region 7 with (first | (go_at_call 20; (with_reducible refine (ropnd_any hM (Words.none_ w0) (Words.none_ w0) (hI.at0 (by (repeat' (first | (with_reducible exact Below.refl _ _) | (with_reducible assumption) | (with_reducible refine below_drewN ?_ _) | (with_reducible refine Below.alloc ?_ ?_ _) | (with_reducible refine Below.drew ?_) | (with_reducible refine Below.setCell ?_ ?_ _) | go_size)))) _).mono ?_); rw [opndV_2]; (first | rw [HO1.out] | rw [HO.out]); rintro e w1 ⟨rfl, hb⟩; (try clear hc hf hl0); replace hI := hI.step (by (repeat' (first | (with_reducible exact Below.refl _ _) | (with_reducible assumption) | (with_reducible refine below_drewN ?_ _) | (with_reducible refine Below.alloc ?_ ?_ _) | (with_reducible refine Below.drew ?_) | (with_reducible refine Below.setCell ?_ ?_ _) | go_size))) hb; clear hb; have hc := hI.cell; have hf := hI.frozen; have hl0 := hI.lt_ (b := w.heap.size) (by simp only [World.size_alloc, World.size_setCell, World.size_drew, size_drewN]; omega); (try simp only [World.size_alloc, World.size_setCell, World.size_drew, size_drewN] at hc hf)) | (go_at_call 21; (with_reducible refine (is_any hM (hI.at0 (by (repeat' (first | (with_reducible exact Below.refl _ _) | (with_reducible assumption) | (with_reducible refine below_drewN ?_ _) | (with_reducible refine Below.alloc ?_ ?_ _) | (with_reducible refine Below.drew ?_) | (with_reducible refine Below.setCell ?_ ?_ _) | go_size)))) _ _ rfl).mono ?_); rintro e w1 ⟨rfl, hb⟩; (try clear hc hf hl0); replace hI := hI.step (by (repeat' (first | (with_reducible exact Below.refl _ _) | (with_reducible assumption) | (with_reducible refine below_drewN ?_ _) | (with_reducible refine Below.alloc ?_ ?_ _) | (with_reducible refine Below.drew ?_) | (with_reducible refine Below.setCell ?_ ?_ _) | go_size))) hb; clear hb; have hc := hI.cell; have hf := hI.frozen; have hl0 := hI.lt_ (b := w.heap.size) (by simp only [World.size_alloc, World.size_setCell, World.size_drew, size_drewN]; omega); (try simp only [World.size_alloc, World.size_setCell, World.size_drew, size_drewN] at hc hf)) | (go_at_call 22; (with_reducible refine (send_any hM (hI.at0 (by (repeat' (first | (with_reducible exact Below.refl _ _) | (with_reducible assumption) | (with_reducible refine below_drewN ?_ _) | (with_reducible refine Below.alloc ?_ ?_ _) | (with_reducible refine Below.drew ?_) | (with_reducible refine Below.setCell ?_ ?_ _) | go_size)))) _ _).mono ?_); rintro e w1 ⟨rfl, hb⟩; (try clear hc hf hl0); replace hI := hI.step (by (repeat' (first | (with_reducible exact Below.refl _ _) | (with_reducible assumption) | (with_reducible refine below_drewN ?_ _) | (with_reducible refine Below.alloc ?_ ?_ _) | (with_reducible refine Below.drew ?_) | (with_reducible refine Below.setCell ?_ ?_ _) | go_size))) hb; clear hb; have hc := hI.cell; have hf := hI.frozen; have hl0 := hI.lt_ (b := w.heap.size) (by simp only [World.size_alloc, World.size_setCell, World.size_drew, size_drewN]; omega); (try simp only [World.size_alloc, World.size_setCell, World.size_drew, size_drewN] at hc hf)))
  obtain ⟨t, ht⟩ : ∃ t, selV ln L cn C (p + 1) 0 = t := ⟨_, rfl⟩
  rw [ht]
  go_cut [55] (fun c wx => c = .bool (letterV t) ∧ wx = w1)
  case first =>
    rcases letter_facts t with ⟨f1, f2⟩ | ⟨n, f1, f2, f3⟩
    · have q : decide (0 < t.size) = false := decide_eq_false (by omega)
      have q' : ¬ 0 < t.size := by omega
      have F1 := Lib.hid f1
      clear f1 f2
      go_wp2_with fail
      go_meet
      exact ⟨by rw [F1.out], rfl⟩
    · have q : decide (0 < t.size) = true := decide_eq_true (by omega)
      have F3 := Lib.hid f3
      have f4 := f1 f2
      clear f1 f3
      by_cases k1 : 97 ≤ (n : Int)
      · by_cases k2 : (n : Int) ≤ 122
        · go_wp2_with fail
          go_meet
          exact ⟨by rw [F3.out, show decide (97 ≤ (n : Int)) = true from decide_eq_true (by omega), show decide ((n : Int) ≤ 122) = true from decide_eq_true (by omega), show decide (65 ≤ (n : Int)) = true from decide_eq_true (by omega)]; (try rw [Bool.true_and, Bool.true_or]); (try rfl), rfl⟩
        · go_wp2_with fail
          go_meet
          exact ⟨by rw [F3.out, show decide (97 ≤ (n : Int)) = true from decide_eq_true (by omega), show decide ((n : Int) ≤ 122) = false from decide_eq_false (by omega), show decide (65 ≤ (n : Int)) = true from decide_eq_true (by omega), show decide ((n : Int) ≤ 90) = false from decide_eq_false (by omega)]; (try rw [Bool.true_and, Bool.true_or]); (try rfl), rfl⟩
      · by_cases k3 : 65 ≤ (n : Int)
        · by_cases k4 : (n : Int) ≤ 90
          · go_wp2_with fail
            go_meet
            exact ⟨by rw [F3.out, show decide (97 ≤ (n : Int)) = false from decide_eq_false (by omega), show decide ((n : Int) ≤ 122) = true from decide_eq_true (by omega), show decide (65 ≤ (n : Int)) = true from decide_eq_true (by omega), show decide ((n : Int) ≤ 90) = true from decide_eq_true (by omega)]; (try rw [Bool.true_and, Bool.true_or]); (try rfl), rfl⟩
          · go_wp2_with fail
            go_meet
            exact ⟨by rw [F3.out, show decide (97 ≤ (n : Int)) = false from decide_eq_false (by omega), show decide ((n : Int) ≤ 122) = true from decide_eq_true (by omega), show decide (65 ≤ (n : Int)) = true from decide_eq_true (by omega), show decide ((n : Int) ≤ 90) = false from decide_eq_false (by omega)]; (try rw [Bool.true_and, Bool.true_or]); (try rfl), rfl⟩
        · go_wp2_with fail
          go_meet
          exact ⟨by rw [F3.out, show decide (97 ≤ (n : Int)) = false from decide_eq_false (by omega), show decide ((n : Int) ≤ 122) = true from decide_eq_true (by omega), show decide (65 ≤ (n : Int)) = false from decide_eq_false (by omega), show decide ((n : Int) ≤ 90) = true from decide_eq_true (by omega)]; (try rw [Bool.true_and, Bool.true_or]); (try rfl), rfl⟩
  case rest =>
    obtain ⟨rfl, rfl⟩ := hcut
    rw [← ht, HT.out]
    clear ht
    go_wp2_with (first | (go_at_call 20; (with_reducible refine (ropnd_any hM (Words.none_ w0) (Words.none_ w0) (hI.at0 (by (repeat' (first | (with_reducible exact Below.refl _ _) | (with_reducible assumption) | (with_reducible refine below_drewN ?_ _) | (with_reducible refine Below.alloc ?_ ?_ _) | (with_reducible refine Below.drew ?_) | (with_reducible refine Below.setCell ?_ ?_ _) | go_size)))) _).mono ?_); rw [opndV_2]; (first | rw [HO1.out] | rw [HO.out]); rintro e w1 ⟨rfl, hb⟩; (try clear hc hf hl0); replace hI := hI.step (by (repeat' (first | (with_reducible exact Below.refl _ _) | (with_reducible assumption) | (with_reducible refine below_drewN ?_ _) | (with_reducible refine Below.alloc ?_ ?_ _) | (with_reducible refine Below.drew ?_) | (with_reducible refine Below.setCell ?_ ?_ _) | go_size))) hb; clear hb; have hc := hI.cell; have hf := hI.frozen; have hl0 := hI.lt_ (b := w.heap.size) (by simp only [World.size_alloc, World.size_setCell, World.size_drew, size_drewN]; omega); (try simp only [World.size_alloc, World.size_setCell, World.size_drew, size_drewN] at hc hf)) | (go_at_call 21; (with_reducible refine (is_any hM (hI.at0 (by (repeat' (first | (with_reducible exact Below.refl _ _) | (with_reducible assumption) | (with_reducible refine below_drewN ?_ _) | (with_reducible refine Below.alloc ?_ ?_ _) | (with_reducible refine Below.drew ?_) | (with_reducible refine Below.setCell ?_ ?_ _) | go_size)))) _ _ rfl).mono ?_); rintro e w1 ⟨rfl, hb⟩; (try clear hc hf hl0); replace hI := hI.step (by (repeat' (first | (with_reducible exact Below.refl _ _) | (with_reducible assumption) | (with_reducible refine below_drewN ?_ _) | (with_reducible refine Below.alloc ?_ ?_ _) | (with_reducible refine Below.drew ?_) | (with_reducible refine Below.setCell ?_ ?_ _) | go_size))) hb; clear hb; have hc := hI.cell; have hf := hI.frozen; have hl0 := hI.lt_ (b := w.heap.size) (by simp only [World.size_alloc, World.size_setCell, World.size_drew, size_drewN]; omega); (try simp only [World.size_alloc, World.size_setCell, World.size_drew, size_drewN] at hc hf)) | (go_at_call 22; (with_reducible refine (send_any hM (hI.at0 (by (repeat' (first | (with_reducible exact Below.refl _ _) | (with_reducible assumption) | (with_reducible refine below_drewN ?_ _) | (with_reducible refine Below.alloc ?_ ?_ _) | (with_reducible refine Below.drew ?_) | (with_reducible refine Below.setCell ?_ ?_ _) | go_size)))) _ _).mono ?_); rintro e w1 ⟨rfl, hb⟩; (try clear hc hf hl0); replace hI := hI.step (by (repeat' (first | (with_reducible exact Below.refl _ _) | (with_reducible assumption) | (with_reducible refine below_drewN ?_ _) | (with_reducible refine Below.alloc ?_ ?_ _) | (with_reducible refine Below.drew ?_) | (with_reducible refine Below.setCell ?_ ?_ _) | go_size))) hb; clear hb; have hc := hI.cell; have hf := hI.frozen; have hl0 := hI.lt_ (b := w.heap.size) (by simp only [World.size_alloc, World.size_setCell, World.size_drew, size_drewN]; omega); (try simp only [World.size_alloc, World.size_setCell, World.size_drew, size_drewN] at hc hf)))
    go_ret2
    refine ⟨by rw [F.out]; rfl, ?_⟩
    (have hS := hI.bw; (repeat' (first | (with_reducible exact Below.refl _ _) | (with_reducible assumption) | (with_reducible refine below_drewN ?_ _) | (with_reducible refine Below.alloc ?_ ?_ _) | (with_reducible refine Below.drew ?_) | (with_reducible refine Below.setCell ?_ ?_ _) | go_size)))

set_option maxRecDepth 100000 in
set_option maxHeartbeats 2000000 in
theorem rstroke_else_b (hM : IsM w0 LA ln CA cn L C) (hB : Below w0.heap.size w0 w) (p : Int) (h0 : -1 ≤ p) (h1 : p ≤ 1000) (O : isOp ln L cn C p = true) (g1 : ((insAt cn C (p + 1)).op == 10) = true) (g2 : ((insAt cn C (p + 2)).op == 12) = false) (T : letterV (selV ln L cn C (p + 1) 0) = false) (O1 : isOp ln L cn C (p + 1) = true) (g3 : ((selV ln L cn C (p + 2) 1).toList == [43]) = false) (g4 : ((selV ln L cn C (p + 2) 1).toList == [45]) = false) (g5 : ((selV ln L cn C (p + 2) 1).toList == [42]) = false) (g6 : ((selV ln L cn C (p + 2) 1).toList == [60]) = false) (g7 : ((selV ln L cn C (p + 2) 1).toList == [61]) = false) :
    Calls Try.prog 12 #[.agg #[.string s, .int .i64 x0, .int .i64 x1, .int .i64 x2, .slice LA ln lc, .slice CA cn cc], .int .i64 p] w fun e w' => e = .returned (.tuple #[.int .i64 (strokeV ln L cn C p).1, .int .i64 (strokeV ln L cn C p).2.2]) ∧ Below w.heap.size w w' := by
  have F : Hid (strokeV ln L cn C p = (0, 0, 0)) := by show strokeV ln L cn C p = _; simp [strokeV, strokeS, O, g1, g2, T, O1, g3, g4, g5, g6, g7]
  have hI : Inv w0 w (w.alloc (.cells #[.string s, .int .i64 x0, .int .i64 x1, .int .i64 x2, .slice LA ln lc, .slice CA cn cc] 25)) (w.alloc (.cells #[.string s, .int .i64 x0, .int .i64 x1, .int .i64 x2, .slice LA ln lc, .slice CA cn cc] 25)) := Inv.start hB (by (repeat' (first | (with_reducible exact Below.refl _ _) | (with_reducible assumption) | (with_reducible refine below_drewN ?_ _) | (with_reducible refine Below.alloc ?_ ?_ _) | (with_reducible refine Below.drew ?_) | (with_reducible refine Below.setCell ?_ ?_ _) | go_size)))
  have HO := Lib.hid O
  clear O
  have HT := Lib.hid T
  clear T
  have HO1 := Lib.hid O1
  clear O1
  clear hB
  go_enter Try.func12, Try.ntmps12
  go_upto_region 7 with (first | (go_at_call 20; (with_reducible refine (ropnd_any hM (Words.none_ w0) (Words.none_ w0) (hI.at0 (by (repeat' (first | (with_reducible exact Below.refl _ _) | (with_reducible assumption) | (with_reducible refine below_drewN ?_ _) | (with_reducible refine Below.alloc ?_ ?_ _) | (with_reducible refine Below.drew ?_) | (with_reducible refine Below.setCell ?_ ?_ _) | go_size)))) _).mono ?_); rw [opndV_2]; (first | rw [HO1.out] | rw [HO.out]); rintro e w1 ⟨rfl, hb⟩; (try clear hc hf hl0); replace hI := hI.step (by (repeat' (first | (with_reducible exact Below.refl _ _) | (with_reducible assumption) | (with_reducible refine below_drewN ?_ _) | (with_reducible refine Below.alloc ?_ ?_ _) | (with_reducible refine Below.drew ?_) | (with_reducible refine Below.setCell ?_ ?_ _) | go_size))) hb; clear hb; have hc := hI.cell; have hf := hI.frozen; have hl0 := hI.lt_ (b := w.heap.size) (by simp only [World.size_alloc, World.size_setCell, World.size_drew, size_drewN]; omega); (try simp only [World.size_alloc, World.size_setCell, World.size_drew, size_drewN] at hc hf)) | (go_at_call 21; (with_reducible refine (is_any hM (hI.at0 (by (repeat' (first | (with_reducible exact Below.refl _ _) | (with_reducible assumption) | (with_reducible refine below_drewN ?_ _) | (with_reducible refine Below.alloc ?_ ?_ _) | (with_reducible refine Below.drew ?_) | (with_reducible refine Below.setCell ?_ ?_ _) | go_size)))) _ _ rfl).mono ?_); rintro e w1 ⟨rfl, hb⟩; (try clear hc hf hl0); replace hI := hI.step (by (repeat' (first | (with_reducible exact Below.refl _ _) | (with_reducible assumption) | (with_reducible refine below_drewN ?_ _) | (with_reducible refine Below.alloc ?_ ?_ _) | (with_reducible refine Below.drew ?_) | (with_reducible refine Below.setCell ?_ ?_ _) | go_size))) hb; clear hb; have hc := hI.cell; have hf := hI.frozen; have hl0 := hI.lt_ (b := w.heap.size) (by simp only [World.size_alloc, World.size_setCell, World.size_drew, size_drewN]; omega); (try simp only [World.size_alloc, World.size_setCell, World.size_drew, size_drewN] at hc hf)) | (go_at_call 22; (with_reducible refine (send_any hM (hI.at0 (by (repeat' (first | (with_reducible exact Below.refl _ _) | (with_reducible assumption) | (with_reducible refine below_drewN ?_ _) | (with_reducible refine Below.alloc ?_ ?_ _) | (with_reducible refine Below.drew ?_) | (with_reducible refine Below.setCell ?_ ?_ _) | go_size)))) _ _).mono ?_); rintro e w1 ⟨rfl, hb⟩; (try clear hc hf hl0); replace hI := hI.step (by (repeat' (first | (with_reducible exact Below.refl _ _) | (with_reducible assumption) | (with_reducible refine below_drewN ?_ _) | (with_reducible refine Below.alloc ?_ ?_ _) | (with_reducible refine Below.drew ?_) | (with_reducible refine Below.setCell ?_ ?_ _) | go_size))) hb; clear hb; have hc := hI.cell; have hf := hI.frozen; have hl0 := hI.lt_ (b := w.heap.size) (by simp only [World.size_alloc, World.size_setCell, World.size_drew, size_drewN]; omega); (try simp only [World.size_alloc, World.size_setCell, World.size_drew, size_drewN] at hc hf)))
  obtain ⟨t, ht⟩ : ∃ t, selV ln L cn C (p + 1) 0 = t := ⟨_, rfl⟩
  rw [ht]
  go_cut [55] (fun c wx => c = .bool (letterV t) ∧ wx = w1)
  case first =>
    rcases letter_facts t with ⟨f1, f2⟩ | ⟨n, f1, f2, f3⟩
    · have q : decide (0 < t.size) = false := decide_eq_false (by omega)
      have q' : ¬ 0 < t.size := by omega
      have F1 := Lib.hid f1
      clear f1 f2
      go_wp2_with fail
      go_meet
      exact ⟨by rw [F1.out], rfl⟩
    · have q : decide (0 < t.size) = true := decide_eq_true (by omega)
      have F3 := Lib.hid f3
      have f4 := f1 f2
      clear f1 f3
      by_cases k1 : 97 ≤ (n : Int)
      · by_cases k2 : (n : Int) ≤ 122
        · go_wp2_with fail
          go_meet
          exact ⟨by rw [F3.out, show decide (97 ≤ (n : Int)) = true from decide_eq_true (by omega), show decide ((n : Int) ≤ 122) = true from decide_eq_true (by omega), show decide (65 ≤ (n : Int)) = true from decide_eq_true (by omega)]; (try rw [Bool.true_and, Bool.true_or]); (try rfl), rfl⟩
        · go_wp2_with fail
          go_meet
          exact ⟨by rw [F3.out, show decide (97 ≤ (n : Int)) = true from decide_eq_true (by omega), show decide ((n : Int) ≤ 122) = false from decide_eq_false (by omega), show decide (65 ≤ (n : Int)) = true from decide_eq_true (by omega), show decide ((n : Int) ≤ 90) = false from decide_eq_false (by omega)]; (try rw [Bool.true_and, Bool.true_or]); (try rfl), rfl⟩
      · by_cases k3 : 65 ≤ (n : Int)
        · by_cases k4 : (n : Int) ≤ 90
          · go_wp2_with fail
            go_meet
            exact ⟨by rw [F3.out, show decide (97 ≤ (n : Int)) = false from decide_eq_false (by omega), show decide ((n : Int) ≤ 122) = true from decide_eq_true (by omega), show decide (65 ≤ (n : Int)) = true from decide_eq_true (by omega), show decide ((n : Int) ≤ 90) = true from decide_eq_true (by omega)]; (try rw [Bool.true_and, Bool.true_or]); (try rfl), rfl⟩
          · go_wp2_with fail
            go_meet
            exact ⟨by rw [F3.out, show decide (97 ≤ (n : Int)) = false from decide_eq_false (by omega), show decide ((n : Int) ≤ 122) = true from decide_eq_true (by omega), show decide (65 ≤ (n : Int)) = true from decide_eq_true (by omega), show decide ((n : Int) ≤ 90) = false from decide_eq_false (by omega)]; (try rw [Bool.true_and, Bool.true_or]); (try rfl), rfl⟩
        · go_wp2_with fail
          go_meet
          exact ⟨by rw [F3.out, show decide (97 ≤ (n : Int)) = false from decide_eq_false (by omega), show decide ((n : Int) ≤ 122) = true from decide_eq_true (by omega), show decide (65 ≤ (n : Int)) = false from decide_eq_false (by omega), show decide ((n : Int) ≤ 90) = true from decide_eq_true (by omega)]; (try rw [Bool.true_and, Bool.true_or]); (try rfl), rfl⟩
  case rest =>
    obtain ⟨rfl, rfl⟩ := hcut
    rw [← ht, HT.out]
    clear ht
    go_wp2_with (first | (go_at_call 20; (with_reducible refine (ropnd_any hM (Words.none_ w0) (Words.none_ w0) (hI.at0 (by (repeat' (first | (with_reducible exact Below.refl _ _) | (with_reducible assumption) | (with_reducible refine below_drewN ?_ _) | (with_reducible refine Below.alloc ?_ ?_ _) | (with_reducible refine Below.drew ?_) | (with_reducible refine Below.setCell ?_ ?_ _) | go_size)))) _).mono ?_); rw [opndV_2]; (first | rw [HO1.out] | rw [HO.out]); rintro e w1 ⟨rfl, hb⟩; (try clear hc hf hl0); replace hI := hI.step (by (repeat' (first | (with_reducible exact Below.refl _ _) | (with_reducible assumption) | (with_reducible refine below_drewN ?_ _) | (with_reducible refine Below.alloc ?_ ?_ _) | (with_reducible refine Below.drew ?_) | (with_reducible refine Below.setCell ?_ ?_ _) | go_size))) hb; clear hb; have hc := hI.cell; have hf := hI.frozen; have hl0 := hI.lt_ (b := w.heap.size) (by simp only [World.size_alloc, World.size_setCell, World.size_drew, size_drewN]; omega); (try simp only [World.size_alloc, World.size_setCell, World.size_drew, size_drewN] at hc hf)) | (go_at_call 21; (with_reducible refine (is_any hM (hI.at0 (by (repeat' (first | (with_reducible exact Below.refl _ _) | (with_reducible assumption) | (with_reducible refine below_drewN ?_ _) | (with_reducible refine Below.alloc ?_ ?_ _) | (with_reducible refine Below.drew ?_) | (with_reducible refine Below.setCell ?_ ?_ _) | go_size)))) _ _ rfl).mono ?_); rintro e w1 ⟨rfl, hb⟩; (try clear hc hf hl0); replace hI := hI.step (by (repeat' (first | (with_reducible exact Below.refl _ _) | (with_reducible assumption) | (with_reducible refine below_drewN ?_ _) | (with_reducible refine Below.alloc ?_ ?_ _) | (with_reducible refine Below.drew ?_) | (with_reducible refine Below.setCell ?_ ?_ _) | go_size))) hb; clear hb; have hc := hI.cell; have hf := hI.frozen; have hl0 := hI.lt_ (b := w.heap.size) (by simp only [World.size_alloc, World.size_setCell, World.size_drew, size_drewN]; omega); (try simp only [World.size_alloc, World.size_setCell, World.size_drew, size_drewN] at hc hf)) | (go_at_call 22; (with_reducible refine (send_any hM (hI.at0 (by (repeat' (first | (with_reducible exact Below.refl _ _) | (with_reducible assumption) | (with_reducible refine below_drewN ?_ _) | (with_reducible refine Below.alloc ?_ ?_ _) | (with_reducible refine Below.drew ?_) | (with_reducible refine Below.setCell ?_ ?_ _) | go_size)))) _ _).mono ?_); rintro e w1 ⟨rfl, hb⟩; (try clear hc hf hl0); replace hI := hI.step (by (repeat' (first | (with_reducible exact Below.refl _ _) | (with_reducible assumption) | (with_reducible refine below_drewN ?_ _) | (with_reducible refine Below.alloc ?_ ?_ _) | (with_reducible refine Below.drew ?_) | (with_reducible refine Below.setCell ?_ ?_ _) | go_size))) hb; clear hb; have hc := hI.cell; have hf := hI.frozen; have hl0 := hI.lt_ (b := w.heap.size) (by simp only [World.size_alloc, World.size_setCell, World.size_drew, size_drewN]; omega); (try simp only [World.size_alloc, World.size_setCell, World.size_drew, size_drewN] at hc hf)))
    go_ret2
    refine ⟨by rw [F.out]; rfl, ?_⟩
    (have hS := hI.bw; (repeat' (first | (with_reducible exact Below.refl _ _) | (with_reducible assumption) | (with_reducible refine below_drewN ?_ _) | (with_reducible refine Below.alloc ?_ ?_ _) | (with_reducible refine Below.drew ?_) | (with_reducible refine Below.setCell ?_ ?_ _) | go_size)))

theorem isOp_in' (p : Int) (h : isOp ln L cn C p = true) : 0 ≤ p ∧ p < cn := by
  unfold isOp at h
  by_cases k : 0 ≤ p ∧ p < cn
  · exact k
  · rw [show insAt cn C p = noIns from if_neg k] at h; cases h
theorem rstroke_any (hM : IsM w0 LA ln CA cn L C) (hB : Below w0.heap.size w0 w) (p : Int) :
    Calls Try.prog 12 #[.agg #[.string s, .int .i64 x0, .int .i64 x1, .int .i64 x2, .slice LA ln lc, .slice CA cn cc], .int .i64 p] w fun e w' => e = .returned (.tuple #[.int .i64 (strokeV ln L cn C p).1, .int .i64 (strokeV ln L cn C p).2.2]) ∧ Below w.heap.size w w' := by
  cases O : isOp ln L cn C p
  · exact rstroke_none hM hB p O
  · obtain ⟨h0, h1⟩ := isOp_in' p O
    have hn := hM.cn_le
    have h0 : -1 ≤ p := by omega
    have h1 : p ≤ 1000 := by omega
    cases g1 : (insAt cn C (p + 1)).op == 10
    · cases T : letterV (selV ln L cn C (p + 1) 0)
      · cases O1 : isOp ln L cn C (p + 1)
        · exact rstroke_one_a hM hB p h0 h1 O g1 T O1
        · cases g3 : (selV ln L cn C (p + 2) 1).toList == [43]
          · cases g4 : (selV ln L cn C (p + 2) 1).toList == [45]
            · cases g5 : (selV ln L cn C (p + 2) 1).toList == [42]
              · cases g6 : (selV ln L cn C (p + 2) 1).toList == [60]
                · cases g7 : (selV ln L cn C (p + 2) 1).toList == [61]
                  · exact rstroke_else_a hM hB p h0 h1 O g1 T O1 g3 g4 g5 g6 g7
                  · cases g8 : (insAt cn C (p + 3)).op == 17
                    · exact rstroke_same_a hM hB p h0 h1 O g1 T O1 g3 g4 g5 g6 g7 g8
                    · exact rstroke_same_if_a hM hB p h0 h1 O g1 T O1 g3 g4 g5 g6 g7 g8
                · cases g8 : (insAt cn C (p + 3)).op == 17
                  · exact rstroke_less_a hM hB p h0 h1 O g1 T O1 g3 g4 g5 g6 g8
                  · exact rstroke_less_if_a hM hB p h0 h1 O g1 T O1 g3 g4 g5 g6 g8
              · exact rstroke_times_a hM hB p h0 h1 O g1 T O1 g3 g4 g5
            · exact rstroke_minus_a hM hB p h0 h1 O g1 T O1 g3 g4
          · exact rstroke_plus_a hM hB p h0 h1 O g1 T O1 g3
      · exact rstroke_ask_a hM hB p h0 h1 O g1 T
    · cases g2 : (insAt cn C (p + 2)).op == 12
      · cases T : letterV (selV ln L cn C (p + 1) 0)
        · cases O1 : isOp ln L cn C (p + 1)
          · exact rstroke_one_b hM hB p h0 h1 O g1 g2 T O1
          · cases g3 : (selV ln L cn C (p + 2) 1).toList == [43]
            · cases g4 : (selV ln L cn C (p + 2) 1).toList == [45]
              · cases g5 : (selV ln L cn C (p + 2) 1).toList == [42]
                · cases g6 : (selV ln L cn C (p + 2) 1).toList == [60]
                  · cases g7 : (selV ln L cn C (p + 2) 1).toList == [61]
                    · exact rstroke_else_b hM hB p h0 h1 O g1 g2 T O1 g3 g4 g5 g6 g7
                    · cases g8 : (insAt cn C (p + 3)).op == 17
                      · exact rstroke_same_b hM hB p h0 h1 O g1 g2 T O1 g3 g4 g5 g6 g7 g8
                      · exact rstroke_same_if_b hM hB p h0 h1 O g1 g2 T O1 g3 g4 g5 g6 g7 g8
                  · cases g8 : (insAt cn C (p + 3)).op == 17
                    · exact rstroke_less_b hM hB p h0 h1 O g1 g2 T O1 g3 g4 g5 g6 g8
                    · exact rstroke_less_if_b hM hB p h0 h1 O g1 g2 T O1 g3 g4 g5 g6 g8
                · exact rstroke_times_b hM hB p h0 h1 O g1 g2 T O1 g3 g4 g5
              · exact rstroke_minus_b hM hB p h0 h1 O g1 g2 T O1 g3 g4
            · exact rstroke_plus_b hM hB p h0 h1 O g1 g2 T O1 g3
        · exact rstroke_ask_b hM hB p h0 h1 O g1 g2 T
      · exact rstroke_move hM hB p h0 h1 O g1 g2

end
end Go.Proofs.Ytjiidjcehhdnbaa
