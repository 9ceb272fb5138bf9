/- Contracts of chapter 18's law: what is cut, lists that are the same. -/
import Derived.Test.YtjiidjcehhdnbaaFW4
namespace Go.Proofs.Ytjiidjcehhdnbaa
open Go.ChangeShapes Go.WideShapes Go.ChangeAt Go.RowKit
set_option linter.unusedVariables false
set_option linter.unusedSimpArgs false

structure RawM (w : World) (LA : Option Addr) (ln lc : Nat) (CA : Option Addr) (cn cc : Nat) (L : Nat → LitR) (C : Nat → InsR) : Prop where
  lits : Row w LA ln 4 (fun i => litCell (L i))
  code : Row w CA cn 3 (fun i => insCell (C i))
  ln_le : ln ≤ lc
  cn_le : cn ≤ cc
  lc_le : lc ≤ 9223372036854775807
  cc_le : cc ≤ 9223372036854775807
def fewN (n m : Nat) : Nat := if m < n then m else n
def good (i : InsR) : Prop := -100000 ≤ i.a ∧ i.a ≤ 100000 ∧ -100000 ≤ i.b ∧ i.b ≤ 100000
def okV (n : Nat) (C : Nat → InsR) : Prop := ∀ k, k < n → good (C k)
def FewPost (w : World) (s : ByteArray) (x0 x1 x2 : Int) (LA : Option Addr) (n lc : Nat) (CA : Option Addr) (m cc : Nat) (C : Nat → InsR) (e : Ending) (w' : World) : Prop :=
  ∃ ok : Bool, e = .returned (.tuple #[.agg #[.string s, .int .i64 x0, .int .i64 x1, .int .i64 x2, .slice LA n lc, .slice CA m cc], .bool ok]) ∧ (ok = true → okV m C) ∧ (ok = false → ¬ okV m C) ∧ Below w.heap.size w w'
theorem fewN_le (n m : Nat) : fewN n m ≤ n ∧ fewN n m ≤ m := by unfold fewN; split <;> omega

section
variable {w0 w : World} {LA : Option Addr} {ln lc : Nat} {CA : Option Addr} {cn cc : Nat} {L : Nat → LitR} {C : Nat → InsR} {s : ByteArray} {x0 x1 x2 : Int}
theorem RawM.isM (h : RawM w0 LA ln lc CA cn cc L C) : IsM w0 LA (fewN ln 30) CA (fewN cn 100) L C :=
  ⟨h.lits.less (fewN_le _ _).1, h.code.less (fewN_le _ _).1, by have := (fewN_le ln 30).2; omega, by have := (fewN_le cn 100).2; omega⟩

set_option maxHeartbeats 4000000 in
theorem few_00 (R : RawM w0 LA ln lc CA cn cc L C) (hB : Below w0.heap.size w0 w) (hl : ln ≤ 30) (hc : cn ≤ 100) :
    Calls Try.prog 9 #[.agg #[.string s, .int .i64 x0, .int .i64 x1, .int .i64 x2, .slice LA ln lc, .slice CA cn cc]] w (FewPost w s x0 x1 x2 LA ln lc CA cn cc C) := by
  have e1 := R.ln_le; have e2 := R.cn_le; have e3 := R.lc_le; have e4 := R.cc_le
  go_enter Try.func9, Try.ntmps9
  go_wp2_with fail
  go_loop [4] (fun i => ∃ k : Nat, k ≤ cn ∧ i = .int .i64 k ∧ okV k C) (fun i => cn - (intOf i).toNat)
  case atStart => exact ⟨0, Nat.zero_le _, rfl, fun j h => absurd h (by omega)⟩
  case round =>
    obtain ⟨k, hk, rfl, hok⟩ := hrel
    by_cases hlt : k < cn
    · obtain ⟨b, off, hA, hlb, c0, c1, c2⟩ := (show ∃ b off, CA = some ⟨b, off, none⟩ ∧ b < w.heap.size ∧ w.cell? ⟨b, off + k * 3, none⟩ = some (.int .i64 (C k).op) ∧ w.cell? ⟨b, off + k * 3 + 1, none⟩ = some (.int .i64 (C k).a) ∧ w.cell? ⟨b, off + k * 3 + 2, none⟩ = some (.int .i64 (C k).b) from by
        obtain ⟨b, off, e, hl, hc⟩ := (R.code.below hB) (by omega)
        exact ⟨b, off, e, hl, hc k (by omega) 0 (by omega), hc k (by omega) 1 (by omega), hc k (by omega) 2 (by omega)⟩)
      subst hA
      obtain ⟨⟨io, ia, ib⟩, hC⟩ : ∃ i, C k = i := ⟨_, rfl⟩
      rw [hC] at c0 c1 c2
      have HC := Lib.hid hC
      have hlt2 : k < cn := by omega
      clear hC
      by_cases q1 : ia < -100000
      · have hbad : Hid (¬ okV cn C) := by
          intro h
          have := h k hlt
          rw [HC.out] at this
          obtain ⟨h1, h2, h3, h4⟩ := this
          simp only at h1 h2 h3 h4
          omega
        go_wp2
        refine bodyPost_ret (v := .tuple #[.agg #[.string s, .int .i64 x0, .int .i64 x1, .int .i64 x2, .slice LA ln lc, .slice (some ⟨b, off, none⟩) cn cc], .bool false]) (by simp [results, Try.results9, go_sem]) rfl ⟨false, rfl, (fun h => by cases h), fun _ => hbad.out, ?_⟩
        (repeat' (first | (with_reducible exact Below.refl _ _) | (with_reducible refine below_drewN ?_ _) | (with_reducible refine Below.alloc ?_ ?_ _) | (with_reducible refine Below.drew ?_) | (with_reducible refine Below.setCell ?_ ?_ _) | go_size))
      · by_cases q2 : 100000 < ia
        · have hbad : Hid (¬ okV cn C) := by
            intro h
            have := h k hlt
            rw [HC.out] at this
            obtain ⟨h1, h2, h3, h4⟩ := this
            simp only at h1 h2 h3 h4
            omega
          go_wp2
          refine bodyPost_ret (v := .tuple #[.agg #[.string s, .int .i64 x0, .int .i64 x1, .int .i64 x2, .slice LA ln lc, .slice (some ⟨b, off, none⟩) cn cc], .bool false]) (by simp [results, Try.results9, go_sem]) rfl ⟨false, rfl, (fun h => by cases h), fun _ => hbad.out, ?_⟩
          (repeat' (first | (with_reducible exact Below.refl _ _) | (with_reducible refine below_drewN ?_ _) | (with_reducible refine Below.alloc ?_ ?_ _) | (with_reducible refine Below.drew ?_) | (with_reducible refine Below.setCell ?_ ?_ _) | go_size))
        · by_cases q3 : ib < -100000
          · have hbad : Hid (¬ okV cn C) := by
              intro h
              have := h k hlt
              rw [HC.out] at this
              obtain ⟨h1, h2, h3, h4⟩ := this
              simp only at h1 h2 h3 h4
              omega
            go_wp2
            refine bodyPost_ret (v := .tuple #[.agg #[.string s, .int .i64 x0, .int .i64 x1, .int .i64 x2, .slice LA ln lc, .slice (some ⟨b, off, none⟩) cn cc], .bool false]) (by simp [results, Try.results9, go_sem]) rfl ⟨false, rfl, (fun h => by cases h), fun _ => hbad.out, ?_⟩
            (repeat' (first | (with_reducible exact Below.refl _ _) | (with_reducible refine below_drewN ?_ _) | (with_reducible refine Below.alloc ?_ ?_ _) | (with_reducible refine Below.drew ?_) | (with_reducible refine Below.setCell ?_ ?_ _) | go_size))
          · by_cases q4 : 100000 < ib
            · have hbad : Hid (¬ okV cn C) := by
                intro h
                have := h k hlt
                rw [HC.out] at this
                obtain ⟨h1, h2, h3, h4⟩ := this
                simp only at h1 h2 h3 h4
                omega
              go_wp2
              refine bodyPost_ret (v := .tuple #[.agg #[.string s, .int .i64 x0, .int .i64 x1, .int .i64 x2, .slice LA ln lc, .slice (some ⟨b, off, none⟩) cn cc], .bool false]) (by simp [results, Try.results9, go_sem]) rfl ⟨false, rfl, (fun h => by cases h), fun _ => hbad.out, ?_⟩
              (repeat' (first | (with_reducible exact Below.refl _ _) | (with_reducible refine below_drewN ?_ _) | (with_reducible refine Below.alloc ?_ ?_ _) | (with_reducible refine Below.drew ?_) | (with_reducible refine Below.setCell ?_ ?_ _) | go_size))
            · have d1 : decide (ia < -100000) = false := decide_eq_false q1
              have d2 : decide (100000 < ia) = false := decide_eq_false q2
              have d3 : decide (ib < -100000) = false := decide_eq_false q3
              have d4 : decide (100000 < ib) = false := decide_eq_false q4
              have hok' : Hid (okV (k + 1) C) := by
                intro j hj
                by_cases hjk : j = k
                · subst hjk; rw [HC.out]; exact ⟨(by show -100000 ≤ ia; omega), (by show ia ≤ 100000; omega), (by show -100000 ≤ ib; omega), (by show ib ≤ 100000; omega)⟩
                · exact hok j (by omega)
              go_wp2
              go_round
              case rel => exact ⟨k + 1, by omega, by go_num, hok'.out⟩
              case measure => simp [intOf]; omega
    · have hkn : k = cn := by omega
      have V : Hid (okV cn C) := by rw [hkn] at hok; exact hok
      clear hkn hok
      go_wp2
      refine bodyPost_ret (v := .tuple #[.agg #[.string s, .int .i64 x0, .int .i64 x1, .int .i64 x2, .slice LA ln lc, .slice CA cn cc], .bool true]) (by simp [results, Try.results9, go_sem]) rfl ⟨true, rfl, fun _ => V.out, (fun h => by cases h), ?_⟩
      (repeat' (first | (with_reducible exact Below.refl _ _) | (with_reducible refine below_drewN ?_ _) | (with_reducible refine Below.alloc ?_ ?_ _) | (with_reducible refine Below.drew ?_) | (with_reducible refine Below.setCell ?_ ?_ _) | go_size))
  
set_option maxHeartbeats 4000000 in
theorem few_10 (R : RawM w0 LA ln lc CA cn cc L C) (hB : Below w0.heap.size w0 w) (hl : 30 < ln) (hc : cn ≤ 100) :
    Calls Try.prog 9 #[.agg #[.string s, .int .i64 x0, .int .i64 x1, .int .i64 x2, .slice LA ln lc, .slice CA cn cc]] w (FewPost w s x0 x1 x2 LA 30 lc CA cn cc C) := by
  have e1 := R.ln_le; have e2 := R.cn_le; have e3 := R.lc_le; have e4 := R.cc_le
  obtain ⟨bl, ol, hLA, _⟩ := R.lits (by omega)
  subst hLA
  go_enter Try.func9, Try.ntmps9
  go_wp2_with fail
  go_loop [4] (fun i => ∃ k : Nat, k ≤ cn ∧ i = .int .i64 k ∧ okV k C) (fun i => cn - (intOf i).toNat)
  case atStart => exact ⟨0, Nat.zero_le _, rfl, fun j h => absurd h (by omega)⟩
  case round =>
    obtain ⟨k, hk, rfl, hok⟩ := hrel
    by_cases hlt : k < cn
    · obtain ⟨b, off, hA, hlb, c0, c1, c2⟩ := (show ∃ b off, CA = some ⟨b, off, none⟩ ∧ b < w.heap.size ∧ w.cell? ⟨b, off + k * 3, none⟩ = some (.int .i64 (C k).op) ∧ w.cell? ⟨b, off + k * 3 + 1, none⟩ = some (.int .i64 (C k).a) ∧ w.cell? ⟨b, off + k * 3 + 2, none⟩ = some (.int .i64 (C k).b) from by
        obtain ⟨b, off, e, hl, hc⟩ := (R.code.below hB) (by omega)
        exact ⟨b, off, e, hl, hc k (by omega) 0 (by omega), hc k (by omega) 1 (by omega), hc k (by omega) 2 (by omega)⟩)
      subst hA
      obtain ⟨⟨io, ia, ib⟩, hC⟩ : ∃ i, C k = i := ⟨_, rfl⟩
      rw [hC] at c0 c1 c2
      have HC := Lib.hid hC
      have hlt2 : k < cn := by omega
      clear hC
      by_cases q1 : ia < -100000
      · have hbad : Hid (¬ okV cn C) := by
          intro h
          have := h k hlt
          rw [HC.out] at this
          obtain ⟨h1, h2, h3, h4⟩ := this
          simp only at h1 h2 h3 h4
          omega
        go_wp2
        refine bodyPost_ret (v := .tuple #[.agg #[.string s, .int .i64 x0, .int .i64 x1, .int .i64 x2, .slice (some ⟨bl, ol, none⟩) 30 lc, .slice (some ⟨b, off, none⟩) cn cc], .bool false]) (by simp [results, Try.results9, go_sem]) rfl ⟨false, rfl, (fun h => by cases h), fun _ => hbad.out, ?_⟩
        (repeat' (first | (with_reducible exact Below.refl _ _) | (with_reducible refine below_drewN ?_ _) | (with_reducible refine Below.alloc ?_ ?_ _) | (with_reducible refine Below.drew ?_) | (with_reducible refine Below.setCell ?_ ?_ _) | go_size))
      · by_cases q2 : 100000 < ia
        · have hbad : Hid (¬ okV cn C) := by
            intro h
            have := h k hlt
            rw [HC.out] at this
            obtain ⟨h1, h2, h3, h4⟩ := this
            simp only at h1 h2 h3 h4
            omega
          go_wp2
          refine bodyPost_ret (v := .tuple #[.agg #[.string s, .int .i64 x0, .int .i64 x1, .int .i64 x2, .slice (some ⟨bl, ol, none⟩) 30 lc, .slice (some ⟨b, off, none⟩) cn cc], .bool false]) (by simp [results, Try.results9, go_sem]) rfl ⟨false, rfl, (fun h => by cases h), fun _ => hbad.out, ?_⟩
          (repeat' (first | (with_reducible exact Below.refl _ _) | (with_reducible refine below_drewN ?_ _) | (with_reducible refine Below.alloc ?_ ?_ _) | (with_reducible refine Below.drew ?_) | (with_reducible refine Below.setCell ?_ ?_ _) | go_size))
        · by_cases q3 : ib < -100000
          · have hbad : Hid (¬ okV cn C) := by
              intro h
              have := h k hlt
              rw [HC.out] at this
              obtain ⟨h1, h2, h3, h4⟩ := this
              simp only at h1 h2 h3 h4
              omega
            go_wp2
            refine bodyPost_ret (v := .tuple #[.agg #[.string s, .int .i64 x0, .int .i64 x1, .int .i64 x2, .slice (some ⟨bl, ol, none⟩) 30 lc, .slice (some ⟨b, off, none⟩) cn cc], .bool false]) (by simp [results, Try.results9, go_sem]) rfl ⟨false, rfl, (fun h => by cases h), fun _ => hbad.out, ?_⟩
            (repeat' (first | (with_reducible exact Below.refl _ _) | (with_reducible refine below_drewN ?_ _) | (with_reducible refine Below.alloc ?_ ?_ _) | (with_reducible refine Below.drew ?_) | (with_reducible refine Below.setCell ?_ ?_ _) | go_size))
          · by_cases q4 : 100000 < ib
            · have hbad : Hid (¬ okV cn C) := by
                intro h
                have := h k hlt
                rw [HC.out] at this
                obtain ⟨h1, h2, h3, h4⟩ := this
                simp only at h1 h2 h3 h4
                omega
              go_wp2
              refine bodyPost_ret (v := .tuple #[.agg #[.string s, .int .i64 x0, .int .i64 x1, .int .i64 x2, .slice (some ⟨bl, ol, none⟩) 30 lc, .slice (some ⟨b, off, none⟩) cn cc], .bool false]) (by simp [results, Try.results9, go_sem]) rfl ⟨false, rfl, (fun h => by cases h), fun _ => hbad.out, ?_⟩
              (repeat' (first | (with_reducible exact Below.refl _ _) | (with_reducible refine below_drewN ?_ _) | (with_reducible refine Below.alloc ?_ ?_ _) | (with_reducible refine Below.drew ?_) | (with_reducible refine Below.setCell ?_ ?_ _) | go_size))
            · have d1 : decide (ia < -100000) = false := decide_eq_false q1
              have d2 : decide (100000 < ia) = false := decide_eq_false q2
              have d3 : decide (ib < -100000) = false := decide_eq_false q3
              have d4 : decide (100000 < ib) = false := decide_eq_false q4
              have hok' : Hid (okV (k + 1) C) := by
                intro j hj
                by_cases hjk : j = k
                · subst hjk; rw [HC.out]; exact ⟨(by show -100000 ≤ ia; omega), (by show ia ≤ 100000; omega), (by show -100000 ≤ ib; omega), (by show ib ≤ 100000; omega)⟩
                · exact hok j (by omega)
              go_wp2
              go_round
              case rel => exact ⟨k + 1, by omega, by go_num, hok'.out⟩
              case measure => simp [intOf]; omega
    · have hkn : k = cn := by omega
      have V : Hid (okV cn C) := by rw [hkn] at hok; exact hok
      clear hkn hok
      go_wp2
      refine bodyPost_ret (v := .tuple #[.agg #[.string s, .int .i64 x0, .int .i64 x1, .int .i64 x2, .slice (some ⟨bl, ol, none⟩) 30 lc, .slice CA cn cc], .bool true]) (by simp [results, Try.results9, go_sem]) rfl ⟨true, rfl, fun _ => V.out, (fun h => by cases h), ?_⟩
      (repeat' (first | (with_reducible exact Below.refl _ _) | (with_reducible refine below_drewN ?_ _) | (with_reducible refine Below.alloc ?_ ?_ _) | (with_reducible refine Below.drew ?_) | (with_reducible refine Below.setCell ?_ ?_ _) | go_size))
  
set_option maxHeartbeats 4000000 in
theorem few_01 (R : RawM w0 LA ln lc CA cn cc L C) (hB : Below w0.heap.size w0 w) (hl : ln ≤ 30) (hc : 100 < cn) :
    Calls Try.prog 9 #[.agg #[.string s, .int .i64 x0, .int .i64 x1, .int .i64 x2, .slice LA ln lc, .slice CA cn cc]] w (FewPost w s x0 x1 x2 LA ln lc CA 100 cc C) := by
  have e1 := R.ln_le; have e2 := R.cn_le; have e3 := R.lc_le; have e4 := R.cc_le
  obtain ⟨bc, oc, hCA, _⟩ := R.code (by omega)
  subst hCA
  go_enter Try.func9, Try.ntmps9
  go_wp2_with fail
  go_loop [4] (fun i => ∃ k : Nat, k ≤ 100 ∧ i = .int .i64 k ∧ okV k C) (fun i => 100 - (intOf i).toNat)
  case atStart => exact ⟨0, Nat.zero_le _, rfl, fun j h => absurd h (by omega)⟩
  case round =>
    obtain ⟨k, hk, rfl, hok⟩ := hrel
    by_cases hlt : k < 100
    · obtain ⟨b, off, hA, hlb, c0, c1, c2⟩ := (show ∃ b off, (some (⟨bc, oc, none⟩ : Addr)) = some ⟨b, off, none⟩ ∧ b < w.heap.size ∧ w.cell? ⟨b, off + k * 3, none⟩ = some (.int .i64 (C k).op) ∧ w.cell? ⟨b, off + k * 3 + 1, none⟩ = some (.int .i64 (C k).a) ∧ w.cell? ⟨b, off + k * 3 + 2, none⟩ = some (.int .i64 (C k).b) from by
        obtain ⟨b, off, e, hl, hc⟩ := (R.code.below hB) (by omega)
        exact ⟨b, off, e, hl, hc k (by omega) 0 (by omega), hc k (by omega) 1 (by omega), hc k (by omega) 2 (by omega)⟩)
      obtain ⟨hb1, ho1⟩ : bc = b ∧ oc = off := by simpa using hA
      subst hb1; subst ho1
      obtain ⟨⟨io, ia, ib⟩, hC⟩ : ∃ i, C k = i := ⟨_, rfl⟩
      rw [hC] at c0 c1 c2
      have HC := Lib.hid hC
      have hlt2 : k < cn := by omega
      clear hC
      by_cases q1 : ia < -100000
      · have hbad : Hid (¬ okV 100 C) := by
          intro h
          have := h k hlt
          rw [HC.out] at this
          obtain ⟨h1, h2, h3, h4⟩ := this
          simp only at h1 h2 h3 h4
          omega
        go_wp2
        refine bodyPost_ret (v := .tuple #[.agg #[.string s, .int .i64 x0, .int .i64 x1, .int .i64 x2, .slice LA ln lc, .slice (some ⟨bc, oc, none⟩) 100 cc], .bool false]) (by simp [results, Try.results9, go_sem]) rfl ⟨false, rfl, (fun h => by cases h), fun _ => hbad.out, ?_⟩
        (repeat' (first | (with_reducible exact Below.refl _ _) | (with_reducible refine below_drewN ?_ _) | (with_reducible refine Below.alloc ?_ ?_ _) | (with_reducible refine Below.drew ?_) | (with_reducible refine Below.setCell ?_ ?_ _) | go_size))
      · by_cases q2 : 100000 < ia
        · have hbad : Hid (¬ okV 100 C) := by
            intro h
            have := h k hlt
            rw [HC.out] at this
            obtain ⟨h1, h2, h3, h4⟩ := this
            simp only at h1 h2 h3 h4
            omega
          go_wp2
          refine bodyPost_ret (v := .tuple #[.agg #[.string s, .int .i64 x0, .int .i64 x1, .int .i64 x2, .slice LA ln lc, .slice (some ⟨bc, oc, none⟩) 100 cc], .bool false]) (by simp [results, Try.results9, go_sem]) rfl ⟨false, rfl, (fun h => by cases h), fun _ => hbad.out, ?_⟩
          (repeat' (first | (with_reducible exact Below.refl _ _) | (with_reducible refine below_drewN ?_ _) | (with_reducible refine Below.alloc ?_ ?_ _) | (with_reducible refine Below.drew ?_) | (with_reducible refine Below.setCell ?_ ?_ _) | go_size))
        · by_cases q3 : ib < -100000
          · have hbad : Hid (¬ okV 100 C) := by
              intro h
              have := h k hlt
              rw [HC.out] at this
              obtain ⟨h1, h2, h3, h4⟩ := this
              simp only at h1 h2 h3 h4
              omega
            go_wp2
            refine bodyPost_ret (v := .tuple #[.agg #[.string s, .int .i64 x0, .int .i64 x1, .int .i64 x2, .slice LA ln lc, .slice (some ⟨bc, oc, none⟩) 100 cc], .bool false]) (by simp [results, Try.results9, go_sem]) rfl ⟨false, rfl, (fun h => by cases h), fun _ => hbad.out, ?_⟩
            (repeat' (first | (with_reducible exact Below.refl _ _) | (with_reducible refine below_drewN ?_ _) | (with_reducible refine Below.alloc ?_ ?_ _) | (with_reducible refine Below.drew ?_) | (with_reducible refine Below.setCell ?_ ?_ _) | go_size))
          · by_cases q4 : 100000 < ib
            · have hbad : Hid (¬ okV 100 C) := by
                intro h
                have := h k hlt
                rw [HC.out] at this
                obtain ⟨h1, h2, h3, h4⟩ := this
                simp only at h1 h2 h3 h4
                omega
              go_wp2
              refine bodyPost_ret (v := .tuple #[.agg #[.string s, .int .i64 x0, .int .i64 x1, .int .i64 x2, .slice LA ln lc, .slice (some ⟨bc, oc, none⟩) 100 cc], .bool false]) (by simp [results, Try.results9, go_sem]) rfl ⟨false, rfl, (fun h => by cases h), fun _ => hbad.out, ?_⟩
              (repeat' (first | (with_reducible exact Below.refl _ _) | (with_reducible refine below_drewN ?_ _) | (with_reducible refine Below.alloc ?_ ?_ _) | (with_reducible refine Below.drew ?_) | (with_reducible refine Below.setCell ?_ ?_ _) | go_size))
            · have d1 : decide (ia < -100000) = false := decide_eq_false q1
              have d2 : decide (100000 < ia) = false := decide_eq_false q2
              have d3 : decide (ib < -100000) = false := decide_eq_false q3
              have d4 : decide (100000 < ib) = false := decide_eq_false q4
              have hok' : Hid (okV (k + 1) C) := by
                intro j hj
                by_cases hjk : j = k
                · subst hjk; rw [HC.out]; exact ⟨(by show -100000 ≤ ia; omega), (by show ia ≤ 100000; omega), (by show -100000 ≤ ib; omega), (by show ib ≤ 100000; omega)⟩
                · exact hok j (by omega)
              go_wp2
              go_round
              case rel => exact ⟨k + 1, by omega, by go_num, hok'.out⟩
              case measure => simp [intOf]; omega
    · have hkn : k = 100 := by omega
      have V : Hid (okV 100 C) := by rw [hkn] at hok; exact hok
      clear hkn hok
      go_wp2
      refine bodyPost_ret (v := .tuple #[.agg #[.string s, .int .i64 x0, .int .i64 x1, .int .i64 x2, .slice LA ln lc, .slice (some ⟨bc, oc, none⟩) 100 cc], .bool true]) (by simp [results, Try.results9, go_sem]) rfl ⟨true, rfl, fun _ => V.out, (fun h => by cases h), ?_⟩
      (repeat' (first | (with_reducible exact Below.refl _ _) | (with_reducible refine below_drewN ?_ _) | (with_reducible refine Below.alloc ?_ ?_ _) | (with_reducible refine Below.drew ?_) | (with_reducible refine Below.setCell ?_ ?_ _) | go_size))
  
set_option maxHeartbeats 4000000 in
theorem few_11 (R : RawM w0 LA ln lc CA cn cc L C) (hB : Below w0.heap.size w0 w) (hl : 30 < ln) (hc : 100 < cn) :
    Calls Try.prog 9 #[.agg #[.string s, .int .i64 x0, .int .i64 x1, .int .i64 x2, .slice LA ln lc, .slice CA cn cc]] w (FewPost w s x0 x1 x2 LA 30 lc CA 100 cc C) := by
  have e1 := R.ln_le; have e2 := R.cn_le; have e3 := R.lc_le; have e4 := R.cc_le
  obtain ⟨bl, ol, hLA, _⟩ := R.lits (by omega)
  subst hLA
  obtain ⟨bc, oc, hCA, _⟩ := R.code (by omega)
  subst hCA
  go_enter Try.func9, Try.ntmps9
  go_wp2_with fail
  go_loop [4] (fun i => ∃ k : Nat, k ≤ 100 ∧ i = .int .i64 k ∧ okV k C) (fun i => 100 - (intOf i).toNat)
  case atStart => exact ⟨0, Nat.zero_le _, rfl, fun j h => absurd h (by omega)⟩
  case round =>
    obtain ⟨k, hk, rfl, hok⟩ := hrel
    by_cases hlt : k < 100
    · obtain ⟨b, off, hA, hlb, c0, c1, c2⟩ := (show ∃ b off, (some (⟨bc, oc, none⟩ : Addr)) = some ⟨b, off, none⟩ ∧ b < w.heap.size ∧ w.cell? ⟨b, off + k * 3, none⟩ = some (.int .i64 (C k).op) ∧ w.cell? ⟨b, off + k * 3 + 1, none⟩ = some (.int .i64 (C k).a) ∧ w.cell? ⟨b, off + k * 3 + 2, none⟩ = some (.int .i64 (C k).b) from by
        obtain ⟨b, off, e, hl, hc⟩ := (R.code.below hB) (by omega)
        exact ⟨b, off, e, hl, hc k (by omega) 0 (by omega), hc k (by omega) 1 (by omega), hc k (by omega) 2 (by omega)⟩)
      obtain ⟨hb1, ho1⟩ : bc = b ∧ oc = off := by simpa using hA
      subst hb1; subst ho1
      obtain ⟨⟨io, ia, ib⟩, hC⟩ : ∃ i, C k = i := ⟨_, rfl⟩
      rw [hC] at c0 c1 c2
      have HC := Lib.hid hC
      have hlt2 : k < cn := by omega
      clear hC
      by_cases q1 : ia < -100000
      · have hbad : Hid (¬ okV 100 C) := by
          intro h
          have := h k hlt
          rw [HC.out] at this
          obtain ⟨h1, h2, h3, h4⟩ := this
          simp only at h1 h2 h3 h4
          omega
        go_wp2
        refine bodyPost_ret (v := .tuple #[.agg #[.string s, .int .i64 x0, .int .i64 x1, .int .i64 x2, .slice (some ⟨bl, ol, none⟩) 30 lc, .slice (some ⟨bc, oc, none⟩) 100 cc], .bool false]) (by simp [results, Try.results9, go_sem]) rfl ⟨false, rfl, (fun h => by cases h), fun _ => hbad.out, ?_⟩
        (repeat' (first | (with_reducible exact Below.refl _ _) | (with_reducible refine below_drewN ?_ _) | (with_reducible refine Below.alloc ?_ ?_ _) | (with_reducible refine Below.drew ?_) | (with_reducible refine Below.setCell ?_ ?_ _) | go_size))
      · by_cases q2 : 100000 < ia
        · have hbad : Hid (¬ okV 100 C) := by
            intro h
            have := h k hlt
            rw [HC.out] at this
            obtain ⟨h1, h2, h3, h4⟩ := this
            simp only at h1 h2 h3 h4
            omega
          go_wp2
          refine bodyPost_ret (v := .tuple #[.agg #[.string s, .int .i64 x0, .int .i64 x1, .int .i64 x2, .slice (some ⟨bl, ol, none⟩) 30 lc, .slice (some ⟨bc, oc, none⟩) 100 cc], .bool false]) (by simp [results, Try.results9, go_sem]) rfl ⟨false, rfl, (fun h => by cases h), fun _ => hbad.out, ?_⟩
          (repeat' (first | (with_reducible exact Below.refl _ _) | (with_reducible refine below_drewN ?_ _) | (with_reducible refine Below.alloc ?_ ?_ _) | (with_reducible refine Below.drew ?_) | (with_reducible refine Below.setCell ?_ ?_ _) | go_size))
        · by_cases q3 : ib < -100000
          · have hbad : Hid (¬ okV 100 C) := by
              intro h
              have := h k hlt
              rw [HC.out] at this
              obtain ⟨h1, h2, h3, h4⟩ := this
              simp only at h1 h2 h3 h4
              omega
            go_wp2
            refine bodyPost_ret (v := .tuple #[.agg #[.string s, .int .i64 x0, .int .i64 x1, .int .i64 x2, .slice (some ⟨bl, ol, none⟩) 30 lc, .slice (some ⟨bc, oc, none⟩) 100 cc], .bool false]) (by simp [results, Try.results9, go_sem]) rfl ⟨false, rfl, (fun h => by cases h), fun _ => hbad.out, ?_⟩
            (repeat' (first | (with_reducible exact Below.refl _ _) | (with_reducible refine below_drewN ?_ _) | (with_reducible refine Below.alloc ?_ ?_ _) | (with_reducible refine Below.drew ?_) | (with_reducible refine Below.setCell ?_ ?_ _) | go_size))
          · by_cases q4 : 100000 < ib
            · have hbad : Hid (¬ okV 100 C) := by
                intro h
                have := h k hlt
                rw [HC.out] at this
                obtain ⟨h1, h2, h3, h4⟩ := this
                simp only at h1 h2 h3 h4
                omega
              go_wp2
              refine bodyPost_ret (v := .tuple #[.agg #[.string s, .int .i64 x0, .int .i64 x1, .int .i64 x2, .slice (some ⟨bl, ol, none⟩) 30 lc, .slice (some ⟨bc, oc, none⟩) 100 cc], .bool false]) (by simp [results, Try.results9, go_sem]) rfl ⟨false, rfl, (fun h => by cases h), fun _ => hbad.out, ?_⟩
              (repeat' (first | (with_reducible exact Below.refl _ _) | (with_reducible refine below_drewN ?_ _) | (with_reducible refine Below.alloc ?_ ?_ _) | (with_reducible refine Below.drew ?_) | (with_reducible refine Below.setCell ?_ ?_ _) | go_size))
            · have d1 : decide (ia < -100000) = false := decide_eq_false q1
              have d2 : decide (100000 < ia) = false := decide_eq_false q2
              have d3 : decide (ib < -100000) = false := decide_eq_false q3
              have d4 : decide (100000 < ib) = false := decide_eq_false q4
              have hok' : Hid (okV (k + 1) C) := by
                intro j hj
                by_cases hjk : j = k
                · subst hjk; rw [HC.out]; exact ⟨(by show -100000 ≤ ia; omega), (by show ia ≤ 100000; omega), (by show -100000 ≤ ib; omega), (by show ib ≤ 100000; omega)⟩
                · exact hok j (by omega)
              go_wp2
              go_round
              case rel => exact ⟨k + 1, by omega, by go_num, hok'.out⟩
              case measure => simp [intOf]; omega
    · have hkn : k = 100 := by omega
      have V : Hid (okV 100 C) := by rw [hkn] at hok; exact hok
      clear hkn hok
      go_wp2
      refine bodyPost_ret (v := .tuple #[.agg #[.string s, .int .i64 x0, .int .i64 x1, .int .i64 x2, .slice (some ⟨bl, ol, none⟩) 30 lc, .slice (some ⟨bc, oc, none⟩) 100 cc], .bool true]) (by simp [results, Try.results9, go_sem]) rfl ⟨true, rfl, fun _ => V.out, (fun h => by cases h), ?_⟩
      (repeat' (first | (with_reducible exact Below.refl _ _) | (with_reducible refine below_drewN ?_ _) | (with_reducible refine Below.alloc ?_ ?_ _) | (with_reducible refine Below.drew ?_) | (with_reducible refine Below.setCell ?_ ?_ _) | go_size))
  
theorem few_any (R : RawM w0 LA ln lc CA cn cc L C) (hB : Below w0.heap.size w0 w) :
    Calls Try.prog 9 #[.agg #[.string s, .int .i64 x0, .int .i64 x1, .int .i64 x2, .slice LA ln lc, .slice CA cn cc]] w (FewPost w s x0 x1 x2 LA (fewN ln 30) lc CA (fewN cn 100) cc C) := by
  rcases Nat.lt_or_ge 30 ln with hl | hl <;> rcases Nat.lt_or_ge 100 cn with hc | hc
  · rw [show fewN ln 30 = 30 from if_pos hl, show fewN cn 100 = 100 from if_pos hc]; exact few_11 R hB hl hc
  · rw [show fewN ln 30 = 30 from if_pos hl, show fewN cn 100 = cn from if_neg (by omega)]; exact few_10 R hB hl hc
  · rw [show fewN ln 30 = ln from if_neg (by omega), show fewN cn 100 = 100 from if_pos hc]; exact few_01 R hB hl hc
  · rw [show fewN ln 30 = ln from if_neg (by omega), show fewN cn 100 = cn from if_neg (by omega)]; exact few_00 R hB hl hc

end
end Go.Proofs.Ytjiidjcehhdnbaa
