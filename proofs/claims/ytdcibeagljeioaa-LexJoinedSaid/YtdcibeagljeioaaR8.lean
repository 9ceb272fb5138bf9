/- Chapter 06: the reference's symbol: signs; a name that is too long. -/
import Derived.Test.YtdcibeagljeioaaR7
namespace Go.Proofs.Ytdcibeagljeioaa
open Go.ChangeShapes Go.WideShapes Go.ChangeAt Go.RowKit
set_option linter.unusedVariables false
set_option linter.unusedSimpArgs false
theorem rname1 (s : ByteArray) (i : Nat) (w : World) (hs : s.size ≤ 100000) (hi : i + 1 ≤ s.size) : Calls Try.prog 32 #[.string s, .int .i64 ((i : Int) + 1)] w fun e w' => e = .returned (.int .i64 ((i + 1 + nmLen (s.data.toList.drop (i + 1)) : Nat) : Int)) ∧ w' = w := rname_any s (i + 1) w hs hi
theorem sg_one {l : Bs} (h : hd signB l = true) (h2 : hd signB (l.drop 1) = false) : sgLen l = 1 := by
  cases l with
  | nil => cases h
  | cons c r =>
    cases r with
    | nil => simp [sgLen, hd] at h ⊢; simp [h]
    | cons d q =>
      simp [hd] at h h2
      simp [sgLen, h, h2]
theorem sg_two {l : Bs} (h : hd signB l = true) (h2 : hd signB (l.drop 1) = true) : sgLen l = 2 := by
  cases l with
  | nil => cases h
  | cons c r =>
    cases r with
    | nil => cases h2
    | cons d q =>
      simp [hd] at h h2
      simp [sgLen, h, h2]
theorem at_lt {s : ByteArray} {i : Nat} {k : Int} (h : atV s i = k) (hk : k ≠ -1) : i < s.size := by
  unfold atV at h
  split at h
  · assumption
  · exact absurd h.symm hk
theorem hash_sym {l : Bs} (h : hd (· == 40) l = false) : hashV l = match symV l with | .err e => .err e | .ok t n => .ok ⟨6, t, 0⟩ n := if_neg (by simp [h])
set_option maxHeartbeats 4000000 in
theorem rsym_long (s : ByteArray) (i : Nat) (w : World) (hs : s.size ≤ 100000) (hi : i + 1 ≤ s.size) (h40 : hd (· == 40) (s.data.toList.drop (i + 1)) = false) (hsg : hd signB (s.data.toList.drop (i + 1)) = false) (hlt : hd letB (s.data.toList.drop (i + 1)) = true) (h24 : nmLen (s.data.toList.drop (i + 1)) > 24) :
    Calls Try.prog 35 #[.string s, .agg #[.int .i64 0, .string ⟨#[]⟩, .int .i64 0, .int .i64 i]] w (RPost (hashV (s.data.toList.drop (i + 1))) w i (i + 1)) := by
  have F : Hid (hashV (s.data.toList.drop (i + 1)) = .err 12) := by show _ = _; rw [hash_sym h40, sym_long hsg hlt h24]
  rw [hd_byte (p := (· == 40)) rfl] at h40
  rw [at_sign] at hsg
  rw [at_let] at hlt
  have hlt' : i + 1 < s.size := at_lt (by simpa using hlt) (by decide)
  obtain ⟨a, ha⟩ : ∃ a, atV s (i + 1) = a := ⟨_, rfl⟩
  have HA := Lib.hid ha
  rw [ha] at hsg hlt
  have nlt : (a != 1) = false := by unfold bne; rw [hlt]; rfl
  clear ha
  have hbn := nm_bd s (i + 1) hi
  obtain ⟨n, hn⟩ : ∃ n, nmLen (s.data.toList.drop (i + 1)) = n := ⟨_, rfl⟩
  have HN := Lib.hid hn
  rw [hn] at h24 hbn
  clear hn
  obtain ⟨q, hq⟩ : ∃ q, q = i + 1 + n := ⟨_, rfl⟩
  have HQ := Lib.hid hq
  have t24 : decide (24 < (q : Int) - ((i : Int) + 1)) = true := decide_eq_true (by omega)
  rw [← hq] at hbn
  clear hq
  have b3 : (0 : Int) ≤ (i : Int) + 1 := by omega
  rw [byteU_lt hlt'] at h40
  have d1 : decide (i + 1 < s.size) = true := decide_eq_true hlt'
  have d1' : decide ((i : Int) + 1 < (s.size : Int)) = true := decide_eq_true (by omega)
  have b2 : (i : Int) + 1 < (s.size : Int) := by omega
  obtain ⟨x, hx⟩ : ∃ x, s[i + 1] = x := ⟨_, rfl⟩
  rw [hx] at h40
  have e40 := u8_eq x 40 (by omega)
  rw [show (x == UInt8.ofNat 40) = false from h40] at e40
  have n40 : ((x.toNat : Int) == 40) = false := e40
  clear h40 e40
  go_enter Try.func35, Try.ntmps35
  go_wp2_with (first | (go_at_call 31; (with_reducible refine (rat1 _ _ _ hs).mono ?_); rw [HA.out]; rintro e w' ⟨rfl, rfl⟩) | (go_at_call 32; (with_reducible refine (rname1 _ _ _ hs hi).mono ?_); rw [HN.out, ← HQ.out]; rintro e w' ⟨rfl, rfl⟩))
  refine bodyPost_ret (v := .tuple #[.agg #[.int .i64 6, .string ⟨#[]⟩, .int .i64 0, .int .i64 i], .int .i64 0, .int .i64 12]) (by simp [results, Try.results35, go_sem, *]) rfl ?_
  refine ⟨?_, .inl ⟨_, F.out, _, _, _, rfl⟩⟩
  repeat' (first | (with_reducible exact World.grownBy.refl _ _) | (with_reducible assumption) | (with_reducible refine grown_alloc ?_ _) | (with_reducible refine grown_drewN ?_ _) | (with_reducible refine grown_setOwn ?_ ?_ _) | omega)
end Go.Proofs.Ytdcibeagljeioaa
