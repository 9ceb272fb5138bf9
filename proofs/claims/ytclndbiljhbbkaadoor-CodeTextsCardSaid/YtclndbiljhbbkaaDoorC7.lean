/- Chapter 09: a number's digits, as the reference tells them. -/
import Derived.Test.YtclndbiljhbbkaaDoorC4
namespace Go.Proofs.YtclndbiljhbbkaaDoor
open Go.ChangeShapes Go.WideShapes Go.ChangeAt Go.RowKit Go.Deep Go.Joins
set_option linter.unusedVariables false
set_option linter.unusedSimpArgs false
theorem u8_one {w : World} (x : Int) : (Go.convert 24 9 (.slice (some ⟨w.heap.size, 0, none⟩) 1 1)).run Tryd.prog (w.alloc (.cells #[.int .u8 x] 5)) = .ok (.string (strOfNums [x])) (w.alloc (.cells #[.int .u8 x] 5)) :=
  run_convert_bytes_arg _ 24 5 Tryd.underlying24 Tryd.underlying5 w.heap.size 0 1 1 [x] rfl (fun i hi => by
    obtain rfl : i = 0 := by omega
    simp [go_sem]) 9 Tryd.underlying9
theorem one_str (u : Nat) : strOfNums [48 + (u : Int)] = ⟨[UInt8.ofNat (48 + u)].toArray⟩ := by
  unfold strOfNums
  have : (48 + (u : Int)).toNat = 48 + u := by omega
  simp [this]
def dz (m : Nat) : List UInt8 := if m = 0 then [] else Lib.decDigits m
theorem dz_step {m : Nat} (h : 0 < m) : dz m = dz (m / 10) ++ [UInt8.ofNat (48 + m % 10)] := by
  unfold dz
  rw [if_neg (by omega), Lib.decDigits]
  split
  · rename_i h1
    rw [if_pos (by omega), List.nil_append, Nat.mod_eq_of_lt h1]
  · rename_i h1
    rw [if_neg (by omega)]
theorem dec_len (u : Nat) (h : u ≤ 9223372036854775808) : (Lib.decDigits u).length ≤ 22 := by
  rcases Nat.lt_or_ge u 9223372036854775808 with h1 | h1
  · have := Lib.itoa_length_le (u : Int) (by omega) (by omega)
    rw [Lib.itoa_nonneg] at this; omega
  · obtain rfl : u = 9223372036854775808 := by omega
    have := Lib.itoa_length_le (-((9223372036854775808 : Nat) : Int)) (by omega) (by omega)
    rw [Lib.itoa_neg _ (by omega)] at this
    simp at this; omega
theorem dz_some {m : Nat} (h : 0 < m) : dz m = Lib.decDigits m := if_neg (by omega)
set_option maxRecDepth 100000 in
set_option maxHeartbeats 16000000 in
theorem digits_nat (u : Nat) : u ≤ 9223372036854775807 → ∀ w : World, Calls Tryd.prog 32 #[.int .i64 u] w fun e w' => e = .returned (strV (Lib.decDigits u)) ∧ Below w.heap.size w w' := by
  induction u using Nat.strongRecOn with
  | ind u ih =>
    intro hu w
    have p0 : decide ((0 : Int) ≤ (u : Int)) = true := decide_eq_true (by omega)
    by_cases h : u < 10
    · have p1 : decide ((u : Int) < 10) = true := decide_eq_true (by omega)
      have p2 : decide (u < 10) = true := decide_eq_true (by omega)
      have k1 : IntKind.u8.wrap (48 + (u : Int)) = 48 + (u : Int) := u8_in (by omega) (by omega)
      have cv := u8_one (w := w) (48 + (u : Int))
      rw [one_str] at cv
      obtain ⟨dd, hdd⟩ : ∃ dd, [UInt8.ofNat (48 + u)] = dd := ⟨_, rfl⟩
      have HE : Hid (Lib.decDigits u = dd) := Lib.hid ((Lib.decDigits_one h).trans hdd)
      rw [hdd] at cv
      clear ih hdd
      go_enter Tryd.func32, Tryd.ntmps32
      go_wp2_with fail
      go_ret
      exact ⟨by rw [HE.out]; rfl, by (repeat' (first | (with_reducible exact Below.refl _ _) | (with_reducible assumption) | (with_reducible refine below_drewN ?_ _) | (with_reducible refine Below.alloc ?_ ?_ _) | (with_reducible refine Below.drew ?_) | (with_reducible refine Below.setCell ?_ ?_ _) | go_size))⟩
    · have p1 : decide ((u : Int) < 10) = false := decide_eq_false (by omega)
      have p2 : decide (u < 10) = false := decide_eq_false (by omega)
      have p3 : decide ((0 : Int) < (u : Int)) = true := decide_eq_true (by omega)
      have p4 : decide (0 < u) = true := decide_eq_true (by omega)
      obtain ⟨da, hda⟩ : ∃ dd, Lib.decDigits (u / 10) = dd := ⟨_, rfl⟩
      obtain ⟨db, hdb⟩ : ∃ dd, Lib.decDigits (u % 10) = dd := ⟨_, rfl⟩
      have l1 := dec_len (u / 10) (by omega)
      have l2 := dec_len (u % 10) (by omega)
      have i1 := ih (u / 10) (by omega) (by omega)
      have i2 := ih (u % 10) (by omega) (by omega)
      rw [hda, show ((u / 10 : Nat) : Int) = (u : Int) / 10 by omega] at i1
      rw [hdb, show ((u % 10 : Nat) : Int) = (u : Int) % 10 by omega] at i2
      rw [hda] at l1
      rw [hdb] at l2
      have s1 := str_add da db (by omega)
      have HE : Hid (Lib.decDigits u = da ++ db) := Lib.hid (by rw [Lib.decDigits, dif_neg h, ← hda, ← hdb, Lib.decDigits_one (Nat.mod_lt u (by decide))])
      have I1 := Lib.hid i1
      have I2 := Lib.hid i2
      clear ih hda hdb i1 i2
      go_enter Tryd.func32, Tryd.ntmps32
      go_wp2_with fail
      (with_reducible refine (I1.out _).mono ?_)
      rintro e w1 ⟨rfl, hb1⟩
      dsimp only [strV]
      go_wp2_with fail
      (with_reducible refine (I2.out _).mono ?_)
      rintro e w2 ⟨rfl, hb2⟩
      dsimp only [strV]
      go_wp2_with fail
      go_ret
      exact ⟨by rw [HE.out]; rfl, Below.trans' hb1 hb2⟩
set_option maxRecDepth 100000 in
set_option maxHeartbeats 16000000 in
theorem digits_neg (u : Nat) (h0 : 0 < u) (hu : u ≤ 9223372036854775808) (w : World) : Calls Tryd.prog 32 #[.int .i64 (-(u : Int))] w fun e w' => e = .returned (strV (45 :: Lib.decDigits u)) ∧ Below w.heap.size w w' := by
  have hlen := dec_len u hu
  obtain ⟨n0, hn0⟩ : ∃ n : Int, -(u : Int) = n := ⟨_, rfl⟩
  rw [hn0]
  have HN0 := Lib.hid hn0
  have p0 : decide ((0 : Int) ≤ n0) = false := decide_eq_false (by omega)
  have p1 : decide ((0 : Int) < n0) = false := decide_eq_false (by omega)
  obtain ⟨ds, hds⟩ : ∃ ds, Lib.decDigits u = ds := ⟨_, rfl⟩
  rw [hds] at hlen ⊢
  have HDS := Lib.hid hds
  clear hds hn0
  go_enter Tryd.func32, Tryd.ntmps32
  go_wp2_with fail
  go_loopw [3, 0] (fun s n wr => ∃ (m : Nat) (s' : List UInt8), n = .int .i64 (-(m : Int)) ∧ s = .string ⟨s'.toArray⟩ ∧ ds = dz m ++ s' ∧ m ≤ u ∧ Below w.heap.size w wr) (fun _ n _ => (intOf n).natAbs)
  case atStart => exact ⟨u, [], by rw [HN0.out], rfl, by rw [dz_some h0, HDS.out, List.append_nil], Nat.le_refl _, Below.refl _ _⟩
  case round =>
    obtain ⟨m, s', rfl, rfl, hcat, hmu, hbw⟩ := hrel
    have HBW := Lib.hid hbw
    have HCAT := Lib.hid hcat
    obtain ⟨nn, hnn⟩ : ∃ n : Int, -(m : Int) = n := ⟨_, rfl⟩
    have HNN := Lib.hid hnn
    rw [hnn]
    by_cases hm : 0 < m
    · have d0 : decide (nn < 0) = true := decide_eq_true (by omega)
      obtain ⟨d, hd⟩ : ∃ d : Nat, m % 10 = d := ⟨_, rfl⟩
      obtain ⟨q, hq⟩ : ∃ q : Nat, m / 10 = q := ⟨_, rfl⟩
      have hd9 : d ≤ 9 := by omega
      have e1 : nn.tmod 10 = -(d : Int) := by rw [← hnn, Int.neg_tmod, ← hd]; rfl
      have e2 : nn.tdiv 10 = -(q : Int) := by rw [← hnn, Int.neg_tdiv, ← hq]; rfl
      have k1 : IntKind.u8.wrap (48 + (d : Int)) = 48 + (d : Int) := u8_in (by omega) (by omega)
      have k2 : IntKind.u8.wrap (48 - -(d : Int)) = 48 + (d : Int) := by rw [Int.sub_neg]; exact k1
      have hst := dz_step hm
      rw [hd, hq] at hst
      have cv := u8_one (w := wr) (48 + (d : Int))
      rw [one_str] at cv
      obtain ⟨dd, hdd⟩ : ∃ dd, UInt8.ofNat (48 + d) = dd := ⟨_, rfl⟩
      rw [hdd] at cv hst
      have hl' : s'.length ≤ 22 := by have := congrArg List.length hcat; simp at this; omega
      have s1 := str_add [dd] s' (by simp; omega)
      have HC2 : Hid (ds = dz q ++ ([dd] ++ s')) := Lib.hid (by rw [hcat, hst, List.append_assoc])
      have hqm : q < m := by omega
      clear hdd hst hcat hbw hnn hd hq HCAT
      go_wp2_with fail
      go_roundw
      case rel => exact ⟨q, [dd] ++ s', rfl, rfl, HC2.out, by omega, HBW.out.trans (((Below.refl wr.heap.size wr).alloc (Nat.le_refl _) _).mono HBW.out.size)⟩
      case measure => simp [intOf]; have := HNN.out; omega
    · have hm0 : m = 0 := by omega
      have d0 : decide (nn < 0) = false := decide_eq_false (by omega)
      have hs : s' = ds := by rw [hcat, hm0]; rfl
      have s1 := str_add [45] s' (by rw [hs]; simp; omega)
      have HS := Lib.hid hs
      clear hs hm hm0 hcat hbw hnn HCAT
      go_wp2_with fail
      go_ret
      exact ⟨by rw [← HS.out]; rfl, HBW.out⟩
theorem digits_any (n : Int) (h : -9223372036854775808 ≤ n ∧ n ≤ 9223372036854775807) (w : World) : Calls Tryd.prog 32 #[.int .i64 n] w fun e w' => e = .returned (strV (Lib.itoa n)) ∧ Below w.heap.size w w' := by
  by_cases h0 : n < 0
  · obtain ⟨u, rfl⟩ : ∃ u : Nat, n = -(u : Int) := ⟨n.natAbs, by omega⟩
    rw [Lib.itoa_neg _ (by omega)]
    exact digits_neg u (by omega) (by omega) w
  · obtain ⟨u, rfl⟩ : ∃ u : Nat, n = (u : Int) := ⟨n.toNat, by omega⟩
    rw [Lib.itoa_nonneg]
    exact digits_nat u (by omega) w
end Go.Proofs.YtclndbiljhbbkaaDoor
