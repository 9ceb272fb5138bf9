/- Chapter 10: a number's digits, and code told as lines, by the reference. -/
import Derived.Test.YtnojndgmgkgnpaaCZ
import Derived.Test.YtnojndgmgkgnpaaL1
import Derived.Laws.BytesArg
import Derived.Lib.ItoaLen
import Derived.Laws.Concat
namespace Go.Proofs.Ytnojndgmgkgnpaa.Tx
open Lv
open Go.ChangeShapes Go.WideShapes Go.ChangeAt Go.RowKit Go.Deep Go.Joins
set_option linter.unusedVariables false
set_option linter.unusedSimpArgs false
def namesL : List (List UInt8) := [[], [115, 101, 108, 102], [110, 105, 108], [116, 114, 117, 101], [102, 97, 108, 115, 101], [99, 111, 110, 116, 101, 120, 116], [108, 105, 116], [116, 101, 109, 112], [105, 118, 97, 114], [103, 108, 111, 98, 97, 108], [116, 111, 116, 101, 109, 112], [116, 111, 105, 118, 97, 114], [112, 111, 112], [100, 117, 112], [115, 101, 110, 100], [115, 117, 112, 101, 114], [106, 117, 109, 112], [105, 102, 110, 111, 116], [98, 108, 111, 99, 107], [101, 110, 100], [114, 101, 116, 117, 114, 110]]
def strV (l : List UInt8) : Value := .string ⟨l.toArray⟩
/-! ### lines -/
def nameV (op : Int) : List UInt8 := if 1 ≤ op ∧ op ≤ 20 then namesL.getD op.toNat [] else []
def opdV (n : Int) (u : Bool) : List UInt8 := if u then 32 :: Lib.itoa n else []
def lineV (i : Ins) : List UInt8 := nameV i.op ++ opdV i.a (decide (0 < usesV i.op)) ++ opdV i.b (decide (1 < usesV i.op)) ++ [10]
def textV (C : Nat → Ins) (k : Nat) : List UInt8 := (List.range k).flatMap (fun i => lineV (C i))
theorem text_succ (C : Nat → Ins) (k : Nat) : textV C (k + 1) = textV C k ++ lineV (C k) := by unfold textV; rw [List.range_succ, List.flatMap_append]; simp
def InIns (i : Ins) : Prop := (-9223372036854775808 ≤ i.op ∧ i.op ≤ 9223372036854775807) ∧ (-9223372036854775808 ≤ i.a ∧ i.a ≤ 9223372036854775807) ∧ (-9223372036854775808 ≤ i.b ∧ i.b ≤ 9223372036854775807)
theorem name_len (op : Int) : (nameV op).length ≤ 7 := by
 unfold nameV
 split
 ·rename_i h
  obtain ⟨q, hq⟩ : ∃ q : Nat, op = q := ⟨op.toNat, by omega⟩
  subst hq
  have hq : q < 21 := by omega
  have : ∀ p : Fin 21, (namesL.getD p.val []).length ≤ 7 := by decide
  exact this ⟨q, hq⟩
 ·simp
theorem opd_len {n : Int} (h : -9223372036854775808 ≤ n ∧ n ≤ 9223372036854775807) (u : Bool) : (opdV n u).length ≤ 22 := by
 unfold opdV
 split
 ·have := Lib.itoa_length_le n h.1 h.2
  simp; omega
 ·simp
theorem line_len {i : Ins} (h : InIns i) : (lineV i).length ≤ 52 := by
 unfold lineV
 have h1 := name_len i.op
 have h2 := opd_len h.2.1 (decide (0 < usesV i.op))
 have h3 := opd_len h.2.2 (decide (1 < usesV i.op))
 simp only [List.length_append, List.length_singleton]
 omega
theorem text_len {C : Nat → Ins} {n : Nat} (h : ∀ i, i < n → InIns (C i)) : ∀ k, k ≤ n → (textV C k).length ≤ 52 * k
 | 0, _ => by simp [textV]
 | k + 1, hk => by
  have h1 := text_len h k (by omega)
  have h2 := line_len (h k (by omega))
  rw [text_succ, List.length_append]; omega
theorem str_app (a b : List UInt8) : (⟨a.toArray⟩ : ByteArray) ++ ⟨b.toArray⟩ = ⟨(a ++ b).toArray⟩ := by
 apply ByteArray.ext
 simp [ByteArray.data_append]
theorem str_size (a : List UInt8) : (⟨a.toArray⟩ : ByteArray).size = a.length := by simp [ByteArray.size]
/-- a sum of short strings -/
theorem str_add (a b : List UInt8) (h : a.length + b.length ≤ 1000000000) (w : World) : (Op.stringOp .add ⟨a.toArray⟩ ⟨b.toArray⟩).run Try.prog w = .ok (.string ⟨(a ++ b).toArray⟩) w := by
 rw [run_string_add_sum w _ _ (by rw [str_size, str_size]; omega), str_app]
theorem u8_in {x : Int} (h0 : 0 ≤ x) (h1 : x ≤ 255) : IntKind.u8.wrap x = x := by rw [IntKind.wrap_u8]; omega
theorem code_kept {W W' : World} {q : Option Addr} {n : Nat} {C : Nat → Ins} (h : IsCode W q n C) (hb : Below W.heap.size W W') : IsCode W' q n C := Row.below h hb
theorem u8_one {w : World} (x : Int) : (Go.convert 83 9 (.slice (some ⟨w.heap.size, 0, none⟩) 1 1)).run Try.prog (w.alloc (.cells #[.int .u8 x] 5)) = .ok (.string (strOfNums [x])) (w.alloc (.cells #[.int .u8 x] 5)) :=
 run_convert_bytes_arg _ 83 5 Try.underlying83 Try.underlying5 w.heap.size 0 1 1 [x] rfl (fun i hi => by
  obtain rfl : i = 0 := by omega
  simp [go_sem]) 9 Try.underlying9
theorem one_str (u : Nat) : strOfNums [48 + (u : Int)] = ⟨[UInt8.ofNat (48 + u)].toArray⟩ := by
 unfold strOfNums
 have : (48 + (u : Int)).toNat = 48 + u := by omega
 simp [this]
def dz (m : Nat) : List UInt8 := if m = 0 then [] else Lib.decDigits m
theorem dz_step {m : Nat} (h : 0 < m) : dz m = dz (m / 10) ++ [UInt8.ofNat (48 + m % 10)] := by
 unfold dz
 rw [if_neg (by omega), Lib.decDigits]
 split
 ·rename_i h1
  rw [if_pos (by omega), List.nil_append, Nat.mod_eq_of_lt h1]
 ·rename_i h1
  rw [if_neg (by omega)]
theorem dec_len (u : Nat) (h : u ≤ 9223372036854775808) : (Lib.decDigits u).length ≤ 22 := by
 rcases Nat.lt_or_ge u 9223372036854775808 with h1 | h1
 ·have := Lib.itoa_length_le (u : Int) (by omega) (by omega)
  rw [Lib.itoa_nonneg] at this; omega
 ·obtain rfl : u = 9223372036854775808 := by omega
  have := Lib.itoa_length_le (-((9223372036854775808 : Nat) : Int)) (by omega) (by omega)
  rw [Lib.itoa_neg _ (by omega)] at this
  simp at this; omega
theorem dz_some {m : Nat} (h : 0 < m) : dz m = Lib.decDigits m := if_neg (by omega)
set_option maxRecDepth 100000 in
set_option maxHeartbeats 16000000 in
theorem digits_nat (u : Nat) : u ≤ 9223372036854775807 → ∀ w : World, Calls Try.prog 29 #[.int .i64 u] w fun e w' => e = .returned (strV (Lib.decDigits u)) ∧ Below w.heap.size w w' := by
 induction u using Nat.strongRecOn with
 | ind u ih =>
  intro hu w
  have p0 : decide ((0 : Int) ≤ (u : Int)) = true := decide_eq_true (by omega)
  by_cases h : u < 10
  ·have p1 : decide ((u : Int) < 10) = true := decide_eq_true (by omega)
   have p2 : decide (u < 10) = true := decide_eq_true (by omega)
   have k1 : IntKind.u8.wrap (48 + (u : Int)) = 48 + (u : Int) := u8_in (by omega) (by omega)
   have cv := u8_one (w := w) (48 + (u : Int))
   rw [one_str] at cv
   obtain ⟨dd, hdd⟩ : ∃ dd, [UInt8.ofNat (48 + u)] = dd := ⟨_, rfl⟩
   have HE : Hid (Lib.decDigits u = dd) := Lib.hid ((Lib.decDigits_one h).trans hdd)
   rw [hdd] at cv
   clear ih hdd
   go_enter Try.func29, Try.ntmps29
   go_wp2_with fail
   go_ret
   exact ⟨by rw [HE.out]; rfl, bel⟩
  ·have p1 : decide ((u : Int) < 10) = false := decide_eq_false (by omega)
   have p2 : decide (u < 10) = false := decide_eq_false (by omega)
   have p3 : decide ((0 : Int) < (u : Int)) = true := decide_eq_true (by omega)
   have p4 : decide (0 < u) = true := decide_eq_true (by omega)
   obtain ⟨da, hda⟩ : ∃ dd, Lib.decDigits (u / 10) = dd := ⟨_, rfl⟩
   obtain ⟨db, hdb⟩ : ∃ dd, Lib.decDigits (u % 10) = dd := ⟨_, rfl⟩
   have l1 := dec_len (u / 10) (by omega)
   have l2 := dec_len (u % 10) (by omega)
   have i1 := ih (u / 10) (by omega) (by omega)
   have i2 := ih (u % 10) (by omega) (by omega)
   rw [hda, show ((u / 10 : Nat) : Int) = (u : Int) / 10 by omega] at i1
   rw [hdb, show ((u % 10 : Nat) : Int) = (u : Int) % 10 by omega] at i2
   rw [hda] at l1
   rw [hdb] at l2
   have s1 := str_add da db (by omega)
   have HE : Hid (Lib.decDigits u = da ++ db) := Lib.hid (by rw [Lib.decDigits, dif_neg h, ← hda, ← hdb, Lib.decDigits_one (Nat.mod_lt u (by decide))])
   have I1 := Lib.hid i1
   have I2 := Lib.hid i2
   clear ih hda hdb i1 i2
   go_enter Try.func29, Try.ntmps29
   go_wp2_with fail
   (with_reducible refine (I1.out _).mono ?_)
   rintro e w1 ⟨rfl, hb1⟩
   dsimp only [strV]
   go_wp2_with fail
   (with_reducible refine (I2.out _).mono ?_)
   rintro e w2 ⟨rfl, hb2⟩
   dsimp only [strV]
   go_wp2_with fail
   go_ret
   exact ⟨by rw [HE.out]; rfl, Below.trans' hb1 hb2⟩
set_option maxRecDepth 100000 in
set_option maxHeartbeats 16000000 in
theorem digits_neg (u : Nat) (h0 : 0 < u) (hu : u ≤ 9223372036854775808) (w : World) : Calls Try.prog 29 #[.int .i64 (-(u : Int))] w fun e w' => e = .returned (strV (45 :: Lib.decDigits u)) ∧ Below w.heap.size w w' := by
 have hlen := dec_len u hu
 obtain ⟨n0, hn0⟩ : ∃ n : Int, -(u : Int) = n := ⟨_, rfl⟩
 rw [hn0]
 have HN0 := Lib.hid hn0
 have p0 : decide ((0 : Int) ≤ n0) = false := decide_eq_false (by omega)
 have p1 : decide ((0 : Int) < n0) = false := decide_eq_false (by omega)
 obtain ⟨ds, hds⟩ : ∃ ds, Lib.decDigits u = ds := ⟨_, rfl⟩
 rw [hds] at hlen ⊢
 have HDS := Lib.hid hds
 clear hds hn0
 go_enter Try.func29, Try.ntmps29
 go_wp2_with fail
 go_loopw [3, 0] (fun s n wr => ∃ (m : Nat) (s' : List UInt8), n = .int .i64 (-(m : Int)) ∧ s = .string ⟨s'.toArray⟩ ∧ ds = dz m ++ s' ∧ m ≤ u ∧ Below w.heap.size w wr) (fun _ n _ => (intOf n).natAbs)
 case atStart => exact ⟨u, [], by rw [HN0.out], rfl, by rw [dz_some h0, HDS.out, List.append_nil], Nat.le_refl _, Below.refl _ _⟩
 case round =>
  obtain ⟨m, s', rfl, rfl, hcat, hmu, hbw⟩ := hrel
  have HBW := Lib.hid hbw
  have HCAT := Lib.hid hcat
  obtain ⟨nn, hnn⟩ : ∃ n : Int, -(m : Int) = n := ⟨_, rfl⟩
  have HNN := Lib.hid hnn
  rw [hnn]
  by_cases hm : 0 < m
  ·have d0 : decide (nn < 0) = true := decide_eq_true (by omega)
   obtain ⟨d, hd⟩ : ∃ d : Nat, m % 10 = d := ⟨_, rfl⟩
   obtain ⟨q, hq⟩ : ∃ q : Nat, m / 10 = q := ⟨_, rfl⟩
   have hd9 : d ≤ 9 := by omega
   have e1 : nn.tmod 10 = -(d : Int) := by rw [← hnn, Int.neg_tmod, ← hd]; rfl
   have e2 : nn.tdiv 10 = -(q : Int) := by rw [← hnn, Int.neg_tdiv, ← hq]; rfl
   have k1 : IntKind.u8.wrap (48 + (d : Int)) = 48 + (d : Int) := u8_in (by omega) (by omega)
   have k2 : IntKind.u8.wrap (48 - -(d : Int)) = 48 + (d : Int) := by rw [Int.sub_neg]; exact k1
   have hst := dz_step hm
   rw [hd, hq] at hst
   have cv := u8_one (w := wr) (48 + (d : Int))
   rw [one_str] at cv
   obtain ⟨dd, hdd⟩ : ∃ dd, UInt8.ofNat (48 + d) = dd := ⟨_, rfl⟩
   rw [hdd] at cv hst
   have hl' : s'.length ≤ 22 := by have := congrArg List.length hcat; simp at this; omega
   have s1 := str_add [dd] s' (by simp; omega)
   have HC2 : Hid (ds = dz q ++ ([dd] ++ s')) := Lib.hid (by rw [hcat, hst, List.append_assoc])
   have hqm : q < m := by omega
   clear hdd hst hcat hbw hnn hd hq HCAT
   go_wp2_with fail
   go_roundw
   case rel => exact ⟨q, [dd] ++ s', rfl, rfl, HC2.out, by omega, HBW.out.trans (((Below.refl wr.heap.size wr).alloc (Nat.le_refl _) _).mono HBW.out.size)⟩
   case measure => simp [intOf]; have := HNN.out; omega
  ·have hm0 : m = 0 := by omega
   have d0 : decide (nn < 0) = false := decide_eq_false (by omega)
   have hs : s' = ds := by rw [hcat, hm0]; rfl
   have s1 := str_add [45] s' (by rw [hs]; simp; omega)
   have HS := Lib.hid hs
   clear hs hm hm0 hcat hbw hnn HCAT
   go_wp2_with fail
   go_ret
   exact ⟨by rw [← HS.out]; rfl, HBW.out⟩
theorem digits_any (n : Int) (h : -9223372036854775808 ≤ n ∧ n ≤ 9223372036854775807) (w : World) : Calls Try.prog 29 #[.int .i64 n] w fun e w' => e = .returned (strV (Lib.itoa n)) ∧ Below w.heap.size w w' := by
 by_cases h0 : n < 0
 ·obtain ⟨u, rfl⟩ : ∃ u : Nat, n = -(u : Int) := ⟨n.natAbs, by omega⟩
  rw [Lib.itoa_neg _ (by omega)]
  exact digits_neg u (by omega) (by omega) w
 ·obtain ⟨u, rfl⟩ : ∃ u : Nat, n = (u : Int) := ⟨n.toNat, by omega⟩
  rw [Lib.itoa_nonneg]
  exact digits_nat u (by omega) w
theorem digits_str (n : Int) (h : -9223372036854775808 ≤ n ∧ n ≤ 9223372036854775807) (w : World) : Calls Try.prog 29 #[.int .i64 n] w fun e w' => e = .returned (.string ⟨(Lib.itoa n).toArray⟩) ∧ Below w.heap.size w w' := digits_any n h w
theorem names_row (w : World) (q : Nat) (hq : q < 21) : (w.alloc (.cells #[.string ⟨#[]⟩, .string ⟨#[115, 101, 108, 102]⟩, .string ⟨#[110, 105, 108]⟩, .string ⟨#[116, 114, 117, 101]⟩, .string ⟨#[102, 97, 108, 115, 101]⟩, .string ⟨#[99, 111, 110, 116, 101, 120, 116]⟩, .string ⟨#[108, 105, 116]⟩, .string ⟨#[116, 101, 109, 112]⟩, .string ⟨#[105, 118, 97, 114]⟩, .string ⟨#[103, 108, 111, 98, 97, 108]⟩, .string ⟨#[116, 111, 116, 101, 109, 112]⟩, .string ⟨#[116, 111, 105, 118, 97, 114]⟩, .string ⟨#[112, 111, 112]⟩, .string ⟨#[100, 117, 112]⟩, .string ⟨#[115, 101, 110, 100]⟩, .string ⟨#[115, 117, 112, 101, 114]⟩, .string ⟨#[106, 117, 109, 112]⟩, .string ⟨#[105, 102, 110, 111, 116]⟩, .string ⟨#[98, 108, 111, 99, 107]⟩, .string ⟨#[101, 110, 100]⟩, .string ⟨#[114, 101, 116, 117, 114, 110]⟩] 9)).cell? ⟨w.heap.size, q, none⟩ = some (strV (namesL.getD q [])) := by
 have h1 := heap_alloc_new w (.cells #[.string ⟨#[]⟩, .string ⟨#[115, 101, 108, 102]⟩, .string ⟨#[110, 105, 108]⟩, .string ⟨#[116, 114, 117, 101]⟩, .string ⟨#[102, 97, 108, 115, 101]⟩, .string ⟨#[99, 111, 110, 116, 101, 120, 116]⟩, .string ⟨#[108, 105, 116]⟩, .string ⟨#[116, 101, 109, 112]⟩, .string ⟨#[105, 118, 97, 114]⟩, .string ⟨#[103, 108, 111, 98, 97, 108]⟩, .string ⟨#[116, 111, 116, 101, 109, 112]⟩, .string ⟨#[116, 111, 105, 118, 97, 114]⟩, .string ⟨#[112, 111, 112]⟩, .string ⟨#[100, 117, 112]⟩, .string ⟨#[115, 101, 110, 100]⟩, .string ⟨#[115, 117, 112, 101, 114]⟩, .string ⟨#[106, 117, 109, 112]⟩, .string ⟨#[105, 102, 110, 111, 116]⟩, .string ⟨#[98, 108, 111, 99, 107]⟩, .string ⟨#[101, 110, 100]⟩, .string ⟨#[114, 101, 116, 117, 114, 110]⟩] 9)
 unfold World.cell?
 rw [h1]
 show (namesL.map strV).toArray[q]? = _
 have hl : q < namesL.length := hq
 rw [List.getElem?_toArray, List.getElem?_map, List.getElem?_eq_getElem hl, List.getD_eq_getElem?_getD, List.getElem?_eq_getElem hl]
 rfl
set_option maxRecDepth 100000 in
set_option maxHeartbeats 16000000 in
theorem rtext_any {w : World} {p : Option Addr} {n c : Nat} {C : Nat → Ins} (hC : IsCode w p n C) (hn : n ≤ 100000) (hI : ∀ i, i < n → InIns (C i)) : Calls Try.prog 18 #[.slice p n c] w fun e w' => e = .returned (strV (textV C n)) ∧ Below w.heap.size w w' := by
 have HC := Lib.hid hC
 have HI := Lib.hid hI
 clear hC hI
 go_enter Try.func18, Try.ntmps18
 go_upto_region 2 with fail
 obtain ⟨W, hW⟩ : ∃ W, W = w.alloc (.cells #[.string ⟨#[]⟩, .string ⟨#[115, 101, 108, 102]⟩, .string ⟨#[110, 105, 108]⟩, .string ⟨#[116, 114, 117, 101]⟩, .string ⟨#[102, 97, 108, 115, 101]⟩, .string ⟨#[99, 111, 110, 116, 101, 120, 116]⟩, .string ⟨#[108, 105, 116]⟩, .string ⟨#[116, 101, 109, 112]⟩, .string ⟨#[105, 118, 97, 114]⟩, .string ⟨#[103, 108, 111, 98, 97, 108]⟩, .string ⟨#[116, 111, 116, 101, 109, 112]⟩, .string ⟨#[116, 111, 105, 118, 97, 114]⟩, .string ⟨#[112, 111, 112]⟩, .string ⟨#[100, 117, 112]⟩, .string ⟨#[115, 101, 110, 100]⟩, .string ⟨#[115, 117, 112, 101, 114]⟩, .string ⟨#[106, 117, 109, 112]⟩, .string ⟨#[105, 102, 110, 111, 116]⟩, .string ⟨#[98, 108, 111, 99, 107]⟩, .string ⟨#[101, 110, 100]⟩, .string ⟨#[114, 101, 116, 117, 114, 110]⟩] 9) := ⟨_, rfl⟩
 have hBW : Below w.heap.size w W := by rw [hW]; (repeat' first | (with_reducible first | exact bl0 _ _ | assumption | apply bl1 | apply bl2 | apply bl3 | apply bl4) | go_size)
 have HNMS : Hid (∀ q, q < 21 → W.cell? ⟨w.heap.size, q, none⟩ = some (strV (namesL.getD q []))) := Lib.hid (by rw [hW]; exact names_row w)
 rw [← hW]
 have hzW : w.heap.size < W.heap.size := by rw [hW]; go_size
 have HBW0 := Lib.hid hBW
 have HC := Lib.hid (code_kept HC.out hBW)
 clear hW hBW
 go_wp2_with fail
 go_loopw [4, 5] (fun v i wr => ∃ k : Nat, k ≤ n ∧ i = .int .i64 k ∧ v = .string ⟨(textV C k).toArray⟩ ∧ Below W.heap.size W wr) (fun _ i _ => n - (intOf i).toNat)
 case atStart => exact ⟨0, Nat.zero_le _, rfl, rfl, Below.refl _ _⟩
 case round =>
  obtain ⟨k, hk, rfl, hv, hbw⟩ := hrel
  have hlen := text_len HI.out k hk
  obtain ⟨tx, htx⟩ : ∃ tx, textV C k = tx := ⟨_, rfl⟩
  have HTX := Lib.hid htx
  rw [htx] at hv hlen
  subst hv
  have HBW := Lib.hid hbw
  by_cases hlt : k < n
  ·have d1 : decide (k < n) = true := decide_eq_true hlt
   obtain ⟨bb, off, rfl, hlt0, c0, c1, c2⟩ := HC.out.at_ hbw hlt
   have hin := HI.out k hlt
   obtain ⟨ii, hii⟩ : ∃ ii, C k = ii := ⟨_, rfl⟩
   have HII := Lib.hid hii
   rw [hii] at c0 c1 c2 hin
   have HNX : Hid (textV C (k + 1) = tx ++ lineV ii) := Lib.hid (by rw [text_succ, htx, hii])
   obtain ⟨op, a, b⟩ := ii
   have HIA : Hid (-9223372036854775808 ≤ a ∧ a ≤ 9223372036854775807) := Lib.hid hin.2.1
   have HIB : Hid (-9223372036854775808 ≤ b ∧ b ≤ 9223372036854775807) := Lib.hid hin.2.2
   dsimp only at c0 c1 c2
   have g0 : (0 : Int) ≤ (k : Int) := by omega
   have g1 : (k : Int) < (n : Int) := by omega
   have HBA : Hid (Below W.heap.size W wr) := Lib.hid hbw
   have hlt1 : bb < wr.heap.size := Nat.lt_of_lt_of_le hlt0 hbw.size
   clear hii hbw htx hin
   by_cases hr : op < 1 ∨ 20 < op
   ·have hu := uses_zero hr
    have HU := Lib.hid hu
    have HLV : Hid (lineV ⟨op, a, b⟩ = [10]) := Lib.hid (by unfold lineV nameV; rw [hu, if_neg (show ¬ (1 ≤ op ∧ op ≤ 20) by omega)]; simp [opdV])
    obtain ⟨t1, ht1⟩ : ∃ t, tx = t := ⟨_, rfl⟩
    have HT1 := Lib.hid ht1
    rw [ht1] at hlen ⊢
    clear hu
    rcases hr with hr | hr
    ·have q0 : decide ((1 : Int) ≤ op) = false := decide_eq_false (by omega)
     clear hr
     have n1 := str_add t1 [10] (by simp; omega)
     go_wp2_with (first | (go_at_call 28; (with_reducible refine (ruses_any _ _).mono ?_); rw [HU.out]; rintro e w2 ⟨rfl, hw2⟩; replace hw2 := hw2.symm; subst hw2))
     go_roundw
     case rel =>
      refine ⟨k + 1, by omega, by go_num, ?_, HBA.out⟩
      have HE : textV C (k + 1) = t1 ++ [10] := by rw [HNX.out, HLV.out, ← HT1.out] <;> simp
      rw [HE]
     case measure => simp [intOf]; omega
    ·have q0 : decide ((1 : Int) ≤ op) = true := decide_eq_true (by omega)
     have q1 : decide (op ≤ (20 : Int)) = false := decide_eq_false (by omega)
     clear hr
     have n1 := str_add t1 [10] (by simp; omega)
     go_wp2_with (first | (go_at_call 28; (with_reducible refine (ruses_any _ _).mono ?_); rw [HU.out]; rintro e w2 ⟨rfl, hw2⟩; replace hw2 := hw2.symm; subst hw2))
     go_roundw
     case rel =>
      refine ⟨k + 1, by omega, by go_num, ?_, HBA.out⟩
      have HE : textV C (k + 1) = t1 ++ [10] := by rw [HNX.out, HLV.out, ← HT1.out] <;> simp
      rw [HE]
     case measure => simp [intOf]; omega
   ·obtain ⟨q, rfl⟩ : ∃ q : Nat, op = q := ⟨op.toNat, by omega⟩
    obtain ⟨nm, hnm⟩ : ∃ nm, namesL.getD q [] = nm := ⟨_, rfl⟩
    have HNM : Hid (nameV (q : Int) = nm) := Lib.hid (by unfold nameV; rw [if_pos (by omega), Int.toNat_natCast]; exact hnm)
    have hnl : nm.length ≤ 7 := by have := name_len (q : Int); rw [HNM.out] at this; exact this
    have cn : wr.cell? ⟨w.heap.size, q, none⟩ = some (.string ⟨nm.toArray⟩) := by have := (HBW.out.cell (p := ⟨w.heap.size, q, none⟩) hzW).trans (HNMS.out q (by omega)); rw [hnm] at this; exact this
    have s1 := str_add tx nm (by omega)
    clear hnm
    have q0 : decide ((1 : Int) ≤ (q : Int)) = true := decide_eq_true (by omega)
    have q1 : decide ((q : Int) ≤ 20) = true := decide_eq_true (by omega)
    have q2 : (0 : Int) ≤ (q : Int) := by omega
    have q3 : (q : Int) < 21 := by omega
    clear hr
    go_upto_region 8 with fail
    obtain ⟨t1, ht1⟩ : ∃ t, tx ++ nm = t := ⟨_, rfl⟩
    have HT1 := Lib.hid ht1
    have hl1 : t1.length ≤ 52 * k + 7 := by rw [← ht1, List.length_append]; omega
    rw [ht1]
    clear ht1 s1 cn
    obtain ⟨ia, hia⟩ : ∃ ia, Lib.itoa a = ia := ⟨_, rfl⟩
    obtain ⟨ib, hib⟩ : ∃ ib, Lib.itoa b = ib := ⟨_, rfl⟩
    have hla : ia.length ≤ 21 := by rw [← hia]; exact Lib.itoa_length_le a HIA.out.1 HIA.out.2
    have hlb : ib.length ≤ 21 := by rw [← hib]; exact Lib.itoa_length_le b HIB.out.1 HIB.out.2
    have HIT := Lib.hid hia
    have HJT := Lib.hid hib
    have hu3 : usesV (q : Int) = 0 ∨ usesV (q : Int) = 1 ∨ usesV (q : Int) = 2 := by
     unfold usesV
     split
     ·exact .inr (.inr rfl)
     ·split
      ·exact .inr (.inl rfl)
      ·exact .inl rfl
    clear hia hib
    rcases hu3 with hu | hu | hu
    ·have HU := Lib.hid hu
     have HLV : Hid (lineV ⟨(q : Int), a, b⟩ = nm ++ [10]) := Lib.hid (by unfold lineV; rw [hu, HNM.out]; simp [opdV])
     clear hu
     have n1 := str_add t1 [10] (by simp; omega)
     go_wp2_with (first | (go_at_call 28; (with_reducible refine (ruses_any _ _).mono ?_); rw [HU.out]; rintro e w2 ⟨rfl, hw2⟩; replace hw2 := hw2.symm; subst hw2))
     go_roundw
     case rel =>
      refine ⟨k + 1, by omega, by go_num, ?_, HBA.out⟩
      have HE : textV C (k + 1) = t1 ++ [10] := by rw [HNX.out, HLV.out, ← HT1.out] <;> simp
      rw [HE]
     case measure => simp [intOf]; omega
    ·have HU := Lib.hid hu
     have HLV : Hid (lineV ⟨(q : Int), a, b⟩ = nm ++ (32 :: ia) ++ [10]) := Lib.hid (by unfold lineV; rw [hu, HNM.out]; simp [opdV, HIT.out])
     clear hu
     have a1 := str_add t1 [32] (by simp; omega)
     have a2 := str_add (t1 ++ [32]) ia (by simp; omega)
     obtain ⟨t2, ht2⟩ : ∃ t, t1 ++ [32] ++ ia = t := ⟨_, rfl⟩
     have HT2 := Lib.hid ht2
     have hl2 : t2.length ≤ 52 * k + 30 := by rw [← ht2]; simp; omega
     rw [ht2] at a2
     clear ht2
     have n1 := str_add t2 [10] (by simp; omega)
     go_wp2_with (first | (go_at_call 28; (with_reducible refine (ruses_any _ _).mono ?_); rw [HU.out]; rintro e w2 ⟨rfl, hw2⟩; replace hw2 := hw2.symm; subst hw2) | (go_at_call_of 29 (Value.int .i64 a); (with_reducible refine (digits_str a HIA.out _).mono ?_); rw [HIT.out]; rintro e w2 ⟨rfl, hb2⟩; have e2 : w2.cell? ⟨bb, off + k * 3 + 2, none⟩ = some (.int .i64 b) := (hb2.cell (p := ⟨bb, off + k * 3 + 2, none⟩) hlt1).trans c2; have HBN : Hid (Below W.heap.size W w2) := Lib.hid (HBA.out.trans (hb2.mono HBA.out.size)); clear HBA hb2; have HBA := HBN; clear HBN))
     go_roundw
     case rel =>
      refine ⟨k + 1, by omega, by go_num, ?_, HBA.out⟩
      have HE : textV C (k + 1) = t2 ++ [10] := by rw [HNX.out, HLV.out, ← HT2.out, ← HT1.out] <;> simp
      rw [HE]
     case measure => simp [intOf]; omega
    ·have HU := Lib.hid hu
     have HLV : Hid (lineV ⟨(q : Int), a, b⟩ = nm ++ (32 :: ia) ++ (32 :: ib) ++ [10]) := Lib.hid (by unfold lineV; rw [hu, HNM.out]; simp [opdV, HIT.out, HJT.out])
     clear hu
     have a1 := str_add t1 [32] (by simp; omega)
     have a2 := str_add (t1 ++ [32]) ia (by simp; omega)
     obtain ⟨t2, ht2⟩ : ∃ t, t1 ++ [32] ++ ia = t := ⟨_, rfl⟩
     have HT2 := Lib.hid ht2
     have hl2 : t2.length ≤ 52 * k + 30 := by rw [← ht2]; simp; omega
     rw [ht2] at a2
     clear ht2
     have b1 := str_add t2 [32] (by simp; omega)
     have b2 := str_add (t2 ++ [32]) ib (by simp; omega)
     obtain ⟨t3, ht3⟩ : ∃ t, t2 ++ [32] ++ ib = t := ⟨_, rfl⟩
     have HT3 := Lib.hid ht3
     have hl3 : t3.length ≤ 52 * k + 60 := by rw [← ht3]; simp; omega
     rw [ht3] at b2
     clear ht3
     have n1 := str_add t3 [10] (by simp; omega)
     go_wp2_with (first | (go_at_call 28; (with_reducible refine (ruses_any _ _).mono ?_); rw [HU.out]; rintro e w2 ⟨rfl, hw2⟩; replace hw2 := hw2.symm; subst hw2) | (go_at_call_of 29 (Value.int .i64 a); (with_reducible refine (digits_str a HIA.out _).mono ?_); rw [HIT.out]; rintro e w2 ⟨rfl, hb2⟩; have e2 : w2.cell? ⟨bb, off + k * 3 + 2, none⟩ = some (.int .i64 b) := (hb2.cell (p := ⟨bb, off + k * 3 + 2, none⟩) hlt1).trans c2; have HBN : Hid (Below W.heap.size W w2) := Lib.hid (HBA.out.trans (hb2.mono HBA.out.size)); clear HBA hb2; have HBA := HBN; clear HBN) | (go_at_call_of 29 (Value.int .i64 b); (with_reducible refine (digits_str b HIB.out _).mono ?_); rw [HJT.out]; rintro e w2 ⟨rfl, hb2⟩; have HBN : Hid (Below W.heap.size W w2) := Lib.hid (HBA.out.trans (hb2.mono HBA.out.size)); clear HBA hb2; have HBA := HBN; clear HBN))
     go_roundw
     case rel =>
      refine ⟨k + 1, by omega, by go_num, ?_, HBA.out⟩
      have HE : textV C (k + 1) = t3 ++ [10] := by rw [HNX.out, HLV.out, ← HT3.out, ← HT2.out, ← HT1.out] <;> simp
      rw [HE]
     case measure => simp [intOf]; omega
  ·have hkn : k = n := by omega
   have d1 : decide (k < n) = false := decide_eq_false hlt
   clear hlt
   subst hkn
   go_wp2_with fail
   go_ret
   exact ⟨by rw [HTX.out]; rfl, HBW0.out.trans (HBW.out.mono HBW0.out.size)⟩
end Go.Proofs.Ytnojndgmgkgnpaa.Tx
