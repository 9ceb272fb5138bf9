/- Chapter 09: instructions told as lines, by the reference. -/
import Derived.Test.YtclndbiljhbbkaaDoorC7
namespace Go.Proofs.YtclndbiljhbbkaaDoor
open Go.ChangeShapes Go.WideShapes Go.ChangeAt Go.RowKit Go.Deep Go.Joins
set_option linter.unusedVariables false
set_option linter.unusedSimpArgs false
theorem digits_str (n : Int) (h : -9223372036854775808 ≤ n ∧ n ≤ 9223372036854775807) (w : World) : Calls Tryd.prog 32 #[.int .i64 n] w fun e w' => e = .returned (.string ⟨(Lib.itoa n).toArray⟩) ∧ Below w.heap.size w w' := digits_any n h w
theorem names_row (w : World) (q : Nat) (hq : q < 21) : (w.alloc (.cells #[.string ⟨#[]⟩, .string ⟨#[115, 101, 108, 102]⟩, .string ⟨#[110, 105, 108]⟩, .string ⟨#[116, 114, 117, 101]⟩, .string ⟨#[102, 97, 108, 115, 101]⟩, .string ⟨#[99, 111, 110, 116, 101, 120, 116]⟩, .string ⟨#[108, 105, 116]⟩, .string ⟨#[116, 101, 109, 112]⟩, .string ⟨#[105, 118, 97, 114]⟩, .string ⟨#[103, 108, 111, 98, 97, 108]⟩, .string ⟨#[116, 111, 116, 101, 109, 112]⟩, .string ⟨#[116, 111, 105, 118, 97, 114]⟩, .string ⟨#[112, 111, 112]⟩, .string ⟨#[100, 117, 112]⟩, .string ⟨#[115, 101, 110, 100]⟩, .string ⟨#[115, 117, 112, 101, 114]⟩, .string ⟨#[106, 117, 109, 112]⟩, .string ⟨#[105, 102, 110, 111, 116]⟩, .string ⟨#[98, 108, 111, 99, 107]⟩, .string ⟨#[101, 110, 100]⟩, .string ⟨#[114, 101, 116, 117, 114, 110]⟩] 9)).cell? ⟨w.heap.size, q, none⟩ = some (strV (namesL.getD q [])) := by
  have h1 := heap_alloc_new w (.cells #[.string ⟨#[]⟩, .string ⟨#[115, 101, 108, 102]⟩, .string ⟨#[110, 105, 108]⟩, .string ⟨#[116, 114, 117, 101]⟩, .string ⟨#[102, 97, 108, 115, 101]⟩, .string ⟨#[99, 111, 110, 116, 101, 120, 116]⟩, .string ⟨#[108, 105, 116]⟩, .string ⟨#[116, 101, 109, 112]⟩, .string ⟨#[105, 118, 97, 114]⟩, .string ⟨#[103, 108, 111, 98, 97, 108]⟩, .string ⟨#[116, 111, 116, 101, 109, 112]⟩, .string ⟨#[116, 111, 105, 118, 97, 114]⟩, .string ⟨#[112, 111, 112]⟩, .string ⟨#[100, 117, 112]⟩, .string ⟨#[115, 101, 110, 100]⟩, .string ⟨#[115, 117, 112, 101, 114]⟩, .string ⟨#[106, 117, 109, 112]⟩, .string ⟨#[105, 102, 110, 111, 116]⟩, .string ⟨#[98, 108, 111, 99, 107]⟩, .string ⟨#[101, 110, 100]⟩, .string ⟨#[114, 101, 116, 117, 114, 110]⟩] 9)
  unfold World.cell?
  rw [h1]
  show (namesL.map strV).toArray[q]? = _
  have hl : q < namesL.length := hq
  rw [List.getElem?_toArray, List.getElem?_map, List.getElem?_eq_getElem hl, List.getD_eq_getElem?_getD, List.getElem?_eq_getElem hl]
  rfl
set_option maxRecDepth 100000 in
set_option maxHeartbeats 16000000 in
theorem rtext_any {w : World} {p : Option Addr} {n c : Nat} {C : Nat → Ins} (hC : IsCode w p n C) (hn : n ≤ 100000) (hI : ∀ i, i < n → InIns (C i)) : Calls Tryd.prog 23 #[.slice p n c] w fun e w' => e = .returned (strV (textV C n)) ∧ Below w.heap.size w w' := by
  have HC := Lib.hid hC
  have HI := Lib.hid hI
  clear hC hI
  go_enter Tryd.func23, Tryd.ntmps23
  go_upto_region 2 with fail
  obtain ⟨W, hW⟩ : ∃ W, W = w.alloc (.cells #[.string ⟨#[]⟩, .string ⟨#[115, 101, 108, 102]⟩, .string ⟨#[110, 105, 108]⟩, .string ⟨#[116, 114, 117, 101]⟩, .string ⟨#[102, 97, 108, 115, 101]⟩, .string ⟨#[99, 111, 110, 116, 101, 120, 116]⟩, .string ⟨#[108, 105, 116]⟩, .string ⟨#[116, 101, 109, 112]⟩, .string ⟨#[105, 118, 97, 114]⟩, .string ⟨#[103, 108, 111, 98, 97, 108]⟩, .string ⟨#[116, 111, 116, 101, 109, 112]⟩, .string ⟨#[116, 111, 105, 118, 97, 114]⟩, .string ⟨#[112, 111, 112]⟩, .string ⟨#[100, 117, 112]⟩, .string ⟨#[115, 101, 110, 100]⟩, .string ⟨#[115, 117, 112, 101, 114]⟩, .string ⟨#[106, 117, 109, 112]⟩, .string ⟨#[105, 102, 110, 111, 116]⟩, .string ⟨#[98, 108, 111, 99, 107]⟩, .string ⟨#[101, 110, 100]⟩, .string ⟨#[114, 101, 116, 117, 114, 110]⟩] 9) := ⟨_, rfl⟩
  have hBW : Below w.heap.size w W := by rw [hW]; (repeat' (first | (with_reducible exact Below.refl _ _) | (with_reducible assumption) | (with_reducible refine below_drewN ?_ _) | (with_reducible refine Below.alloc ?_ ?_ _) | (with_reducible refine Below.drew ?_) | (with_reducible refine Below.setCell ?_ ?_ _) | go_size))
  have HNMS : Hid (∀ q, q < 21 → W.cell? ⟨w.heap.size, q, none⟩ = some (strV (namesL.getD q []))) := Lib.hid (by rw [hW]; exact names_row w)
  rw [← hW]
  have hzW : w.heap.size < W.heap.size := by rw [hW]; go_size
  have HBW0 := Lib.hid hBW
  have HC := Lib.hid (code_kept HC.out hBW)
  clear hW hBW
  go_wp2_with fail
  go_loopw [4, 5] (fun v i wr => ∃ k : Nat, k ≤ n ∧ i = .int .i64 k ∧ v = .string ⟨(textV C k).toArray⟩ ∧ Below W.heap.size W wr) (fun _ i _ => n - (intOf i).toNat)
  case atStart => exact ⟨0, Nat.zero_le _, rfl, rfl, Below.refl _ _⟩
  case round =>
    obtain ⟨k, hk, rfl, hv, hbw⟩ := hrel
    have hlen := text_len HI.out k hk
    obtain ⟨tx, htx⟩ : ∃ tx, textV C k = tx := ⟨_, rfl⟩
    have HTX := Lib.hid htx
    rw [htx] at hv hlen
    subst hv
    have HBW := Lib.hid hbw
    by_cases hlt : k < n
    · have d1 : decide (k < n) = true := decide_eq_true hlt
      obtain ⟨bb, off, rfl, hlt0, c0, c1, c2⟩ := HC.out.at_ hbw hlt
      have hin := HI.out k hlt
      obtain ⟨ii, hii⟩ : ∃ ii, C k = ii := ⟨_, rfl⟩
      have HII := Lib.hid hii
      rw [hii] at c0 c1 c2 hin
      have HNX : Hid (textV C (k + 1) = tx ++ lineV ii) := Lib.hid (by rw [text_succ, htx, hii])
      obtain ⟨op, a, b⟩ := ii
      have HIA : Hid (-9223372036854775808 ≤ a ∧ a ≤ 9223372036854775807) := Lib.hid hin.2.1
      have HIB : Hid (-9223372036854775808 ≤ b ∧ b ≤ 9223372036854775807) := Lib.hid hin.2.2
      dsimp only at c0 c1 c2
      have g0 : (0 : Int) ≤ (k : Int) := by omega
      have g1 : (k : Int) < (n : Int) := by omega
      have HBA : Hid (Below W.heap.size W wr) := Lib.hid hbw
      have hlt1 : bb < wr.heap.size := Nat.lt_of_lt_of_le hlt0 hbw.size
      clear hii hbw htx hin
      by_cases hr : op < 1 ∨ 20 < op
      · have hu := uses_zero hr
        have HU := Lib.hid hu
        have HLV : Hid (lineV ⟨op, a, b⟩ = [10]) := Lib.hid (by unfold lineV nameV; rw [hu, if_neg (show ¬ (1 ≤ op ∧ op ≤ 20) by omega)]; simp [opdV])
        obtain ⟨t1, ht1⟩ : ∃ t, tx = t := ⟨_, rfl⟩
        have HT1 := Lib.hid ht1
        rw [ht1] at hlen ⊢
        clear hu
        rcases hr with hr | hr
        · have q0 : decide ((1 : Int) ≤ op) = false := decide_eq_false (by omega)
          clear hr
          have n1 := str_add t1 [10] (by simp; omega)
          go_wp2_with (first | (go_at_call 30; (with_reducible refine (ruses_any _ _).mono ?_); rw [HU.out]; rintro e w2 ⟨rfl, hw2⟩; replace hw2 := hw2.symm; subst hw2))
          go_roundw
          case rel =>
            refine ⟨k + 1, by omega, by go_num, ?_, HBA.out⟩
            have HE : textV C (k + 1) = t1 ++ [10] := by rw [HNX.out, HLV.out, ← HT1.out] <;> simp
            rw [HE]
          case measure => simp [intOf]; omega
        · have q0 : decide ((1 : Int) ≤ op) = true := decide_eq_true (by omega)
          have q1 : decide (op ≤ (20 : Int)) = false := decide_eq_false (by omega)
          clear hr
          have n1 := str_add t1 [10] (by simp; omega)
          go_wp2_with (first | (go_at_call 30; (with_reducible refine (ruses_any _ _).mono ?_); rw [HU.out]; rintro e w2 ⟨rfl, hw2⟩; replace hw2 := hw2.symm; subst hw2))
          go_roundw
          case rel =>
            refine ⟨k + 1, by omega, by go_num, ?_, HBA.out⟩
            have HE : textV C (k + 1) = t1 ++ [10] := by rw [HNX.out, HLV.out, ← HT1.out] <;> simp
            rw [HE]
          case measure => simp [intOf]; omega
      · obtain ⟨q, rfl⟩ : ∃ q : Nat, op = q := ⟨op.toNat, by omega⟩
        obtain ⟨nm, hnm⟩ : ∃ nm, namesL.getD q [] = nm := ⟨_, rfl⟩
        have HNM : Hid (nameV (q : Int) = nm) := Lib.hid (by unfold nameV; rw [if_pos (by omega), Int.toNat_natCast]; exact hnm)
        have hnl : nm.length ≤ 7 := by have := name_len (q : Int); rw [HNM.out] at this; exact this
        have cn : wr.cell? ⟨w.heap.size, q, none⟩ = some (.string ⟨nm.toArray⟩) := by have := (HBW.out.cell (p := ⟨w.heap.size, q, none⟩) hzW).trans (HNMS.out q (by omega)); rw [hnm] at this; exact this
        have s1 := str_add tx nm (by omega)
        clear hnm
        have q0 : decide ((1 : Int) ≤ (q : Int)) = true := decide_eq_true (by omega)
        have q1 : decide ((q : Int) ≤ 20) = true := decide_eq_true (by omega)
        have q2 : (0 : Int) ≤ (q : Int) := by omega
        have q3 : (q : Int) < 21 := by omega
        clear hr
        go_upto_region 8 with fail
        obtain ⟨t1, ht1⟩ : ∃ t, tx ++ nm = t := ⟨_, rfl⟩
        have HT1 := Lib.hid ht1
        have hl1 : t1.length ≤ 52 * k + 7 := by rw [← ht1, List.length_append]; omega
        rw [ht1]
        clear ht1 s1 cn
        obtain ⟨ia, hia⟩ : ∃ ia, Lib.itoa a = ia := ⟨_, rfl⟩
        obtain ⟨ib, hib⟩ : ∃ ib, Lib.itoa b = ib := ⟨_, rfl⟩
        have hla : ia.length ≤ 21 := by rw [← hia]; exact Lib.itoa_length_le a HIA.out.1 HIA.out.2
        have hlb : ib.length ≤ 21 := by rw [← hib]; exact Lib.itoa_length_le b HIB.out.1 HIB.out.2
        have HIT := Lib.hid hia
        have HJT := Lib.hid hib
        have hu3 : usesV (q : Int) = 0 ∨ usesV (q : Int) = 1 ∨ usesV (q : Int) = 2 := by
          unfold usesV
          split
          · exact .inr (.inr rfl)
          · split
            · exact .inr (.inl rfl)
            · exact .inl rfl
        clear hia hib
        rcases hu3 with hu | hu | hu
        · have HU := Lib.hid hu
          have HLV : Hid (lineV ⟨(q : Int), a, b⟩ = nm ++ [10]) := Lib.hid (by unfold lineV; rw [hu, HNM.out]; simp [opdV])
          clear hu
          have n1 := str_add t1 [10] (by simp; omega)
          go_wp2_with (first | (go_at_call 30; (with_reducible refine (ruses_any _ _).mono ?_); rw [HU.out]; rintro e w2 ⟨rfl, hw2⟩; replace hw2 := hw2.symm; subst hw2))
          go_roundw
          case rel =>
            refine ⟨k + 1, by omega, by go_num, ?_, HBA.out⟩
            have HE : textV C (k + 1) = t1 ++ [10] := by rw [HNX.out, HLV.out, ← HT1.out] <;> simp
            rw [HE]
          case measure => simp [intOf]; omega
        · have HU := Lib.hid hu
          have HLV : Hid (lineV ⟨(q : Int), a, b⟩ = nm ++ (32 :: ia) ++ [10]) := Lib.hid (by unfold lineV; rw [hu, HNM.out]; simp [opdV, HIT.out])
          clear hu
          have a1 := str_add t1 [32] (by simp; omega)
          have a2 := str_add (t1 ++ [32]) ia (by simp; omega)
          obtain ⟨t2, ht2⟩ : ∃ t, t1 ++ [32] ++ ia = t := ⟨_, rfl⟩
          have HT2 := Lib.hid ht2
          have hl2 : t2.length ≤ 52 * k + 30 := by rw [← ht2]; simp; omega
          rw [ht2] at a2
          clear ht2
          have n1 := str_add t2 [10] (by simp; omega)
          go_wp2_with (first | (go_at_call 30; (with_reducible refine (ruses_any _ _).mono ?_); rw [HU.out]; rintro e w2 ⟨rfl, hw2⟩; replace hw2 := hw2.symm; subst hw2) | (go_at_call_of 32 (Value.int .i64 a); (with_reducible refine (digits_str a HIA.out _).mono ?_); rw [HIT.out]; rintro e w2 ⟨rfl, hb2⟩; have e2 : w2.cell? ⟨bb, off + k * 3 + 2, none⟩ = some (.int .i64 b) := (hb2.cell (p := ⟨bb, off + k * 3 + 2, none⟩) hlt1).trans c2; have HBN : Hid (Below W.heap.size W w2) := Lib.hid (HBA.out.trans (hb2.mono HBA.out.size)); clear HBA hb2; have HBA := HBN; clear HBN))
          go_roundw
          case rel =>
            refine ⟨k + 1, by omega, by go_num, ?_, HBA.out⟩
            have HE : textV C (k + 1) = t2 ++ [10] := by rw [HNX.out, HLV.out, ← HT2.out, ← HT1.out] <;> simp
            rw [HE]
          case measure => simp [intOf]; omega
        · have HU := Lib.hid hu
          have HLV : Hid (lineV ⟨(q : Int), a, b⟩ = nm ++ (32 :: ia) ++ (32 :: ib) ++ [10]) := Lib.hid (by unfold lineV; rw [hu, HNM.out]; simp [opdV, HIT.out, HJT.out])
          clear hu
          have a1 := str_add t1 [32] (by simp; omega)
          have a2 := str_add (t1 ++ [32]) ia (by simp; omega)
          obtain ⟨t2, ht2⟩ : ∃ t, t1 ++ [32] ++ ia = t := ⟨_, rfl⟩
          have HT2 := Lib.hid ht2
          have hl2 : t2.length ≤ 52 * k + 30 := by rw [← ht2]; simp; omega
          rw [ht2] at a2
          clear ht2
          have b1 := str_add t2 [32] (by simp; omega)
          have b2 := str_add (t2 ++ [32]) ib (by simp; omega)
          obtain ⟨t3, ht3⟩ : ∃ t, t2 ++ [32] ++ ib = t := ⟨_, rfl⟩
          have HT3 := Lib.hid ht3
          have hl3 : t3.length ≤ 52 * k + 60 := by rw [← ht3]; simp; omega
          rw [ht3] at b2
          clear ht3
          have n1 := str_add t3 [10] (by simp; omega)
          go_wp2_with (first | (go_at_call 30; (with_reducible refine (ruses_any _ _).mono ?_); rw [HU.out]; rintro e w2 ⟨rfl, hw2⟩; replace hw2 := hw2.symm; subst hw2) | (go_at_call_of 32 (Value.int .i64 a); (with_reducible refine (digits_str a HIA.out _).mono ?_); rw [HIT.out]; rintro e w2 ⟨rfl, hb2⟩; have e2 : w2.cell? ⟨bb, off + k * 3 + 2, none⟩ = some (.int .i64 b) := (hb2.cell (p := ⟨bb, off + k * 3 + 2, none⟩) hlt1).trans c2; have HBN : Hid (Below W.heap.size W w2) := Lib.hid (HBA.out.trans (hb2.mono HBA.out.size)); clear HBA hb2; have HBA := HBN; clear HBN) | (go_at_call_of 32 (Value.int .i64 b); (with_reducible refine (digits_str b HIB.out _).mono ?_); rw [HJT.out]; rintro e w2 ⟨rfl, hb2⟩; have HBN : Hid (Below W.heap.size W w2) := Lib.hid (HBA.out.trans (hb2.mono HBA.out.size)); clear HBA hb2; have HBA := HBN; clear HBN))
          go_roundw
          case rel =>
            refine ⟨k + 1, by omega, by go_num, ?_, HBA.out⟩
            have HE : textV C (k + 1) = t3 ++ [10] := by rw [HNX.out, HLV.out, ← HT3.out, ← HT2.out, ← HT1.out] <;> simp
            rw [HE]
          case measure => simp [intOf]; omega
    · have hkn : k = n := by omega
      have d1 : decide (k < n) = false := decide_eq_false hlt
      clear hlt
      subst hkn
      go_wp2_with fail
      go_ret
      exact ⟨by rw [HTX.out]; rfl, HBW0.out.trans (HBW.out.mono HBW0.out.size)⟩
end Go.Proofs.YtclndbiljhbbkaaDoor
