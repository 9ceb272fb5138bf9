/- The law CodeJoined of chapter 09 holds for every input: it returns true, and its arguments stay. The tables that the row lists are tied to the program's text. -/
import Derived.Test.YtclndbiljhbbkaaDoorRows
import Derived.Test.YtclndbiljhbbkaaDoorTie
import Derived.Test.YtclndbiljhbbkaaDoorCards
import Derived.Test.YtclndbiljhbbkaaDoorC6
import Derived.WalkKit
import Derived.ProofKit
import Derived.OpenShut
import Derived.ChangeOld
import Derived.Below
import Derived.SevenTiedAt
namespace Go.Proofs.YtclndbiljhbbkaaDoor.codeJoined
open Go.ChangeShapes Go.WideShapes Go.ChangeAt Go.RowKit Go.Deep Go.Joins
set_option linter.unusedVariables false
set_option linter.unusedSimpArgs false

set_option maxRecDepth 100000 in
set_option maxHeartbeats 40000000 in
theorem walk (w : World) (hT : TabsB w) (A0 : Option Addr) (n0 c0 : Nat) (C0 : Nat → Ins) (R0 : RawL w A0 n0 c0 C0) (A1 : Option Addr) (n1 c1 : Nat) (C1 : Nat → Ins) (R1 : RawL w A1 n1 c1 C1) :
    Calls Tryd.prog 7 #[.slice A0 n0 c0, .slice A1 n1 c1] w fun e w' => e = .returned (.bool true) ∧ Below w.heap.size w w' := by
  have HT := Lib.hid hT
  have hle0 := R0.le
  have hcap0 := R0.cap
  have hle1 := R1.le
  have hcap1 := R1.cap
  obtain ⟨m0, hm0⟩ : ∃ m, (if 200 < n0 then 200 else n0) = m := ⟨_, rfl⟩
  obtain ⟨m1, hm1⟩ : ∃ m, (if 200 < n1 then 200 else n1) = m := ⟨_, rfl⟩
  have le0 : m0 ≤ n0 ∧ m0 ≤ 200 := by rw [← hm0]; split <;> omega
  have le1 : m1 ≤ n1 ∧ m1 ≤ 200 := by rw [← hm1]; split <;> omega
  have HM0 := Lib.hid hm0
  have HM1 := Lib.hid hm1
  have HC0 : Hid (IsCode w A0 m0 C0) := Lib.hid (Row.less R0.row le0.1)
  have HC1 : Hid (IsCode w A1 m1 C1) := Lib.hid (Row.less R1.row le1.1)
  have HI0 : Hid (∀ i, i < m0 → InIns (C0 i)) := Lib.hid (fun i hi => R0.bnd i (by omega))
  have HI1 : Hid (∀ i, i < m1 → InIns (C1 i)) := Lib.hid (fun i hi => R1.bnd i (by omega))
  have HN0 : Hid (A0 = none → c0 = 0) := Lib.hid R0.nil
  have HN1 : Hid (A1 = none → c1 = 0) := Lib.hid R1.nil
  clear hT R0 R1 hm0 hm1
  go_enter Tryd.func7, Tryd.ntmps7
  go_upto_if 14 with (fail)
  go_cut [0] (fun v wx => v = .slice A0 m0 c0 ∧ wx = w)
  case first =>
    by_cases h : 200 < n0
    · have F : Hid (m0 = 200) := Lib.hid (by rw [← HM0.out]; exact if_pos h)
      have d : decide (200 < n0) = true := decide_eq_true h
      have d' : decide ((200 : Int) < (n0 : Int)) = true := decide_eq_true (by omega)
      have b : (200 : Int) ≤ (c0 : Int) := by omega
      have b' : 200 ≤ c0 := by omega
      go_wp2
      go_meet
      exact ⟨by rw [F.out], rfl⟩
    · have F : Hid (m0 = n0) := Lib.hid (by rw [← HM0.out]; exact if_neg h)
      have d : decide (200 < n0) = false := decide_eq_false h
      have d' : decide ((200 : Int) < (n0 : Int)) = false := decide_eq_false (by omega)
      go_wp2
      go_meet
      exact ⟨by rw [F.out], rfl⟩
  case rest =>
  obtain ⟨rfl, hwc⟩ := hcut
  replace hwc := hwc.symm
  subst hwc
  go_upto_if 19 with (fail)
  go_cut [1] (fun v wx => v = .slice A1 m1 c1 ∧ wx = w)
  case first =>
    by_cases h : 200 < n1
    · have F : Hid (m1 = 200) := Lib.hid (by rw [← HM1.out]; exact if_pos h)
      have d : decide (200 < n1) = true := decide_eq_true h
      have d' : decide ((200 : Int) < (n1 : Int)) = true := decide_eq_true (by omega)
      have b : (200 : Int) ≤ (c1 : Int) := by omega
      have b' : 200 ≤ c1 := by omega
      go_wp2
      go_meet
      exact ⟨by rw [F.out], rfl⟩
    · have F : Hid (m1 = n1) := Lib.hid (by rw [← HM1.out]; exact if_neg h)
      have d : decide (200 < n1) = false := decide_eq_false h
      have d' : decide ((200 : Int) < (n1 : Int)) = false := decide_eq_false (by omega)
      go_wp2
      go_meet
      exact ⟨by rw [F.out], rfl⟩
  case rest =>
  obtain ⟨rfl, hwc⟩ := hcut
  replace hwc := hwc.symm
  subst hwc
  go_upto_region 6 with fail
  go_wp2_with (first | (at_builtin; refine wpList_code rfl _ _ rfl w.heap.size _ 0 (fun _ => ⟨0, 0, 0⟩) rfl (IRow.nil _ _ _) rfl HN0.out HC0.out (fun e => by have := HN0.out e; omega) (by omega) (Nat.le_refl _) ?_; intro v1 w1 hi1 hb1; have HI1_ := Lib.hid hi1.cat0; clear hi1) | (at_builtin; refine wpList_code rfl _ _ rfl w.heap.size _ m0 C0 rfl HI1_.out rfl HN1.out (code_kept HC1.out hb1) (fun e => by have := HN1.out e; omega) (by omega) hb1.size ?_; intro v2 w2 hi2 hb2; obtain ⟨AB, cb, rfl, hcb, hcb2, hcode⟩ := hi2.code; have HCB := Lib.hid hcode; have hB2 := hb1.trans hb2; clear hi2 hcode hb1 hb2 HI1_))
  obtain ⟨o0, ho0⟩ : ∃ o, mayTo C0 m0 = o := ⟨_, rfl⟩
  obtain ⟨o1, ho1⟩ : ∃ o, mayTo C1 m1 = o := ⟨_, rfl⟩
  have HMAY0 := Lib.hid ho0
  have HMAY1 := Lib.hid ho1
  clear ho0 ho1
  cases o0 <;> cases o1
  · skip
    have HP0 : Hid (putV C0 m0 = ([], 19)) := Lib.hid (by unfold putV; rw [if_neg (fun q => by rw [HMAY0.out] at q; cases q.2)])
    have HP1 : Hid (putV C1 m1 = ([], 19)) := Lib.hid (by unfold putV; rw [if_neg (fun q => by rw [HMAY1.out] at q; cases q.2)])
    have HP2 : Hid (putV (cat m0 C0 C1) (m0 + m1) = ([], 19)) := Lib.hid (by unfold putV; rw [if_neg (fun q => by rw [may_cat, HMAY0.out, HMAY1.out] at q; cases q.2)])
    (with_reducible refine (put_any (c := c0) (code_kept HC0.out hB2)).mono ?_)
    rintro e w3 ⟨v3, rfl, hby3, hb3⟩
    rw [HP0.out] at hby3 ⊢
    have HBY3 := Lib.hid hby3
    have hB3 := hB2.trans (hb3.mono hB2.size)
    clear hby3
    go_wp2_with fail
    (with_reducible refine (put_any (c := c1) (code_kept HC1.out hB3)).mono ?_)
    rintro e w4 ⟨v4, rfl, hby4, hb4⟩
    rw [HP1.out] at hby4 ⊢
    have HBY4 := Lib.hid hby4
    have hB4 := hB3.trans (hb4.mono hB3.size)
    have h24 := Below.trans' hb3 hb4
    clear hby4
    go_wp2_with fail
    (with_reducible refine (put_any (c := cb) (code_kept HCB.out h24)).mono ?_)
    rintro e w5 ⟨v5, rfl, hby5, hb5⟩
    rw [HP2.out] at hby5 ⊢
    have hB5 := hB4.trans (hb5.mono hB4.size)
    have h25 := Below.trans' h24 hb5
    clear hby5 hb3 hb4 hb5 h24
    have hI2 : ∀ i, i < m0 + m1 → InIns (cat m0 C0 C1 i) := fun i hi => by
      unfold cat
      split
      · exact HI0.out i (by omega)
      · exact HI1.out _ (by omega)
    have len0 := text_len HI0.out m0 (Nat.le_refl _)
    have len1 := text_len HI1.out m1 (Nat.le_refl _)
    obtain ⟨ta, hta⟩ : ∃ ta, textV C0 m0 = ta := ⟨_, rfl⟩
    obtain ⟨tb, htb⟩ : ∃ tb, textV C1 m1 = tb := ⟨_, rfl⟩
    have HTX : Hid (textV (cat m0 C0 C1) (m0 + m1) = ta ++ tb) := Lib.hid (by rw [text_cat, hta, htb])
    rw [hta] at len0
    rw [htb] at len1
    have y6 := str_add ta tb (by omega)
    have HTA := Lib.hid hta
    have HTB := Lib.hid htb
    have HI2 := Lib.hid hI2
    clear hta htb hI2
    go_wp2_with fail
    (with_reducible refine (text_any (c := cb) (code_kept HCB.out h25) (HT.out.below hB5) (by omega) HI2.out).mono ?_)
    rintro e w6 ⟨rfl, hb6⟩
    rw [HTX.out]
    have hB6 := hB5.trans (hb6.mono hB5.size)
    dsimp only [strV]
    go_wp2_with fail
    (with_reducible refine (text_any (c := c0) (code_kept HC0.out hB6) (HT.out.below hB6) (by omega) HI0.out).mono ?_)
    rintro e w7 ⟨rfl, hb7⟩
    rw [HTA.out]
    have hB7 := hB6.trans (hb7.mono hB6.size)
    dsimp only [strV]
    go_wp2_with fail
    (with_reducible refine (text_any (c := c1) (code_kept HC1.out hB7) (HT.out.below hB7) (by omega) HI1.out).mono ?_)
    rintro e w8 ⟨rfl, hb8⟩
    rw [HTB.out]
    have hB8 := hB7.trans (hb8.mono hB7.size)
    dsimp only [strV]
    go_wp2_with fail
    (with_reducible refine (lives_any _ (HT.out.below hB8)).mono ?_)
    rintro e w9 ⟨rfl, hb9⟩
    go_wp2_with fail
    go_ret
    exact ⟨rfl, hB8.trans (hb9.mono hB8.size)⟩
  · skip
    have HP0 : Hid (putV C0 m0 = ([], 19)) := Lib.hid (by unfold putV; rw [if_neg (fun q => by rw [HMAY0.out] at q; cases q.2)])
    have HP1 : Hid (putV C1 m1 = (bytesV C1 m1, 0)) := Lib.hid (by unfold putV; rw [if_pos ⟨by omega, HMAY1.out⟩])
    have HP2 : Hid (putV (cat m0 C0 C1) (m0 + m1) = ([], 19)) := Lib.hid (by unfold putV; rw [if_neg (fun q => by rw [may_cat, HMAY0.out, HMAY1.out] at q; cases q.2)])
    (with_reducible refine (put_any (c := c0) (code_kept HC0.out hB2)).mono ?_)
    rintro e w3 ⟨v3, rfl, hby3, hb3⟩
    rw [HP0.out] at hby3 ⊢
    have HBY3 := Lib.hid hby3
    have hB3 := hB2.trans (hb3.mono hB2.size)
    clear hby3
    go_wp2_with fail
    (with_reducible refine (put_any (c := c1) (code_kept HC1.out hB3)).mono ?_)
    rintro e w4 ⟨v4, rfl, hby4, hb4⟩
    rw [HP1.out] at hby4 ⊢
    have HBY4 := Lib.hid hby4
    have hB4 := hB3.trans (hb4.mono hB3.size)
    have h24 := Below.trans' hb3 hb4
    clear hby4
    go_wp2_with fail
    (with_reducible refine (put_any (c := cb) (code_kept HCB.out h24)).mono ?_)
    rintro e w5 ⟨v5, rfl, hby5, hb5⟩
    rw [HP2.out] at hby5 ⊢
    have hB5 := hB4.trans (hb5.mono hB4.size)
    have h25 := Below.trans' h24 hb5
    clear hby5 hb3 hb4 hb5 h24
    have hI2 : ∀ i, i < m0 + m1 → InIns (cat m0 C0 C1 i) := fun i hi => by
      unfold cat
      split
      · exact HI0.out i (by omega)
      · exact HI1.out _ (by omega)
    have len0 := text_len HI0.out m0 (Nat.le_refl _)
    have len1 := text_len HI1.out m1 (Nat.le_refl _)
    obtain ⟨ta, hta⟩ : ∃ ta, textV C0 m0 = ta := ⟨_, rfl⟩
    obtain ⟨tb, htb⟩ : ∃ tb, textV C1 m1 = tb := ⟨_, rfl⟩
    have HTX : Hid (textV (cat m0 C0 C1) (m0 + m1) = ta ++ tb) := Lib.hid (by rw [text_cat, hta, htb])
    rw [hta] at len0
    rw [htb] at len1
    have y6 := str_add ta tb (by omega)
    have HTA := Lib.hid hta
    have HTB := Lib.hid htb
    have HI2 := Lib.hid hI2
    clear hta htb hI2
    go_wp2_with fail
    (with_reducible refine (text_any (c := cb) (code_kept HCB.out h25) (HT.out.below hB5) (by omega) HI2.out).mono ?_)
    rintro e w6 ⟨rfl, hb6⟩
    rw [HTX.out]
    have hB6 := hB5.trans (hb6.mono hB5.size)
    dsimp only [strV]
    go_wp2_with fail
    (with_reducible refine (text_any (c := c0) (code_kept HC0.out hB6) (HT.out.below hB6) (by omega) HI0.out).mono ?_)
    rintro e w7 ⟨rfl, hb7⟩
    rw [HTA.out]
    have hB7 := hB6.trans (hb7.mono hB6.size)
    dsimp only [strV]
    go_wp2_with fail
    (with_reducible refine (text_any (c := c1) (code_kept HC1.out hB7) (HT.out.below hB7) (by omega) HI1.out).mono ?_)
    rintro e w8 ⟨rfl, hb8⟩
    rw [HTB.out]
    have hB8 := hB7.trans (hb8.mono hB7.size)
    dsimp only [strV]
    go_wp2_with fail
    (with_reducible refine (lives_any _ (HT.out.below hB8)).mono ?_)
    rintro e w9 ⟨rfl, hb9⟩
    go_wp2_with fail
    go_ret
    exact ⟨rfl, hB8.trans (hb9.mono hB8.size)⟩
  · skip
    have HP0 : Hid (putV C0 m0 = (bytesV C0 m0, 0)) := Lib.hid (by unfold putV; rw [if_pos ⟨by omega, HMAY0.out⟩])
    have HP1 : Hid (putV C1 m1 = ([], 19)) := Lib.hid (by unfold putV; rw [if_neg (fun q => by rw [HMAY1.out] at q; cases q.2)])
    have HP2 : Hid (putV (cat m0 C0 C1) (m0 + m1) = ([], 19)) := Lib.hid (by unfold putV; rw [if_neg (fun q => by rw [may_cat, HMAY0.out, HMAY1.out] at q; cases q.2)])
    (with_reducible refine (put_any (c := c0) (code_kept HC0.out hB2)).mono ?_)
    rintro e w3 ⟨v3, rfl, hby3, hb3⟩
    rw [HP0.out] at hby3 ⊢
    have HBY3 := Lib.hid hby3
    have hB3 := hB2.trans (hb3.mono hB2.size)
    clear hby3
    go_wp2_with fail
    (with_reducible refine (put_any (c := c1) (code_kept HC1.out hB3)).mono ?_)
    rintro e w4 ⟨v4, rfl, hby4, hb4⟩
    rw [HP1.out] at hby4 ⊢
    have HBY4 := Lib.hid hby4
    have hB4 := hB3.trans (hb4.mono hB3.size)
    have h24 := Below.trans' hb3 hb4
    clear hby4
    go_wp2_with fail
    (with_reducible refine (put_any (c := cb) (code_kept HCB.out h24)).mono ?_)
    rintro e w5 ⟨v5, rfl, hby5, hb5⟩
    rw [HP2.out] at hby5 ⊢
    have hB5 := hB4.trans (hb5.mono hB4.size)
    have h25 := Below.trans' h24 hb5
    clear hby5 hb3 hb4 hb5 h24
    have hI2 : ∀ i, i < m0 + m1 → InIns (cat m0 C0 C1 i) := fun i hi => by
      unfold cat
      split
      · exact HI0.out i (by omega)
      · exact HI1.out _ (by omega)
    have len0 := text_len HI0.out m0 (Nat.le_refl _)
    have len1 := text_len HI1.out m1 (Nat.le_refl _)
    obtain ⟨ta, hta⟩ : ∃ ta, textV C0 m0 = ta := ⟨_, rfl⟩
    obtain ⟨tb, htb⟩ : ∃ tb, textV C1 m1 = tb := ⟨_, rfl⟩
    have HTX : Hid (textV (cat m0 C0 C1) (m0 + m1) = ta ++ tb) := Lib.hid (by rw [text_cat, hta, htb])
    rw [hta] at len0
    rw [htb] at len1
    have y6 := str_add ta tb (by omega)
    have HTA := Lib.hid hta
    have HTB := Lib.hid htb
    have HI2 := Lib.hid hI2
    clear hta htb hI2
    go_wp2_with fail
    (with_reducible refine (text_any (c := cb) (code_kept HCB.out h25) (HT.out.below hB5) (by omega) HI2.out).mono ?_)
    rintro e w6 ⟨rfl, hb6⟩
    rw [HTX.out]
    have hB6 := hB5.trans (hb6.mono hB5.size)
    dsimp only [strV]
    go_wp2_with fail
    (with_reducible refine (text_any (c := c0) (code_kept HC0.out hB6) (HT.out.below hB6) (by omega) HI0.out).mono ?_)
    rintro e w7 ⟨rfl, hb7⟩
    rw [HTA.out]
    have hB7 := hB6.trans (hb7.mono hB6.size)
    dsimp only [strV]
    go_wp2_with fail
    (with_reducible refine (text_any (c := c1) (code_kept HC1.out hB7) (HT.out.below hB7) (by omega) HI1.out).mono ?_)
    rintro e w8 ⟨rfl, hb8⟩
    rw [HTB.out]
    have hB8 := hB7.trans (hb8.mono hB7.size)
    dsimp only [strV]
    go_wp2_with fail
    (with_reducible refine (lives_any _ (HT.out.below hB8)).mono ?_)
    rintro e w9 ⟨rfl, hb9⟩
    go_wp2_with fail
    go_ret
    exact ⟨rfl, hB8.trans (hb9.mono hB8.size)⟩
  · skip
    have HP0 : Hid (putV C0 m0 = (bytesV C0 m0, 0)) := Lib.hid (by unfold putV; rw [if_pos ⟨by omega, HMAY0.out⟩])
    have HP1 : Hid (putV C1 m1 = (bytesV C1 m1, 0)) := Lib.hid (by unfold putV; rw [if_pos ⟨by omega, HMAY1.out⟩])
    have HP2 : Hid (putV (cat m0 C0 C1) (m0 + m1) = (bytesV C0 m0 ++ bytesV C1 m1, 0)) := Lib.hid (by unfold putV; rw [if_pos ⟨by omega, by rw [may_cat, HMAY0.out, HMAY1.out]; rfl⟩, bytes_cat])
    (with_reducible refine (put_any (c := c0) (code_kept HC0.out hB2)).mono ?_)
    rintro e w3 ⟨v3, rfl, hby3, hb3⟩
    rw [HP0.out] at hby3 ⊢
    have HBY3 := Lib.hid hby3
    have hB3 := hB2.trans (hb3.mono hB2.size)
    clear hby3
    go_wp2_with fail
    (with_reducible refine (put_any (c := c1) (code_kept HC1.out hB3)).mono ?_)
    rintro e w4 ⟨v4, rfl, hby4, hb4⟩
    rw [HP1.out] at hby4 ⊢
    have HBY4 := Lib.hid hby4
    have hB4 := hB3.trans (hb4.mono hB3.size)
    have h24 := Below.trans' hb3 hb4
    clear hby4
    go_wp2_with fail
    (with_reducible refine (put_any (c := cb) (code_kept HCB.out h24)).mono ?_)
    rintro e w5 ⟨v5, rfl, hby5, hb5⟩
    rw [HP2.out] at hby5 ⊢
    have hB5 := hB4.trans (hb5.mono hB4.size)
    have h25 := Below.trans' h24 hb5
    have x5 := bints_conv hby5
    have x4 := bints_conv (HBY4.out.below hb5)
    have x3 := bints_conv (HBY3.out.below (Below.trans' hb4 hb5))
    obtain ⟨b3, hb3_⟩ : ∃ b, bytesV C0 m0 = b := ⟨_, rfl⟩
    obtain ⟨b4, hb4_⟩ : ∃ b, bytesV C1 m1 = b := ⟨_, rfl⟩
    have l3 := bytes_len C0 m0
    have l4 := bytes_len C1 m1
    rw [hb3_] at l3 x3 x5
    rw [hb4_] at l4 x4 x5
    have x6 := nums_add b3 b4 (by omega)
    clear hb3_ hb4_ l3 l4
    clear hby5 hb3 hb4 hb5 h24
    have hI2 : ∀ i, i < m0 + m1 → InIns (cat m0 C0 C1 i) := fun i hi => by
      unfold cat
      split
      · exact HI0.out i (by omega)
      · exact HI1.out _ (by omega)
    have len0 := text_len HI0.out m0 (Nat.le_refl _)
    have len1 := text_len HI1.out m1 (Nat.le_refl _)
    obtain ⟨ta, hta⟩ : ∃ ta, textV C0 m0 = ta := ⟨_, rfl⟩
    obtain ⟨tb, htb⟩ : ∃ tb, textV C1 m1 = tb := ⟨_, rfl⟩
    have HTX : Hid (textV (cat m0 C0 C1) (m0 + m1) = ta ++ tb) := Lib.hid (by rw [text_cat, hta, htb])
    rw [hta] at len0
    rw [htb] at len1
    have y6 := str_add ta tb (by omega)
    have HTA := Lib.hid hta
    have HTB := Lib.hid htb
    have HI2 := Lib.hid hI2
    clear hta htb hI2
    go_wp2_with fail
    (with_reducible refine (text_any (c := cb) (code_kept HCB.out h25) (HT.out.below hB5) (by omega) HI2.out).mono ?_)
    rintro e w6 ⟨rfl, hb6⟩
    rw [HTX.out]
    have hB6 := hB5.trans (hb6.mono hB5.size)
    dsimp only [strV]
    go_wp2_with fail
    (with_reducible refine (text_any (c := c0) (code_kept HC0.out hB6) (HT.out.below hB6) (by omega) HI0.out).mono ?_)
    rintro e w7 ⟨rfl, hb7⟩
    rw [HTA.out]
    have hB7 := hB6.trans (hb7.mono hB6.size)
    dsimp only [strV]
    go_wp2_with fail
    (with_reducible refine (text_any (c := c1) (code_kept HC1.out hB7) (HT.out.below hB7) (by omega) HI1.out).mono ?_)
    rintro e w8 ⟨rfl, hb8⟩
    rw [HTB.out]
    have hB8 := hB7.trans (hb8.mono hB7.size)
    dsimp only [strV]
    go_wp2_with fail
    (with_reducible refine (lives_any _ (HT.out.below hB8)).mono ?_)
    rintro e w9 ⟨rfl, hb9⟩
    go_wp2_with fail
    go_ret
    exact ⟨rfl, hB8.trans (hb9.mono hB8.size)⟩


/-! ### the row's step -/
set_option maxRecDepth 100000 in
theorem lifted (os : Os) (started : os.Started) (H : Type) (enc : TypeId × Value → H) :
    ReturnsInHanded {} Tryd.checked os 7 .any (fun w args => (Rows.codeJoinedSpec.pre enc Tryd.prog Tryd.f7 [] false w args ∧ laidMetH Tryd.prog laid4 w) ∧ sizedMet enc Tryd.prog Tryd.f7 (OpenSpec.ofChange Rows.codeJoinedSpec) false w args) (Rows.codeJoinedSpec.post enc Tryd.prog Tryd.f7 false true false false) := by
  refine returnsInHanded_of_change_and (C := Tryd.checked) (X := fun w _ => laidMetH Tryd.prog laid4 w) (fun _ _ _ hh h => h.of_heap hh) own9 started (by kernel_rfl) Tryd.func7
    (ChangeSpec.witness_shaped (enc := enc) (C := Tryd.checked) (os := os) (X := fun w _ => laidMetH Tryd.prog laid4 w) false (World.doorLaid Tryd.prog 29 os) #[.slice none 0 0, .slice none 0 0] 8 rfl (World.shaped_of_RefB (by kernel_rfl) (by kernel_rfl)) (by kernel_rfl) (by kernel_rfl) (by kernel_rfl) (door_met os _)) ?_
  intro W base args ds gs before hval0 hW _ _ hL _
  have hval : ∀ (j : Nat) t v, Tryd.f7.params[j]? = some t → args[j]? = some v → Value.okWide Tryd.prog W .any base t v := hval0
  have hW' := hW
  obtain ⟨p, q, hA0, hV, rfl, hfz, hnd⟩ := hW
  have hA : DataW.TrodAll enc Tryd.prog W 0 (fun _ => true) true Tryd.f7.params.toList args.toList ds p := hA0
  rw [Tryd.params7] at hA hval
  obtain ⟨v0, vs0, d0, ds0, p0, q0, hargs, rfl, rfl, h0, r0⟩ := trodAll_cons hA
  obtain ⟨v1, vs1, d1, ds1, p1, q1, rfl, rfl, rfl, h1, r1⟩ := trodAll_cons r0
  obtain ⟨rfl, rfl, rfl⟩ := trodAll_nil r1
  obtain rfl : args = #[v0, v1] := by cases args; simp_all
  obtain ⟨rfl, rfl⟩ := trodVars_none hV
  have k0 := h0
  have lt0 : ∀ x ∈ p0, x.block < W.heap.size := by obtain ⟨m, hm⟩ := k0; exact DataW.trod_lt m _ _ _ hm
  obtain ⟨A0, n0, c0, C0, rfl, R0⟩ := open_codel (hval 0 22 v0 rfl rfl) h0
  have k1 := h1
  have lt1 : ∀ x ∈ p1, x.block < W.heap.size := by obtain ⟨m, hm⟩ := k1; exact DataW.trod_lt m _ _ _ hm
  obtain ⟨A1, n1, c1, C1, rfl, R1⟩ := open_codel (hval 1 22 v1 rfl rfl) h1
  clear hA0 hval0
  refine (walk W (tabs_of_laid hL) _ _ _ _ R0 _ _ _ _ R1).mono fun e W' ⟨he, bel⟩ => ?_
  subst he
  exact ⟨_, rfl, _, _, _, [], _, [], hW', trodAll_mk1 (shut_bool Tryd.underlying4 _), (trodAll_cons_mk (Below.trod laidOut9 (by kernel_rfl) (of_decide_eq_true (by kernel_rfl)) k0 bel lt0) (trodAll_cons_mk (Below.trod laidOut9 (by kernel_rfl) (of_decide_eq_true (by kernel_rfl)) k1 bel lt1) trodAll_mk0)), rfl, bel.frame _, fun h => by cases h⟩

theorem over : Rows.codeJoinedRow.holds Tryd.pinned (OpenSpec.ofChange Rows.codeJoinedSpec) :=
  OpenClaim.holds_of_wide 7 Tryd.f7 rfl rfl rfl rfl rfl rfl rfl ⟨rfl, rfl, rfl, rfl, rfl⟩ rfl rfl rfl rfl rfl (by kernel_rfl) Tryd.func7 (by kernel_rfl)
    (of_decide_eq_true (by kernel_rfl)) (by unfold Func.isWrapper; first | (rw [if_pos (by decide +kernel)]; kernel_rfl) | (rw [if_neg (by decide +kernel)]; exact ⟨rfl, rfl⟩))
    (fun os started H enc _ => lifted os started H enc)

theorem proved : Rows.CodeJoinedCardSaid :=
  Claim7.holds_tied_plain_at .later [] [.data, .data, .data, .data] true (true, "19e9b0c65279d3d3fe7d7dcd55886fc2e804bea849dccd7f0254f23fa2434a49") false
    over (fun _ h => by cases h) (by kernel_rfl) (fun _ h => by cases h) codeJoined_row_tie rfl ⟨rfl, rfl⟩ (by kernel_rfl) rfl
    (fun f fn hf hfn => by
      obtain rfl : f = 7 := Option.some.inj ((show Tryd.prog.funcNamed Rows.codeJoinedRow.func = some 7 by kernel_rfl).symm.trans hf) |>.symm
      obtain rfl : fn = Tryd.f7 := (Option.some.inj (Tryd.func7.symm.trans hfn)).symm
      exact ⟨by kernel_rfl, fun j t ht => by
        rw [Tryd.params7] at ht
        have hm : t ∈ [22, 22] := by simpa using Array.mem_of_getElem? ht
        have hall : ([22, 22].all fun u => !Tryd.prog.wantsStandIn u) = true := by kernel_rfl
        exact (show Tryd.prog.wantsStandIn t = false by simpa using List.all_eq_true.1 hall t hm)⟩)
    (by kernel_rfl)
end Go.Proofs.YtclndbiljhbbkaaDoor.codeJoined
