/- The law MarkUnion of chapter 03 holds for every input: it returns true, and its arguments stay. No conditions. -/
import Derived.Test.YthjjanjmiinpbaaRows
import Derived.Test.YthjjanjmiinpbaaMJ
import Derived.Deep.RegionHeld3
import Derived.Deep.RegionWith
import Derived.Deep.CutBlock
import Derived.WalkKit
import Derived.ProofKit
import Derived.OpenShut
import Derived.ChangeOld
import Derived.Below
namespace Go.Proofs.Ythjjanjmiinpbaa.markUnion
open Go.ChangeShapes Go.WideShapes Go.ChangeAt Go.RowKit Go.Deep Go.Joins Go.Maps
set_option linter.unusedVariables false
set_option linter.unusedSimpArgs false

theorem own : ownKnob Try.prog.godebug = none := by kernel_rfl
theorem laidOut : laidOutB Try.prog = true := by kernel_rfl
theorem grown_below {w w' : World} {v : Value} (hg : w.grownBy w' v.ownBlock) (hv : v.ownBlock = none) : Below w.heap.size w w' := ⟨hg.os, hg.tape, hg.output, hg.size, fun k hk => hg.block k hk (by rw [hv]; simp)⟩
theorem reach_two {m : Hp} {xs ys l1 l2 l3 : List Int} {e1 e2 e3 : Int} (h1 : reachedV m xs = (l1, e1)) (h2 : reachedV m ys = (l2, e2)) (h3 : reachedV m (xs ++ ys) = (l3, e3)) (z1 : e1 = 0) (z2 : e2 = 0) : e3 = 0 ∧ ∀ z, l3.contains z = (l1.contains z || l2.contains z) := by
  unfold reachedV at h1 h2 h3
  split at h1
  · rename_i a1
    split at h2
    · rename_i a2
      rw [List.all_append, a1, a2] at h3
      cases h1
      cases h2
      cases h3
      refine ⟨rfl, fun z => ?_⟩
      rw [Bool.eq_iff_iff, Bool.or_eq_true, List.contains_iff_mem, List.contains_iff_mem, List.contains_iff_mem, mem_reach, mem_reach, mem_reach]
      exact rch_union
    · cases h2; cases z2
  · cases h1; cases z1
theorem reach_bad {m : Hp} {xs ys l1 l2 l3 : List Int} {e1 e2 e3 : Int} (h1 : reachedV m xs = (l1, e1)) (h2 : reachedV m ys = (l2, e2)) (h3 : reachedV m (xs ++ ys) = (l3, e3)) (z : e1 ≠ 0 ∨ e2 ≠ 0) : e3 ≠ 0 := by
  unfold reachedV at h1 h2 h3
  rw [List.all_append] at h3
  split at h1
  · rename_i a1
    split at h2
    · rename_i a2
      cases h1
      cases h2
      exact absurd z (by simp)
    · rename_i a2
      rw [show ys.all (mayV m.L) = false by simpa using a2, Bool.and_false] at h3
      cases h3
      decide
  · rename_i a1
    rw [show xs.all (mayV m.L) = false by simpa using a1, Bool.false_and] at h3
    cases h3
    decide

set_option maxRecDepth 100000 in
set_option maxHeartbeats 40000000 in
theorem walk (w : World) (A0 : Option Addr) (n0 c0 : Nat) (T0 : Nat → ThT) (R0 : RawT w A0 n0 c0 T0) (A1 : Option Addr) (n1 c1 : Nat) (l1 : List Int) (R1 : RawN w A1 n1 c1 l1) (A2 : Option Addr) (n2 c2 : Nat) (l2 : List Int) (R2 : RawN w A2 n2 c2 l2) :
    Calls Try.prog 5 #[.slice A0 n0 c0, .slice A1 n1 c1, .slice A2 n2 c2] w fun e w' => e = .returned (.bool true) ∧ Below w.heap.size w w' := by
  have HR0 := Lib.hid R0
  have HR1 := Lib.hid R1
  have HR2 := Lib.hid R2
  obtain ⟨m, hmd⟩ : ∃ m, madeV T0 n0 = m := ⟨_, rfl⟩
  have HMD := Lib.hid hmd
  clear hmd R0 R1 R2 
  go_enter Try.func5, Try.ntmps5
  go_upto_region 4 with (first | (go_at_call 9; (with_reducible refine (things_any HR0.out).mono ?_); rw [HMD.out]; rintro e w1 ⟨s, r, rfl, hst⟩; have HG := Lib.hid hst; clear hst))
  obtain ⟨o, ho⟩ : ∃ o, ptrs m.L = o := ⟨_, rfl⟩
  obtain ⟨pn, hpn⟩ : ∃ pn, o.length = pn := ⟨_, rfl⟩
  have HO := Lib.hid ho
  have HPN : Hid ((ptrs m.L).length = pn) := Lib.hid (by rw [ho]; exact hpn)
  have HPNO := Lib.hid hpn
  have hpb : pn ≤ 1000000 := by rw [← hpn, ← ho]; exact Nat.le_trans (ptrs_len HG.out.goodp) (by decide)
  have HPI : Hid (∀ x, x ∈ o → InI x) := Lib.hid (by rw [← ho]; exact ptrs_in HG.out.goodp)
  clear hpn ho
  obtain ⟨x1, hx1⟩ : ∃ x, allV o l1 = x := ⟨_, rfl⟩
  obtain ⟨nx1, hnx1⟩ : ∃ n, x1.length = n := ⟨_, rfl⟩
  have HX1 := Lib.hid hx1
  have HNX1 : Hid ((allV o l1).length = nx1) := Lib.hid (by rw [hx1]; exact hnx1)
  have hlx1 : nx1 ≤ 10 := by rw [← hnx1, ← hx1]; exact allV_len _ _
  have HIX1 : Hid (∀ x, x ∈ x1 → InI x) := Lib.hid (by rw [← hx1]; exact allV_in HPI.out HR1.out.int)
  have HLX1 := Lib.hid hnx1
  clear hx1 hnx1
  obtain ⟨x2, hx2⟩ : ∃ x, allV o l2 = x := ⟨_, rfl⟩
  obtain ⟨nx2, hnx2⟩ : ∃ n, x2.length = n := ⟨_, rfl⟩
  have HX2 := Lib.hid hx2
  have HNX2 : Hid ((allV o l2).length = nx2) := Lib.hid (by rw [hx2]; exact hnx2)
  have hlx2 : nx2 ≤ 10 := by rw [← hnx2, ← hx2]; exact allV_len _ _
  have HIX2 : Hid (∀ x, x ∈ x2 → InI x) := Lib.hid (by rw [← hx2]; exact allV_in HPI.out HR2.out.int)
  have HLX2 := Lib.hid hnx2
  clear hx2 hnx2
  go_upto_region 5 with (first | (go_at_call 12; (with_reducible refine (g_robjects HG.out HPN.out).mono ?_); rw [HO.out]; rintro e w2 ⟨A9, c9, X1, hX, rfl, hL, hst, hb⟩; have HLO := Lib.hid hL; replace HG := Lib.hid hst; clear hL hst hb hX) | (go_at_call_of 11 (Value.slice A1 n1 c1); (with_reducible refine (g_roots HG.out HLO.out hpb HR1.out HNX1.out).mono ?_); rw [HX1.out]; rintro e w3 ⟨B1, k1, Y1, hX, rfl, hL, hst, hb⟩; have HL1 := Lib.hid hL; replace HLO := Lib.hid (Lst.grow (Off.below HLO.out hb) hX); replace HG := Lib.hid hst; clear hL hst hb hX))
  go_upto_region 6 with (first | (go_at_call 12; (with_reducible refine (g_robjects HG.out HPN.out).mono ?_); rw [HO.out]; rintro e w2 ⟨A9, c9, X1, hX, rfl, hL, hst, hb⟩; have HLO := Lib.hid hL; replace HL1 := Lib.hid (Lst.grow (Off.below HL1.out hb) hX); replace HG := Lib.hid hst; clear hL hst hb hX) | (go_at_call_of 11 (Value.slice A2 n2 c2); (with_reducible refine (g_roots HG.out HLO.out hpb HR2.out HNX2.out).mono ?_); rw [HX2.out]; rintro e w3 ⟨B2, k2, Y2, hX, rfl, hL, hst, hb⟩; have HL2 := Lib.hid hL; replace HLO := Lib.hid (Lst.grow (Off.below HLO.out hb) hX); replace HL1 := Lib.hid (Lst.grow (Off.below HL1.out hb) hX); replace HG := Lib.hid hst; clear hL hst hb hX))
  go_upto_region 9 with (first | (at_builtin; refine wpList_app rfl _ _ rfl w3.heap.size (.slice none 0 0) 0 [] rfl (World.ownsRow_nil _ _ _ _) rfl HL1.out.form HL1.out.nums HL1.out.len (by omega) (Nat.le_refl _) ?_; intro v4 w4 hown4 hg4 _; have HO4 := Lib.hid hown4; have HB4 : Hid (Below w3.heap.size w3 w4) := Lib.hid (grown_below hg4 rfl); clear hown4 hg4) | (at_builtin; refine wpList_app rfl _ _ rfl w3.heap.size v4 (0 + nx1) ([] ++ x1) rfl HO4.out rfl HL2.out.form (HL2.out.nums.below HB4.out) HL2.out.len (by omega) HB4.out.size ?_; intro v5 w5 hown5 hg5 _; have HI5 : Hid (Ints w5 w3.heap.size v5 (x1 ++ x2)) := Lib.hid (by unfold Ints; rw [List.length_append, HLX1.out, HLX2.out, ← Nat.zero_add nx1]; exact hown5); have HB5 : Hid (Below w3.heap.size w3 w5) := Lib.hid (HB4.out.trans (below_of_append HO4.out hg5 HB4.out.size)); clear hown5 hg5))
  obtain ⟨BA, bc, hv5, hLB⟩ := ints_lst (X := Y2) HI5.out (fun x hx => (List.mem_append.1 hx).elim (HIX1.out x) (HIX2.out x))
  obtain ⟨nb, hnb⟩ : ∃ nb, (x1 ++ x2).length = nb := ⟨_, rfl⟩
  have hnb2 : nb ≤ 20 := by rw [← hnb, List.length_append, HLX1.out, HLX2.out]; omega
  rw [hnb] at hv5 hLB
  subst hv5
  have HLB := Lib.hid hLB
  replace HG := Lib.hid (HG.out.grow HB5.out)
  replace HL1 := Lib.hid (Lst.grow (X' := moreX Y2 w3.heap.size w5.heap.size) (Off.below HL1.out HB5.out) (fun k q => .inl q))
  replace HL2 := Lib.hid (Lst.grow (X' := moreX Y2 w3.heap.size w5.heap.size) (Off.below HL2.out HB5.out) (fun k q => .inl q))
  clear hnb hLB HI5 HB5 HB4 HO4 HLO
  obtain ⟨ll5, er5, hm5⟩ : ∃ ll er, reachedV m x1 = (ll, er) := ⟨_, _, rfl⟩
  obtain ⟨nn5, hnn5⟩ : ∃ nn, ll5.length = nn := ⟨_, rfl⟩
  have HRV5 := Lib.hid hm5
  have HNN5 : Hid ((reachedV m x1).1.length = nn5) := Lib.hid (by rw [hm5]; exact hnn5)
  have HLL5 := Lib.hid hnn5
  clear hm5 hnn5
  obtain ⟨ll6, er6, hm6⟩ : ∃ ll er, reachedV m x2 = (ll, er) := ⟨_, _, rfl⟩
  obtain ⟨nn6, hnn6⟩ : ∃ nn, ll6.length = nn := ⟨_, rfl⟩
  have HRV6 := Lib.hid hm6
  have HNN6 : Hid ((reachedV m x2).1.length = nn6) := Lib.hid (by rw [hm6]; exact hnn6)
  have HLL6 := Lib.hid hnn6
  clear hm6 hnn6
  obtain ⟨ll7, er7, hm7⟩ : ∃ ll er, reachedV m (x1 ++ x2) = (ll, er) := ⟨_, _, rfl⟩
  obtain ⟨nn7, hnn7⟩ : ∃ nn, ll7.length = nn := ⟨_, rfl⟩
  have HRV7 := Lib.hid hm7
  have HNN7 : Hid ((reachedV m (x1 ++ x2)).1.length = nn7) := Lib.hid (by rw [hm7]; exact hnn7)
  have HLL7 := Lib.hid hnn7
  clear hm7 hnn7
  by_cases h5 : er5 = 0
  · by_cases h6 : er6 = 0
    · obtain ⟨h7, hun⟩ := reach_two HRV5.out HRV6.out HRV7.out h5 h6
      have HUN := Lib.hid hun
      have hb5 : nn5 ≤ 131072 := by have q := reachedV_len HG.out.goodp x1; rw [HNN5.out] at q; exact q
      have hb6 : nn6 ≤ 131072 := by have q := reachedV_len HG.out.goodp x2; rw [HNN6.out] at q; exact q
      have hb7 : nn7 ≤ 131072 := by have q := reachedV_len HG.out.goodp (x1 ++ x2); rw [HNN7.out] at q; exact q
      subst h5
      subst h6
      subst h7
      clear hun
      go_wp2_with (first | (go_at_call 14; (with_reducible refine (g_reached HG.out HL1.out (by omega) HNN5.out).mono ?_); rw [HRV5.out]; rintro e w6 ⟨C5, k5_, X5, hX, rfl, hL, hst, hb⟩; have HA5 := Lib.hid hL; replace HL2 := Lib.hid (Lst.grow (Off.below HL2.out hb) hX); replace HLB := Lib.hid (Lst.grow (Off.below HLB.out hb) hX); replace HG := Lib.hid hst; clear hL hst hb hX) | (go_at_call 14; (with_reducible refine (g_reached HG.out HL2.out (by omega) HNN6.out).mono ?_); rw [HRV6.out]; rintro e w6 ⟨C6, k6_, X6, hX, rfl, hL, hst, hb⟩; have HA6 := Lib.hid hL; replace HA5 := Lib.hid (Lst.grow (Off.below HA5.out hb) hX); replace HLB := Lib.hid (Lst.grow (Off.below HLB.out hb) hX); replace HG := Lib.hid hst; clear hL hst hb hX) | (go_at_call 14; (with_reducible refine (g_reached HG.out HLB.out (by omega) HNN7.out).mono ?_); rw [HRV7.out]; rintro e w6 ⟨C7, k7_, X7, hX, rfl, hL, hst, hb⟩; have HA7 := Lib.hid hL; replace HA5 := Lib.hid (Lst.grow (Off.below HA5.out hb) hX); replace HA6 := Lib.hid (Lst.grow (Off.below HA6.out hb) hX); replace HG := Lib.hid hst; clear hL hst hb hX) | (go_at_call 16; (with_reducible refine (g_pobjects HG.out HPN.out).mono ?_); rw [HO.out]; rintro e w9 ⟨A8, c8, X8, hX, rfl, hL, hst, hb⟩; have HLP := Lib.hid hL; replace HA5 := Lib.hid (Lst.grow (Off.below HA5.out hb) hX); replace HA6 := Lib.hid (Lst.grow (Off.below HA6.out hb) hX); replace HA7 := Lib.hid (Lst.grow (Off.below HA7.out hb) hX); replace HG := Lib.hid hst; clear hL hst hb hX))
      clear HL1 HL2 HLB HRV5 HRV6 HRV7 HNN5 HNN6 HNN7 HR0 HR1 HR2
      go_loopw [20] (fun i wq => ∃ k : Nat, k ≤ pn ∧ i = .int .i64 k ∧ ∃ d, wq = w9.drewN d) (fun i _ => pn - (intOf i).toNat)
      case atStart => exact ⟨0, Nat.zero_le _, rfl, 0, rfl⟩
      case round =>
        obtain ⟨k, hk, rfl, d0', rfl⟩ := hrel
        by_cases hlt : k < pn
        · have d1 : decide (k < pn) = true := decide_eq_true hlt
          have hkl : k < o.length := by rw [HPNO.out]; exact hlt
          obtain ⟨ga, offa, hga, hgl, hca⟩ := HLP.out.nums k hkl
          have HGA := Lib.hid hga
          subst hga
          obtain ⟨z, hz⟩ : ∃ z, o[k] = z := ⟨_, rfl⟩
          rw [hz] at hca
          have g0 : (0 : Int) ≤ (k : Int) := by omega
          have g1 : (k : Int) < (pn : Int) := by omega
          clear hz HGA
          have HUZ := Lib.hid (HUN.out z)
          go_wp2_with fail
          go_loopw [21, 23] (fun v i wq => ∃ j : Nat, j ≤ nn5 ∧ i = .int .i64 j ∧ v = .bool ((ll5.take j).contains z) ∧ ∃ d, wq = w9.drewN d) (fun _ i _ => nn5 - (intOf i).toNat)
          case atStart => exact ⟨0, Nat.zero_le _, rfl, by simp, _, rfl⟩
          case round =>
            obtain ⟨j, hj, rfl, hv, d, rfl⟩ := hrel
            by_cases hjl : j < nn5
            · have d4 : decide (j < nn5) = true := decide_eq_true hjl
              have hkl2 : j < ll5.length := by rw [HA5.out.len]; exact hjl
              obtain ⟨gb, offb, hgb, hgl2, hcb⟩ := HA5.out.nums j hkl2
              have HGB := Lib.hid hgb
              obtain ⟨y, hy⟩ : ∃ y, ll5[j] = y := ⟨_, rfl⟩
              have HY := Lib.hid hy
              rw [hy] at hcb
              have g2 : (0 : Int) ≤ (j : Int) := by omega
              have g3 : (j : Int) < (nn5 : Int) := by omega
              have HSUC : Hid ((ll5.take (j + 1)).contains z = if z = y then true else (ll5.take j).contains z) := Lib.hid (by rw [contains_take hkl2, hy])
              obtain ⟨b, hb⟩ : ∃ b, ((ll5.take j).contains z) = b := ⟨_, rfl⟩
              have HB_ := Lib.hid hb
              rw [hb] at hv
              subst hv
              clear hy hb
              have hgx := HGB.out
              subst hgx
              cases b
              · by_cases e : z = y
                · have e1 : (y == z) = true := by rw [e]; simp
                  have HV1 : Hid (((ll5.take (j + 1)).contains z) = true) := Lib.hid (by rw [HSUC.out, if_pos e] <;> simp)
                  clear e
                  go_wp2_with fail
                  go_quiet (fail)
                  go_wp2_with fail
                  go_roundw
                  case rel => exact ⟨j + 1, by omega, by go_num, by rw [HV1.out], _, rfl⟩
                  case measure => simp [intOf]; omega
                · have e1 : (y == z) = false := by simpa using (fun q : y = z => e q.symm)
                  have HV1 : Hid (((ll5.take (j + 1)).contains z) = false) := Lib.hid (by rw [HSUC.out, if_neg e]; exact HB_.out)
                  clear e
                  go_wp2_with fail
                  go_quiet (fail)
                  go_wp2_with fail
                  go_roundw
                  case rel => exact ⟨j + 1, by omega, by go_num, by rw [HV1.out], _, rfl⟩
                  case measure => simp [intOf]; omega
              · have HV1 : Hid (((ll5.take (j + 1)).contains z) = true) := Lib.hid (by
                  rw [HSUC.out]
                  have q := HB_.out
                  by_cases e : z = y
                  · rw [if_pos e] <;> simp
                  · rw [if_neg e]; exact q)
                go_wp2_with fail
                go_quiet (fail)
                go_wp2_with fail
                go_roundw
                case rel => exact ⟨j + 1, by omega, by go_num, by rw [HV1.out], _, rfl⟩
                case measure => simp [intOf]; omega
            · have hjn : j = nn5 := by omega
              have d4 : decide (j < nn5) = false := decide_eq_false hjl
              have HVE : Hid (((ll5.take j).contains z) = (ll5.contains z)) := Lib.hid (by rw [hjn, ← HA5.out.len, List.take_length])
              obtain ⟨b5, hbn⟩ : ∃ b, (ll5.contains z) = b := ⟨_, rfl⟩
              have Hb5 := Lib.hid hbn
              rw [HVE.out, hbn] at hv
              subst hv
              clear hjl hjn hbn HVE
              go_wp2_with fail
              go_loopw [21, 24] (fun v i wq => ∃ j : Nat, j ≤ nn6 ∧ i = .int .i64 j ∧ v = .bool ((b5 || (ll6.take j).contains z)) ∧ ∃ d, wq = w9.drewN d) (fun _ i _ => nn6 - (intOf i).toNat)
              case atStart => exact ⟨0, Nat.zero_le _, rfl, by simp, _, rfl⟩
              case round =>
                obtain ⟨j, hj, rfl, hv, d, rfl⟩ := hrel
                by_cases hjl : j < nn6
                · have d4 : decide (j < nn6) = true := decide_eq_true hjl
                  have hkl2 : j < ll6.length := by rw [HA6.out.len]; exact hjl
                  obtain ⟨gb, offb, hgb, hgl2, hcb⟩ := HA6.out.nums j hkl2
                  have HGB := Lib.hid hgb
                  obtain ⟨y, hy⟩ : ∃ y, ll6[j] = y := ⟨_, rfl⟩
                  have HY := Lib.hid hy
                  rw [hy] at hcb
                  have g2 : (0 : Int) ≤ (j : Int) := by omega
                  have g3 : (j : Int) < (nn6 : Int) := by omega
                  have HSUC : Hid ((ll6.take (j + 1)).contains z = if z = y then true else (ll6.take j).contains z) := Lib.hid (by rw [contains_take hkl2, hy])
                  obtain ⟨b, hb⟩ : ∃ b, ((b5 || (ll6.take j).contains z)) = b := ⟨_, rfl⟩
                  have HB_ := Lib.hid hb
                  rw [hb] at hv
                  subst hv
                  clear hy hb
                  have hgx := HGB.out
                  subst hgx
                  cases b
                  · by_cases e : z = y
                    · have e1 : (y == z) = true := by rw [e]; simp
                      have HV1 : Hid (((b5 || (ll6.take (j + 1)).contains z)) = true) := Lib.hid (by rw [HSUC.out, if_pos e] <;> simp)
                      clear e
                      go_wp2_with fail
                      go_quiet (fail)
                      go_wp2_with fail
                      go_roundw
                      case rel => exact ⟨j + 1, by omega, by go_num, by rw [HV1.out], _, rfl⟩
                      case measure => simp [intOf]; omega
                    · have e1 : (y == z) = false := by simpa using (fun q : y = z => e q.symm)
                      have HV1 : Hid (((b5 || (ll6.take (j + 1)).contains z)) = false) := Lib.hid (by rw [HSUC.out, if_neg e]; exact HB_.out)
                      clear e
                      go_wp2_with fail
                      go_quiet (fail)
                      go_wp2_with fail
                      go_roundw
                      case rel => exact ⟨j + 1, by omega, by go_num, by rw [HV1.out], _, rfl⟩
                      case measure => simp [intOf]; omega
                  · have HV1 : Hid (((b5 || (ll6.take (j + 1)).contains z)) = true) := Lib.hid (by
                      rw [HSUC.out]
                      have q := HB_.out
                      by_cases e : z = y
                      · rw [if_pos e] <;> simp
                      · rw [if_neg e]; exact q)
                    go_wp2_with fail
                    go_quiet (fail)
                    go_wp2_with fail
                    go_roundw
                    case rel => exact ⟨j + 1, by omega, by go_num, by rw [HV1.out], _, rfl⟩
                    case measure => simp [intOf]; omega
                · have hjn : j = nn6 := by omega
                  have d4 : decide (j < nn6) = false := decide_eq_false hjl
                  have HVE : Hid (((b5 || (ll6.take j).contains z)) = ((b5 || ll6.contains z))) := Lib.hid (by rw [hjn, ← HA6.out.len, List.take_length])
                  obtain ⟨b6, hbn⟩ : ∃ b, ((b5 || ll6.contains z)) = b := ⟨_, rfl⟩
                  have Hb6 := Lib.hid hbn
                  rw [HVE.out, hbn] at hv
                  subst hv
                  clear hjl hjn hbn HVE
                  go_wp2_with fail
                  go_loopw [22, 25] (fun v i wq => ∃ j : Nat, j ≤ nn7 ∧ i = .int .i64 j ∧ v = .bool ((ll7.take j).contains z) ∧ ∃ d, wq = w9.drewN d) (fun _ i _ => nn7 - (intOf i).toNat)
                  case atStart => exact ⟨0, Nat.zero_le _, rfl, by simp, _, rfl⟩
                  case round =>
                    obtain ⟨j, hj, rfl, hv, d, rfl⟩ := hrel
                    by_cases hjl : j < nn7
                    · have d4 : decide (j < nn7) = true := decide_eq_true hjl
                      have hkl2 : j < ll7.length := by rw [HA7.out.len]; exact hjl
                      obtain ⟨gb, offb, hgb, hgl2, hcb⟩ := HA7.out.nums j hkl2
                      have HGB := Lib.hid hgb
                      obtain ⟨y, hy⟩ : ∃ y, ll7[j] = y := ⟨_, rfl⟩
                      have HY := Lib.hid hy
                      rw [hy] at hcb
                      have g2 : (0 : Int) ≤ (j : Int) := by omega
                      have g3 : (j : Int) < (nn7 : Int) := by omega
                      have HSUC : Hid ((ll7.take (j + 1)).contains z = if z = y then true else (ll7.take j).contains z) := Lib.hid (by rw [contains_take hkl2, hy])
                      obtain ⟨b, hb⟩ : ∃ b, ((ll7.take j).contains z) = b := ⟨_, rfl⟩
                      have HB_ := Lib.hid hb
                      rw [hb] at hv
                      subst hv
                      clear hy hb
                      have hgx := HGB.out
                      subst hgx
                      cases b
                      · by_cases e : z = y
                        · have e1 : (y == z) = true := by rw [e]; simp
                          have HV1 : Hid (((ll7.take (j + 1)).contains z) = true) := Lib.hid (by rw [HSUC.out, if_pos e] <;> simp)
                          clear e
                          go_wp2_with fail
                          go_quiet (fail)
                          go_wp2_with fail
                          go_roundw
                          case rel => exact ⟨j + 1, by omega, by go_num, by rw [HV1.out], _, rfl⟩
                          case measure => simp [intOf]; omega
                        · have e1 : (y == z) = false := by simpa using (fun q : y = z => e q.symm)
                          have HV1 : Hid (((ll7.take (j + 1)).contains z) = false) := Lib.hid (by rw [HSUC.out, if_neg e]; exact HB_.out)
                          clear e
                          go_wp2_with fail
                          go_quiet (fail)
                          go_wp2_with fail
                          go_roundw
                          case rel => exact ⟨j + 1, by omega, by go_num, by rw [HV1.out], _, rfl⟩
                          case measure => simp [intOf]; omega
                      · have HV1 : Hid (((ll7.take (j + 1)).contains z) = true) := Lib.hid (by
                          rw [HSUC.out]
                          have q := HB_.out
                          by_cases e : z = y
                          · rw [if_pos e] <;> simp
                          · rw [if_neg e]; exact q)
                        go_wp2_with fail
                        go_quiet (fail)
                        go_wp2_with fail
                        go_roundw
                        case rel => exact ⟨j + 1, by omega, by go_num, by rw [HV1.out], _, rfl⟩
                        case measure => simp [intOf]; omega
                    · have hjn : j = nn7 := by omega
                      have d4 : decide (j < nn7) = false := decide_eq_false hjl
                      have HVE : Hid (((ll7.take j).contains z) = (ll7.contains z)) := Lib.hid (by rw [hjn, ← HA7.out.len, List.take_length])
                      obtain ⟨b7, hbn⟩ : ∃ b, (ll7.contains z) = b := ⟨_, rfl⟩
                      have Hb7 := Lib.hid hbn
                      rw [HVE.out, hbn] at hv
                      subst hv
                      clear hjl hjn hbn HVE
                      obtain rfl : b6 = b7 := by rw [← Hb6.out, ← Hb7.out, ← Hb5.out]; exact HUZ.out.symm
                      go_wp2_with fail
                      go_roundw
                      case rel => exact ⟨k + 1, by omega, by go_num, _, rfl⟩
                      case measure => simp [intOf]; omega
        · have d1 : decide (k < pn) = false := decide_eq_false hlt
          replace HG := Lib.hid (HG.out.drewN d0')
          clear hlt
          go_wp2_with (go_at_call 13; (with_reducible refine (lives_any _).mono ?_); rintro e w9 ⟨rfl, hb⟩; replace HG := Lib.hid (HG.out.below hb); clear hb)
          go_ret
          exact ⟨ret_bool (by simp), HG.out.stays⟩
    · have h7 := reach_bad HRV5.out HRV6.out HRV7.out (.inr h6)
      have y5 : (er5 == 0) = true := by simpa using h5
      have y6 : (er6 == 0) = false := by simpa using h6
      have y7 : (er7 == 0) = false := by simpa using h7
      clear h5 h6 h7
      go_wp2_with (first | (go_at_call 14; (with_reducible refine (g_reached HG.out HL1.out (by omega) HNN5.out).mono ?_); rw [HRV5.out]; rintro e w6 ⟨C5, k5_, X5, hX, rfl, hL, hst, hb⟩; have HA5 := Lib.hid hL; replace HL2 := Lib.hid (Lst.grow (Off.below HL2.out hb) hX); replace HLB := Lib.hid (Lst.grow (Off.below HLB.out hb) hX); replace HG := Lib.hid hst; clear hL hst hb hX) | (go_at_call 14; (with_reducible refine (g_reached HG.out HL2.out (by omega) HNN6.out).mono ?_); rw [HRV6.out]; rintro e w6 ⟨C6, k6_, X6, hX, rfl, hL, hst, hb⟩; have HA6 := Lib.hid hL; replace HA5 := Lib.hid (Lst.grow (Off.below HA5.out hb) hX); replace HLB := Lib.hid (Lst.grow (Off.below HLB.out hb) hX); replace HG := Lib.hid hst; clear hL hst hb hX) | (go_at_call 14; (with_reducible refine (g_reached HG.out HLB.out (by omega) HNN7.out).mono ?_); rw [HRV7.out]; rintro e w6 ⟨C7, k7_, X7, hX, rfl, hL, hst, hb⟩; have HA7 := Lib.hid hL; replace HA5 := Lib.hid (Lst.grow (Off.below HA5.out hb) hX); replace HA6 := Lib.hid (Lst.grow (Off.below HA6.out hb) hX); replace HG := Lib.hid hst; clear hL hst hb hX) | (go_at_call 13; (with_reducible refine (lives_any _).mono ?_); rintro e w9 ⟨rfl, hb⟩; replace HG := Lib.hid (HG.out.below hb); clear hb))
      go_ret
      exact ⟨ret_bool (by simp), HG.out.stays⟩
  · have h7 := reach_bad HRV5.out HRV6.out HRV7.out (.inl h5)
    have y5 : (er5 == 0) = false := by simpa using h5
    have y7 : (er7 == 0) = false := by simpa using h7
    clear h5 h7
    go_wp2_with (first | (go_at_call 14; (with_reducible refine (g_reached HG.out HL1.out (by omega) HNN5.out).mono ?_); rw [HRV5.out]; rintro e w6 ⟨C5, k5_, X5, hX, rfl, hL, hst, hb⟩; have HA5 := Lib.hid hL; replace HL2 := Lib.hid (Lst.grow (Off.below HL2.out hb) hX); replace HLB := Lib.hid (Lst.grow (Off.below HLB.out hb) hX); replace HG := Lib.hid hst; clear hL hst hb hX) | (go_at_call 14; (with_reducible refine (g_reached HG.out HL2.out (by omega) HNN6.out).mono ?_); rw [HRV6.out]; rintro e w6 ⟨C6, k6_, X6, hX, rfl, hL, hst, hb⟩; have HA6 := Lib.hid hL; replace HA5 := Lib.hid (Lst.grow (Off.below HA5.out hb) hX); replace HLB := Lib.hid (Lst.grow (Off.below HLB.out hb) hX); replace HG := Lib.hid hst; clear hL hst hb hX) | (go_at_call 14; (with_reducible refine (g_reached HG.out HLB.out (by omega) HNN7.out).mono ?_); rw [HRV7.out]; rintro e w6 ⟨C7, k7_, X7, hX, rfl, hL, hst, hb⟩; have HA7 := Lib.hid hL; replace HA5 := Lib.hid (Lst.grow (Off.below HA5.out hb) hX); replace HA6 := Lib.hid (Lst.grow (Off.below HA6.out hb) hX); replace HG := Lib.hid hst; clear hL hst hb hX) | (go_at_call 13; (with_reducible refine (lives_any _).mono ?_); rintro e w9 ⟨rfl, hb⟩; replace HG := Lib.hid (HG.out.below hb); clear hb))
    go_ret
    exact ⟨ret_bool (by simp), HG.out.stays⟩


/-! ### the row's step -/
set_option maxRecDepth 100000 in
theorem lifted (os : Os) (started : os.Started) (H : Type) (enc : TypeId × Value → H) :
    ReturnsInHanded {} Try.checked os 5 .any (Rows.markUnionSpec.pre6 enc Try.prog Try.f5 Rows.markUnionRow.domain false) (Rows.markUnionSpec.post enc Try.prog Try.f5 false true false false) := by
  refine returnsInHanded_of_change (C := Try.checked) own started (by kernel_rfl) Try.func5
    (ChangeSpec.witness6 (enc := enc) (C := Try.checked) false ⟨#[], #[.slice none 0 0, .slice none 0 0, .slice none 0 0], []⟩ 8 (by kernel_rfl) (by kernel_rfl) (by kernel_rfl) (by kernel_rfl)) ?_
  intro W base args ds gs before hval0 hW hcnd _
  have hval : ∀ (j : Nat) t v, Try.f5.params[j]? = some t → args[j]? = some v → Value.okWide Try.prog W .any base t v := hval0
  have hW' := hW
  obtain ⟨p, q, hA0, hV, rfl, hfz, hnd⟩ := hW
  have hA : DataW.TrodAll enc Try.prog W 0 (fun _ => true) true Try.f5.params.toList args.toList ds p := hA0
  rw [Try.params5] at hA hval
  obtain ⟨v0, vs0, d0, ds0, p0, q0, hargs, rfl, rfl, h0, r0⟩ := trodAll_cons hA
  obtain ⟨v1, vs1, d1, ds1, p1, q1, rfl, rfl, rfl, h1, r1⟩ := trodAll_cons r0
  obtain ⟨v2, vs2, d2, ds2, p2, q2, rfl, rfl, rfl, h2, r2⟩ := trodAll_cons r1
  obtain ⟨rfl, rfl, rfl⟩ := trodAll_nil r2
  obtain rfl : args = #[v0, v1, v2] := by cases args; simp_all
  obtain ⟨rfl, rfl⟩ := trodVars_none hV
  have k0 := h0
  have lt0 : ∀ x ∈ p0, x.block < W.heap.size := by obtain ⟨m, hm⟩ := k0; exact DataW.trod_lt m _ _ _ hm
  obtain ⟨A0, n0, c0, C0, rfl, R0⟩ := open_things (hval 0 22 v0 rfl rfl) h0
  have k1 := h1
  have lt1 : ∀ x ∈ p1, x.block < W.heap.size := by obtain ⟨m, hm⟩ := k1; exact DataW.trod_lt m _ _ _ hm
  obtain ⟨A1, n1, c1, C1, rfl, R1⟩ := open_nlist (hval 1 23 v1 rfl rfl) h1
  have k2 := h2
  have lt2 : ∀ x ∈ p2, x.block < W.heap.size := by obtain ⟨m, hm⟩ := k2; exact DataW.trod_lt m _ _ _ hm
  obtain ⟨A2, n2, c2, C2, rfl, R2⟩ := open_nlist (hval 2 23 v2 rfl rfl) h2
  clear hA0 hval0
  refine (walk W _ _ _ _ R0 _ _ _ _ R1 _ _ _ _ R2).mono fun e W' ⟨he, bel⟩ => ?_
  subst he
  exact ⟨_, rfl, _, _, _, [], _, [], hW', trodAll_mk1 (shut_bool Try.underlying4 _), (trodAll_cons_mk (Below.trod laidOut (by kernel_rfl) (of_decide_eq_true (by kernel_rfl)) k0 bel lt0) (trodAll_cons_mk (Below.trod laidOut (by kernel_rfl) (of_decide_eq_true (by kernel_rfl)) k1 bel lt1) (trodAll_cons_mk (Below.trod laidOut (by kernel_rfl) (of_decide_eq_true (by kernel_rfl)) k2 bel lt2) trodAll_mk0))), rfl, bel.frame _, fun h => by cases h⟩

theorem over : Rows.markUnionRow.holds Try.pinned (OpenSpec.ofChange Rows.markUnionSpec) :=
  OpenClaim.holds_of_wide 5 Try.f5 rfl rfl rfl rfl rfl rfl rfl ⟨rfl, rfl, rfl, rfl, rfl⟩ rfl rfl rfl rfl rfl (by kernel_rfl) Try.func5 (by kernel_rfl)
    (of_decide_eq_true (by kernel_rfl)) (by unfold Func.isWrapper; first | (rw [if_pos (by decide +kernel)]; kernel_rfl) | (rw [if_neg (by decide +kernel)]; exact ⟨rfl, rfl⟩))
    (fun os started H enc _ => lifted os started H enc)

theorem proved : Rows.MarkUnionSaid := over
end Go.Proofs.Ythjjanjmiinpbaa.markUnion
