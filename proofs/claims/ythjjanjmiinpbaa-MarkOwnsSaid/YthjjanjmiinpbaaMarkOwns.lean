/- The law MarkOwns of chapter 03 holds for every input: it returns true, and its arguments stay. No conditions. -/
import Derived.Test.YthjjanjmiinpbaaRows
import Derived.Test.YthjjanjmiinpbaaMJ
import Derived.Deep.RegionHeld3
import Derived.Deep.RegionWith
import Derived.Deep.CutBlock
import Derived.WalkKit
import Derived.ProofKit
import Derived.OpenShut
import Derived.ChangeOld
import Derived.Below
namespace Go.Proofs.Ythjjanjmiinpbaa.markOwns
open Go.ChangeShapes Go.WideShapes Go.ChangeAt Go.RowKit Go.Deep Go.Joins Go.Maps
set_option linter.unusedVariables false
set_option linter.unusedSimpArgs false

theorem own : ownKnob Try.prog.godebug = none := by kernel_rfl
theorem laidOut : laidOutB Try.prog = true := by kernel_rfl

set_option maxRecDepth 100000 in
set_option maxHeartbeats 40000000 in
theorem walk (w : World) (A0 : Option Addr) (n0 c0 : Nat) (T0 : Nat → ThT) (R0 : RawT w A0 n0 c0 T0) (A1 : Option Addr) (n1 c1 : Nat) (l1 : List Int) (R1 : RawN w A1 n1 c1 l1) :
    Calls Try.prog 4 #[.slice A0 n0 c0, .slice A1 n1 c1] w fun e w' => e = .returned (.bool true) ∧ Below w.heap.size w w' := by
  have HR0 := Lib.hid R0
  have HR1 := Lib.hid R1
  obtain ⟨m, hmd⟩ : ∃ m, madeV T0 n0 = m := ⟨_, rfl⟩
  have HMD := Lib.hid hmd
  clear hmd R0 R1 
  go_enter Try.func4, Try.ntmps4
  go_upto_region 4 with (first | (go_at_call 9; (with_reducible refine (things_any HR0.out).mono ?_); rw [HMD.out]; rintro e w1 ⟨s, r, rfl, hst⟩; have HG := Lib.hid hst; clear hst))
  obtain ⟨o, ho⟩ : ∃ o, ptrs m.L = o := ⟨_, rfl⟩
  obtain ⟨pn, hpn⟩ : ∃ pn, o.length = pn := ⟨_, rfl⟩
  have HO := Lib.hid ho
  have HPN : Hid ((ptrs m.L).length = pn) := Lib.hid (by rw [ho]; exact hpn)
  have HPNO := Lib.hid hpn
  have hpb : pn ≤ 1000000 := by rw [← hpn, ← ho]; exact Nat.le_trans (ptrs_len HG.out.goodp) (by decide)
  have HPI : Hid (∀ x, x ∈ o → InI x) := Lib.hid (by rw [← ho]; exact ptrs_in HG.out.goodp)
  clear hpn ho
  obtain ⟨x1, hx1⟩ : ∃ x, allV o l1 = x := ⟨_, rfl⟩
  obtain ⟨nx1, hnx1⟩ : ∃ n, x1.length = n := ⟨_, rfl⟩
  have HX1 := Lib.hid hx1
  have HNX1 : Hid ((allV o l1).length = nx1) := Lib.hid (by rw [hx1]; exact hnx1)
  have hlx1 : nx1 ≤ 10 := by rw [← hnx1, ← hx1]; exact allV_len _ _
  have HIX1 : Hid (∀ x, x ∈ x1 → InI x) := Lib.hid (by rw [← hx1]; exact allV_in HPI.out HR1.out.int)
  have HLX1 := Lib.hid hnx1
  clear hx1 hnx1
  obtain ⟨ll5, er5, hm5⟩ : ∃ ll er, reachedV m x1 = (ll, er) := ⟨_, _, rfl⟩
  obtain ⟨nn5, hnn5⟩ : ∃ nn, ll5.length = nn := ⟨_, rfl⟩
  have HRV5 := Lib.hid hm5
  have HNN5 : Hid ((reachedV m x1).1.length = nn5) := Lib.hid (by rw [hm5]; exact hnn5)
  have HLL5 := Lib.hid hnn5
  clear hm5 hnn5
  obtain ⟨m2, zs, ez, hm⟩ : ∃ m2 zs ez, collectV m x1 = (m2, zs, ez) := ⟨_, _, _, rfl⟩
  obtain ⟨nz, hnz⟩ : ∃ nz, zs.length = nz := ⟨_, rfl⟩
  have HMM := Lib.hid hm
  have HNZ : Hid ((collectV m x1).2.1.length = nz) := Lib.hid (by rw [hm]; exact hnz)
  have hb5 : nn5 ≤ 131072 := by have q := reachedV_len HG.out.goodp x1; rw [HNN5.out] at q; exact q
  clear hm hnz
  go_upto_region 6 with (first | (go_at_call 12; (with_reducible refine (g_robjects HG.out HPN.out).mono ?_); rw [HO.out]; rintro e w2 ⟨A9, c9, X1, hX, rfl, hL, hst, hb⟩; have HLO := Lib.hid hL; replace HG := Lib.hid hst; clear hL hst hb hX) | (go_at_call_of 11 (Value.slice A1 n1 c1); (with_reducible refine (g_roots HG.out HLO.out hpb HR1.out HNX1.out).mono ?_); rw [HX1.out]; rintro e w3 ⟨B1, k1, Y1, hX, rfl, hL, hst, hb⟩; have HL1 := Lib.hid hL; replace HLO := Lib.hid (Lst.grow (Off.below HLO.out hb) hX); replace HG := Lib.hid hst; clear hL hst hb hX))
  go_upto_region 7 with (at_builtin; refine wpList_app rfl _ _ rfl w3.heap.size (.slice none 0 0) 0 [] rfl (World.ownsRow_nil _ _ _ _) rfl HL1.out.form HL1.out.nums HL1.out.len (by omega) (Nat.le_refl _) ?_; intro v4 w4 hown4 hg4 _; have HI4 : Hid (Ints w4 w3.heap.size v4 x1) := Lib.hid (by unfold Ints; rw [HLX1.out, ← Nat.zero_add nx1]; exact hown4); have HB4 : Hid (Below w3.heap.size w3 w4) := Lib.hid ⟨hg4.os, hg4.tape, hg4.output, hg4.size, fun k hk => hg4.block k hk (by simp [Value.ownBlock])⟩; clear hown4 hg4)
  obtain ⟨BA, bc, hv4, hLB⟩ := ints_lst (X := Y1) HI4.out HIX1.out
  rw [HLX1.out] at hv4 hLB
  subst hv4
  have HLB := Lib.hid hLB
  replace HG := Lib.hid (HG.out.grow HB4.out)
  replace HL1 := Lib.hid (Lst.grow (X' := moreX Y1 w3.heap.size w4.heap.size) (Off.below HL1.out HB4.out) (fun k q => .inl q))
  clear hLB HI4 HLO
  go_wp2_with (go_at_call 14; (with_reducible refine (g_reached0 HG.out HL1.out (by omega) HNN5.out).mono ?_); rw [HRV5.out]; rintro e w6 ⟨C5, k5_, rfl, hi6, hb6⟩; have HI6 := Lib.hid hi6; have HB6 := Lib.hid hb6; clear hi6 hb6)
  have hs6 := HB6.out.size
  go_loopw [12] (fun i wq => ∃ (j : Nat) (l : List Int), j ≤ nn5 ∧ i = .int .i64 j ∧ l.length = nn5 ∧ Ints wq w4.heap.size (.slice C5 nn5 k5_) l ∧ Below w4.heap.size w4 wq) (fun i _ => nn5 - (intOf i).toNat)
  case atStart => exact ⟨0, ll5, Nat.zero_le _, rfl, HLL5.out, HI6.out, HB6.out⟩
  case round =>
    clear HI6 HB6 hs6
    obtain ⟨j, l, hj, rfl, hl, hin, hbw⟩ := hrel
    have HIN := Lib.hid hin
    have HBW := Lib.hid hbw
    have HLEN := Lib.hid hl
    by_cases hlt : j < nn5
    · have d0 : decide (j < nn5) = true := decide_eq_true hlt
      obtain ⟨g, hC, hgb, hgc, hgf⟩ := hin.at_ hl hlt
      subst hC
      have HGB := Lib.hid hgb
      have g0 : (0 : Int) ≤ (j : Int) := by omega
      have g1 : (j : Int) < (nn5 : Int) := by omega
      clear hin hbw hl hgb
      go_wp2_with fail
      go_roundw
      case rel => exact ⟨j + 1, l.set j 1, by omega, by go_num, by rw [List.length_set]; exact HLEN.out, HIN.out.set HLEN.out hlt 1, HBW.out.setCell HGB.out _⟩
      case measure => simp [intOf]; omega
    · have d0 : decide (j < nn5) = false := decide_eq_false hlt
      replace HG := Lib.hid (HG.out.below hbw)
      replace HL1 := Lib.hid (Off.below HL1.out hbw)
      replace HLB := Lib.hid (Off.below HLB.out hbw)
      clear hlt hin hbw hl HIN HBW HLEN
      go_wp2_with (first | (go_at_call 14; (with_reducible refine (g_reached HG.out HL1.out (by omega) HNN5.out).mono ?_); rw [HRV5.out]; rintro e w6 ⟨C6, k6_, X6, hX, rfl, hL, hst, hb⟩; have HA6 := Lib.hid hL; replace HL1 := Lib.hid (Lst.grow (Off.below HL1.out hb) hX); replace HLB := Lib.hid (Lst.grow (Off.below HLB.out hb) hX); replace HG := Lib.hid hst; clear hL hst hb hX) | (go_at_call 18; (with_reducible refine (gr_reached HG.out HL1.out (by omega) HNN5.out).mono ?_); rw [HRV5.out]; rintro e w6 ⟨C7, k7_, X7, hX, rfl, hL, hst, hb⟩; have HA7 := Lib.hid hL; replace HA6 := Lib.hid (Lst.grow (Off.below HA6.out hb) hX); replace HL1 := Lib.hid (Lst.grow (Off.below HL1.out hb) hX); replace HLB := Lib.hid (Lst.grow (Off.below HLB.out hb) hX); replace HG := Lib.hid hst; clear hL hst hb hX) | (go_at_call 15; (with_reducible refine (same_lst HA6.out HA7.out).mono ?_); rintro e w8 ⟨rfl, hb⟩; replace HL1 := Lib.hid (Off.below HL1.out hb); replace HLB := Lib.hid (Off.below HLB.out hb); replace HG := Lib.hid (HG.out.below hb); clear hb) | (go_at_call 10; (with_reducible refine (g_collect HG.out HL1.out (by omega) HNZ.out).mono ?_); rw [HMM.out]; rintro e w6 ⟨C8, k8_, X8, hX, rfl, hL, hst, hk⟩; have HA8 := Lib.hid hL; replace HL1 := Lib.hid (Lst.grow (Lst.keeps HL1.out hk) hX); replace HLB := Lib.hid (Lst.grow (Lst.keeps HLB.out hk) hX); replace HG := Lib.hid hst; clear hL hst hk hX) | (go_at_call 15; (with_reducible refine (same_lst HLB.out HL1.out).mono ?_); rintro e w8 ⟨rfl, hb⟩;  replace HG := Lib.hid (HG.out.below hb); clear hb) | (go_at_call 13; (with_reducible refine (lives_any _).mono ?_); rintro e w9 ⟨rfl, hb⟩; replace HG := Lib.hid (HG.out.below hb); clear hb))
      go_ret
      exact ⟨ret_bool (by simp), HG.out.stays⟩


/-! ### the row's step -/
set_option maxRecDepth 100000 in
theorem lifted (os : Os) (started : os.Started) (H : Type) (enc : TypeId × Value → H) :
    ReturnsInHanded {} Try.checked os 4 .any (Rows.markOwnsSpec.pre6 enc Try.prog Try.f4 Rows.markOwnsRow.domain false) (Rows.markOwnsSpec.post enc Try.prog Try.f4 false true false false) := by
  refine returnsInHanded_of_change (C := Try.checked) own started (by kernel_rfl) Try.func4
    (ChangeSpec.witness6 (enc := enc) (C := Try.checked) false ⟨#[], #[.slice none 0 0, .slice none 0 0], []⟩ 8 (by kernel_rfl) (by kernel_rfl) (by kernel_rfl) (by kernel_rfl)) ?_
  intro W base args ds gs before hval0 hW hcnd _
  have hval : ∀ (j : Nat) t v, Try.f4.params[j]? = some t → args[j]? = some v → Value.okWide Try.prog W .any base t v := hval0
  have hW' := hW
  obtain ⟨p, q, hA0, hV, rfl, hfz, hnd⟩ := hW
  have hA : DataW.TrodAll enc Try.prog W 0 (fun _ => true) true Try.f4.params.toList args.toList ds p := hA0
  rw [Try.params4] at hA hval
  obtain ⟨v0, vs0, d0, ds0, p0, q0, hargs, rfl, rfl, h0, r0⟩ := trodAll_cons hA
  obtain ⟨v1, vs1, d1, ds1, p1, q1, rfl, rfl, rfl, h1, r1⟩ := trodAll_cons r0
  obtain ⟨rfl, rfl, rfl⟩ := trodAll_nil r1
  obtain rfl : args = #[v0, v1] := by cases args; simp_all
  obtain ⟨rfl, rfl⟩ := trodVars_none hV
  have k0 := h0
  have lt0 : ∀ x ∈ p0, x.block < W.heap.size := by obtain ⟨m, hm⟩ := k0; exact DataW.trod_lt m _ _ _ hm
  obtain ⟨A0, n0, c0, C0, rfl, R0⟩ := open_things (hval 0 22 v0 rfl rfl) h0
  have k1 := h1
  have lt1 : ∀ x ∈ p1, x.block < W.heap.size := by obtain ⟨m, hm⟩ := k1; exact DataW.trod_lt m _ _ _ hm
  obtain ⟨A1, n1, c1, C1, rfl, R1⟩ := open_nlist (hval 1 23 v1 rfl rfl) h1
  clear hA0 hval0
  refine (walk W _ _ _ _ R0 _ _ _ _ R1).mono fun e W' ⟨he, bel⟩ => ?_
  subst he
  exact ⟨_, rfl, _, _, _, [], _, [], hW', trodAll_mk1 (shut_bool Try.underlying4 _), (trodAll_cons_mk (Below.trod laidOut (by kernel_rfl) (of_decide_eq_true (by kernel_rfl)) k0 bel lt0) (trodAll_cons_mk (Below.trod laidOut (by kernel_rfl) (of_decide_eq_true (by kernel_rfl)) k1 bel lt1) trodAll_mk0)), rfl, bel.frame _, fun h => by cases h⟩

theorem over : Rows.markOwnsRow.holds Try.pinned (OpenSpec.ofChange Rows.markOwnsSpec) :=
  OpenClaim.holds_of_wide 4 Try.f4 rfl rfl rfl rfl rfl rfl rfl ⟨rfl, rfl, rfl, rfl, rfl⟩ rfl rfl rfl rfl rfl (by kernel_rfl) Try.func4 (by kernel_rfl)
    (of_decide_eq_true (by kernel_rfl)) (by unfold Func.isWrapper; first | (rw [if_pos (by decide +kernel)]; kernel_rfl) | (rw [if_neg (by decide +kernel)]; exact ⟨rfl, rfl⟩))
    (fun os started H enc _ => lifted os started H enc)

theorem proved : Rows.MarkOwnsSaid := over
end Go.Proofs.Ythjjanjmiinpbaa.markOwns
