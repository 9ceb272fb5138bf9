/- The law MarkSame of chapter 03 holds for every input: it returns true, and its arguments stay. No conditions. -/
import Derived.Test.YthjjanjmiinpbaaRows
import Derived.Test.YthjjanjmiinpbaaMS
import Derived.Deep.RegionHeld3
import Derived.Deep.RegionHeldLaw
import Derived.Deep.RegionWith
import Derived.Deep.CutBlock
import Derived.WalkKit
import Derived.ProofKit
import Derived.OpenShut
import Derived.ChangeOld
import Derived.Below
namespace Go.Proofs.Ythjjanjmiinpbaa.markSame
open Go.ChangeShapes Go.WideShapes Go.ChangeAt Go.RowKit Go.Deep Go.Joins Go.Maps
set_option linter.unusedVariables false
set_option linter.unusedSimpArgs false

theorem own : ownKnob Try.prog.godebug = none := by kernel_rfl
theorem laidOut : laidOutB Try.prog = true := by kernel_rfl
theorem alloc_keep {w : World} {a : Addr} {v : Value} {o : Obj} (h : w.cell? a = some v) : (w.alloc o).cell? a = some v := (((Below.refl _ _).alloc (Nat.le_refl _) _ : Below w.heap.size w (w.alloc o)).cell (cell_lt h)).trans h

set_option maxRecDepth 100000 in
set_option maxHeartbeats 40000000 in
theorem walk (w : World) (A0 : Option Addr) (n0 c0 : Nat) (T0 : Nat → ThT) (R0 : RawT w A0 n0 c0 T0) (A1 : Option Addr) (n1 c1 : Nat) (l1 : List Int) (R1 : RawN w A1 n1 c1 l1) :
    Calls Try.prog 6 #[.slice A0 n0 c0, .slice A1 n1 c1] w fun e w' => e = .returned (.bool true) ∧ Below w.heap.size w w' := by
  have HR0 := Lib.hid R0
  have HR1 := Lib.hid R1
  obtain ⟨m, hmd⟩ : ∃ m, madeV T0 n0 = m := ⟨_, rfl⟩
  have HMD := Lib.hid hmd
  clear hmd R0 R1 
  go_enter Try.func6, Try.ntmps6
  go_upto_region 5 with (first | (go_at_call 9; (with_reducible refine (things_any HR0.out).mono ?_); rw [HMD.out]; rintro e w1 ⟨s, r, rfl, hst⟩; have HG := Lib.hid hst; clear hst) | (go_at_call 9; (with_reducible refine (second_made HG.out HR0.out).mono ?_); rw [HMD.out]; rintro e w2 ⟨s2, r2, X2, bw2, bm2, hX, rfl, hst, hp2, hpx, hb⟩; have HP2 := Lib.hid hp2; have HPX : Hid (∀ k, pset s2 bw2 bm2 k → X2 k) := Lib.hid hpx; replace HG := Lib.hid hst; clear hst hp2 hpx hb hX))
  obtain ⟨o, ho⟩ : ∃ o, ptrs m.L = o := ⟨_, rfl⟩
  obtain ⟨pn, hpn⟩ : ∃ pn, o.length = pn := ⟨_, rfl⟩
  have HO := Lib.hid ho
  have HPN : Hid ((ptrs m.L).length = pn) := Lib.hid (by rw [ho]; exact hpn)
  have HPNO := Lib.hid hpn
  have hpb : pn ≤ 1000000 := by rw [← hpn, ← ho]; exact Nat.le_trans (ptrs_len HG.out.goodp) (by decide)
  have HPI : Hid (∀ x, x ∈ o → InI x) := Lib.hid (by rw [← ho]; exact ptrs_in HG.out.goodp)
  clear hpn ho
  obtain ⟨x1, hx1⟩ : ∃ x, allV o l1 = x := ⟨_, rfl⟩
  obtain ⟨nx1, hnx1⟩ : ∃ n, x1.length = n := ⟨_, rfl⟩
  have HX1 := Lib.hid hx1
  have HNX1 : Hid ((allV o l1).length = nx1) := Lib.hid (by rw [hx1]; exact hnx1)
  have hlx1 : nx1 ≤ 10 := by rw [← hnx1, ← hx1]; exact allV_len _ _
  have HIX1 : Hid (∀ x, x ∈ x1 → InI x) := Lib.hid (by rw [← hx1]; exact allV_in HPI.out HR1.out.int)
  have HLX1 := Lib.hid hnx1
  clear hx1 hnx1
  obtain ⟨m2, ys, er, hm⟩ : ∃ m2 ys er, collectV m x1 = (m2, ys, er) := ⟨_, _, _, rfl⟩
  have HMM := Lib.hid hm
  by_cases he : er = 0
  · subst he
    obtain ⟨σ, Ok, hsame⟩ := (coll_of hm).same HG.out.goodp
    obtain ⟨rfl, hok⟩ := hsame.roots
    have HOK := Lib.hid hok
    have HSM := Lib.hid hsame
    have HNN5 : Hid ((collectV m x1).2.1.length = nx1) := Lib.hid (by rw [hm]; show (x1.map σ).length = nx1; rw [List.length_map]; exact HLX1.out)
    clear hm hok hsame
    go_upto_region 12 with (first | (go_at_call 12; (with_reducible refine (g_robjects HG.out HPN.out).mono ?_); rw [HO.out]; rintro e w2 ⟨A9, c9, X1, hX, rfl, hL, hst, hb⟩; have HLO := Lib.hid hL; replace HP2 := Lib.hid (HP2.out.below hb); replace HPX : Hid (∀ k, pset s2 bw2 bm2 k → X1 k) := Lib.hid (fun k hk => hX k (HPX.out k hk)); replace HG := Lib.hid hst; clear hL hst hb hX) | (go_at_call_of 11 (Value.slice A1 n1 c1); (with_reducible refine (g_roots HG.out HLO.out hpb HR1.out HNX1.out).mono ?_); rw [HX1.out]; rintro e w3 ⟨B1, k1, Y1, hX, rfl, hL, hst, hb⟩; have HL1 := Lib.hid hL; replace HLO := Lib.hid (Lst.grow (Off.below HLO.out hb) hX); replace HP2 := Lib.hid (HP2.out.below hb); replace HPX : Hid (∀ k, pset s2 bw2 bm2 k → Y1 k) := Lib.hid (fun k hk => hX k (HPX.out k hk)); replace HG := Lib.hid hst; clear hL hst hb hX) | (go_at_call 10; (with_reducible refine (g_collect HG.out HL1.out (by omega) HNN5.out).mono ?_); rw [HMM.out]; rintro e w6 ⟨C5, k5_, X5, hX, rfl, hL, hst, hk⟩; have HA5 := Lib.hid hL;  replace HL1 := Lib.hid (Lst.grow (Lst.keeps HL1.out hk) hX); replace HP2 := Lib.hid (HP2.out.keeps HPX.out hk); replace HPX : Hid (∀ k, pset s2 bw2 bm2 k → X5 k) := Lib.hid (fun k hk => hX k (HPX.out k hk)); replace HG := Lib.hid hst; clear hL hst hk hX))
    obtain ⟨bw1, bm1, hp1⟩ := HG.out.pm
    have HP1 := Lib.hid hp1
    have HGP : Hid (Good m) := Lib.hid HP2.out.good
    clear hp1 HLO HPX HMM HNN5 HMD HO HPN HPNO HPI HX1 HNX1 HIX1
    go_wp2_with fail
    go_loopw [14, 15] (fun v i wq => ∃ j : Nat, j ≤ nx1 ∧ i = .int .i64 j ∧ PR wq w6.heap.size v ((x1.take j).map (fun a => (a, σ a))) ∧ Below w6.heap.size w6 wq) (fun _ i _ => nx1 - (intOf i).toNat)
    case atStart => exact ⟨0, Nat.zero_le _, rfl, PR.nil _ _, Below.refl _ _⟩
    case round =>
      obtain ⟨j, hj, rfl, hpr, hbw⟩ := hrel
      have HPR := Lib.hid hpr
      have HBW := Lib.hid hbw
      have hbs := hbw.size
      by_cases hlt : j < nx1
      · have d0 : decide (j < nx1) = true := decide_eq_true hlt
        have hkl : j < x1.length := by rw [HLX1.out]; exact hlt
        obtain ⟨ga, offa, hga, hgl, hca⟩ := HL1.out.nums j hkl
        obtain ⟨gb, offb, hgb, hgl2, hcb⟩ := HA5.out.nums j (by rw [List.length_map]; exact hkl)
        rw [List.getElem_map] at hcb
        obtain ⟨x, hx⟩ : ∃ x, x1[j] = x := ⟨_, rfl⟩
        rw [hx] at hca hcb
        obtain ⟨y, hy⟩ : ∃ y, σ x = y := ⟨_, rfl⟩
        rw [hy] at hcb
        have HTK : Hid ((x1.take (j + 1)).map (fun a => (a, σ a)) = (x1.take j).map (fun a => (a, σ a)) ++ [(x, y)]) := Lib.hid (by rw [List.take_succ_eq_append_getElem hkl, List.map_append, hx, List.map_cons, List.map_nil, hy])
        have hlen : ((x1.take j).map (fun a => (a, σ a))).length ≤ 10 := by rw [List.length_map, List.length_take]; omega
        have g0 : (0 : Int) ≤ (j : Int) := by omega
        have g1 : (j : Int) < (nx1 : Int) := by omega
        have HCA : Hid (∀ w', Below w6.heap.size w6 w' → w'.cell? ⟨ga, offa + j, none⟩ = some (.int .i64 x) ∧ w'.cell? ⟨gb, offb + j, none⟩ = some (.int .i64 y)) := Lib.hid (fun w' hb => ⟨(hb.cell (p := ⟨ga, _, none⟩) hgl).trans hca, (hb.cell (p := ⟨gb, _, none⟩) hgl2).trans hcb⟩)
        have hcc := HCA.out _ hbw
        have hc1 := hcc.1
        have hc2 := hcc.2
        subst hga
        subst hgb
        clear hx hy hpr hbw hkl hca hcb hcc hgl hgl2
        go_wp2_with fail
        go_region_held_law (fun w' => w'.cell? ⟨ga, offa + j, none⟩ = some (.int .i64 x) ∧ w'.cell? ⟨gb, offb + j, none⟩ = some (.int .i64 y)) (first | assumption | (refine ⟨?_, ?_⟩ <;> first | assumption | (refine alloc_keep ?_; assumption) | (simp [go_sem, *]; done)) | (simp [go_sem, *]; done)) (first | (refine step_pair rfl _ _ rfl w6.heap.size u14 ((x1.take j).map (fun a => (a, σ a))) (by simp [Act.eval, Act.put]) (HPR.out.below (by (repeat' (first | (with_reducible exact Below.refl _ _) | (with_reducible assumption) | (with_reducible refine below_drewN ?_ _) | (with_reducible refine Below.alloc ?_ ?_ _) | (with_reducible refine Below.drew ?_) | go_size)))) (B := wr.heap.size) (p := x) (q := y) (by simp [Act.eval, Act.put]) (by simp [go_sem]) (by simp [go_sem]) (by omega) (by first | omega | (simp; omega)) ?_; intro v5 w5 hpr5 hb5; have HPR5 := Lib.hid hpr5; have HB5 := Lib.hid hb5; have HBX := Lib.hid ((show Below w6.heap.size w6 _ by (have hbw' := HBW.out; (repeat' (first | (with_reducible exact Below.refl _ _) | (with_reducible assumption) | (with_reducible refine below_drewN ?_ _) | (with_reducible refine Below.alloc ?_ ?_ _) | (with_reducible refine Below.drew ?_) | go_size)))).trans hb5); have s1 := HCA.out _ HBX.out; clear hpr5 hb5 HB5))
        go_wp2_with fail
        go_roundw
        case rel => exact ⟨j + 1, by omega, by go_num, by rw [HTK.out]; exact HPR5.out, HBX.out⟩
        case measure => simp [intOf]; omega
      · have hjn : j = nx1 := by omega
        have d0 : decide (j < nx1) = false := decide_eq_false hlt
        have HPR0 : Hid (PR wr w6.heap.size u14 (x1.map (fun a => (a, σ a)))) := Lib.hid (by rw [hjn, ← HLX1.out, List.take_length] at hpr; exact hpr)
        have HOK0 : Hid (∀ p, p ∈ x1.map (fun a => (a, σ a)) → Ok p.1 ∧ p.2 = σ p.1) := Lib.hid (fun p hp => by obtain ⟨a, ha, rfl⟩ := List.mem_map.1 hp; exact ⟨HOK.out a ha, rfl⟩)
        clear hlt hpr hbw HPR HL1 HA5 hbs
        subst hjn
        go_wp2_with fail
        go_loopw [14, 16] (fun v i wq => ∃ (k : Nat) (ps : List (Int × Int)), k ≤ 500 ∧ i = .int .i64 k ∧ PR wq w6.heap.size v ps ∧ (∀ p, p ∈ ps → Ok p.1 ∧ p.2 = σ p.1) ∧ ps.length ≤ 10 + 257 * k ∧ Below w6.heap.size w6 wq) (fun _ i _ => 500 - (intOf i).toNat)
        case atStart => exact ⟨0, _, Nat.zero_le _, rfl, HPR0.out, HOK0.out, by rw [List.length_map, HLX1.out]; omega, HBW.out⟩
        case round =>
          clear HPR0 HOK0 HBW d0
          obtain ⟨k, ps, hk, rfl, hpr, hps, hpl, hbw⟩ := hrel
          obtain ⟨wm, hwm⟩ : ∃ wm, wr = wm := ⟨_, rfl⟩
          rw [hwm] at hpr hbw ⊢
          clear hwm
          obtain ⟨PA, pc, hv, hpc⟩ := hpr.shape
          obtain ⟨np, hnp⟩ : ∃ np, ps.length = np := ⟨_, rfl⟩
          have HNP := Lib.hid hnp
          rw [hnp] at hv hpl
          subst hv
          have HPR := Lib.hid hpr
          have HPS := Lib.hid hps
          have HBW := Lib.hid hbw
          have hbs := hbw.size
          by_cases h1 : k < np
          · by_cases h2 : k < 500
            · have d1 : decide (k < np) = true := decide_eq_true h1
              have d2 : decide (k < 500) = true := decide_eq_true h2
              have d3 : decide ((k : Int) < 500) = true := decide_eq_true (by omega)
              have hkl : k < ps.length := by rw [HNP.out]; exact h1
              obtain ⟨g, hPA, hca, hcb⟩ := hpc k hkl
              subst hPA
              obtain ⟨hoka, heqa⟩ := hps ps[k] (List.getElem_mem hkl)
              rw [heqa] at hcb
              obtain ⟨a, ha⟩ : ∃ a, ps[k].1 = a := ⟨_, rfl⟩
              have HAK : Hid (∃ h : k < ps.length, ps[k].1 = a ∧ ps[k].2 = σ a) := Lib.hid ⟨hkl, ha, by rw [heqa, ha]⟩
              rw [ha] at hca hcb hoka
              obtain ⟨b, hb⟩ : ∃ b, σ a = b := ⟨_, rfl⟩
              have HSB := Lib.hid hb
              have HOA := Lib.hid hoka
              rw [hb] at hcb
              have g0 : (0 : Int) ≤ (k : Int) := by omega
              have g1 : (k : Int) < (np : Int) := by omega
              have HRR : Hid (Below wm.heap.size wm wm) := Lib.hid (Below.refl _ _)
              clear hkl heqa ha hb hoka hpc hpr hps hbw
              cases hva : isV m.L a
              · have HVA := Lib.hid hva
                have hba : b = a := by rw [← HSB.out]; exact HSM.out.none a HOA.out hva
                subst hba
                clear hva
                go_wp2_with (go_at_call 19; (with_reducible refine (is_any (HP2.out.below HBW.out) b).mono ?_); rw [HVA.out]; rintro e w7 ⟨rfl, n7, hw7⟩; have HBN : Hid (Below w6.heap.size w6 w7) := Lib.hid (by rw [hw7]; exact below_drewN HBW.out n7); have HRN : Hid (Below wm.heap.size wm w7) := Lib.hid (by rw [hw7]; exact below_drewN HRR.out n7); clear hw7 HBW HRR; have HBW := HBN; have HRR := HRN; clear HBN HRN)
                go_roundw
                case rel => exact ⟨k + 1, ps, by omega, by go_num, HPR.out.below HRR.out, HPS.out, by omega, HBW.out⟩
                case measure => simp [intOf]; omega
              · obtain ⟨q1, q2, q3, q4, q5, q6⟩ := HSM.out.obj a HOA.out hva
                have HFL := Lib.hid (HSM.out.field a HOA.out hva)
                have HFB : Hid ((lookO m.L a).F.length ≤ 256) := Lib.hid (look_fmt HGP.out a).2.2
                rw [HSB.out] at q1 q2 q3 q4 q5 HFL
                obtain ⟨o, ho⟩ : ∃ o, lookO m.L a = o := ⟨_, rfl⟩
                rw [ho] at q2 q3 q4 q5 q6 HFL HFB
                obtain ⟨cl, fm, hh, F⟩ := o
                obtain ⟨nf, hnf⟩ : ∃ nf, F.length = nf := ⟨_, rfl⟩
                dsimp only at q2 q3 q4 q5 q6 HFL HFB
                rw [hnf] at q4 HFL HFB
                obtain ⟨cl2, hcl2⟩ : ∃ c, σ cl = c := ⟨_, rfl⟩
                rw [hcl2] at q5
                have HVA := Lib.hid hva
                have HVB := Lib.hid q1
                have HF1 := Lib.hid q2
                have HH1 := Lib.hid q3
                have HN1 := Lib.hid q4
                have HC1 := Lib.hid q5
                have HOC := Lib.hid q6
                have HCL := Lib.hid hcl2
                have HF2 : Hid ((lookO m.L a).fmt = fm) := Lib.hid (by rw [ho])
                have HH2 : Hid ((lookO m.L a).hash = hh) := Lib.hid (by rw [ho])
                have HN2 : Hid ((lookO m.L a).F.length = nf) := Lib.hid (by rw [ho]; exact hnf)
                have HC2 : Hid ((lookO m.L a).cls = cl) := Lib.hid (by rw [ho])
                have hnf2 : nf ≤ 256 := HFB.out
                clear hva q1 q2 q3 q4 q5 q6 ho hnf hcl2 HFB
                go_upto_region 26 with (first | (go_at_call 19; (with_reducible refine (is_any (HP2.out.below HBW.out) a).mono ?_); rw [HVA.out]; rintro e w7 ⟨rfl, n7, hw7⟩; have HBN : Hid (Below w6.heap.size w6 w7) := Lib.hid (by rw [hw7]; exact below_drewN HBW.out n7); have HRN : Hid (Below wm.heap.size wm w7) := Lib.hid (by rw [hw7]; exact below_drewN HRR.out n7); clear hw7 HBW HRR; have HBW := HBN; have HRR := HRN; clear HBN HRN) | (go_at_call 19; (with_reducible refine (is_any (HP1.out.below HBW.out) b).mono ?_); rw [HVB.out]; rintro e w7 ⟨rfl, n7, hw7⟩; have HBN : Hid (Below w6.heap.size w6 w7) := Lib.hid (by rw [hw7]; exact below_drewN HBW.out n7); have HRN : Hid (Below wm.heap.size wm w7) := Lib.hid (by rw [hw7]; exact below_drewN HRR.out n7); clear hw7 HBW HRR; have HBW := HBN; have HRR := HRN; clear HBN HRN) | (go_at_call 20; (with_reducible refine (format_any (HP2.out.below HBW.out) a).mono ?_); rw [HF2.out]; rintro e w7 ⟨rfl, n7, hw7⟩; have HBN : Hid (Below w6.heap.size w6 w7) := Lib.hid (by rw [hw7]; exact below_drewN HBW.out n7); have HRN : Hid (Below wm.heap.size wm w7) := Lib.hid (by rw [hw7]; exact below_drewN HRR.out n7); clear hw7 HBW HRR; have HBW := HBN; have HRR := HRN; clear HBN HRN) | (go_at_call 20; (with_reducible refine (format_any (HP1.out.below HBW.out) b).mono ?_); rw [HF1.out]; rintro e w7 ⟨rfl, n7, hw7⟩; have HBN : Hid (Below w6.heap.size w6 w7) := Lib.hid (by rw [hw7]; exact below_drewN HBW.out n7); have HRN : Hid (Below wm.heap.size wm w7) := Lib.hid (by rw [hw7]; exact below_drewN HRR.out n7); clear hw7 HBW HRR; have HBW := HBN; have HRR := HRN; clear HBN HRN) | (go_at_call 21; (with_reducible refine (hash_any (HP2.out.below HBW.out) a).mono ?_); rw [HH2.out]; rintro e w7 ⟨rfl, n7, hw7⟩; have HBN : Hid (Below w6.heap.size w6 w7) := Lib.hid (by rw [hw7]; exact below_drewN HBW.out n7); have HRN : Hid (Below wm.heap.size wm w7) := Lib.hid (by rw [hw7]; exact below_drewN HRR.out n7); clear hw7 HBW HRR; have HBW := HBN; have HRR := HRN; clear HBN HRN) | (go_at_call 21; (with_reducible refine (hash_any (HP1.out.below HBW.out) b).mono ?_); rw [HH1.out]; rintro e w7 ⟨rfl, n7, hw7⟩; have HBN : Hid (Below w6.heap.size w6 w7) := Lib.hid (by rw [hw7]; exact below_drewN HBW.out n7); have HRN : Hid (Below wm.heap.size wm w7) := Lib.hid (by rw [hw7]; exact below_drewN HRR.out n7); clear hw7 HBW HRR; have HBW := HBN; have HRR := HRN; clear HBN HRN) | (go_at_call 22; (with_reducible refine (fields_any (HP2.out.below HBW.out) a).mono ?_); rw [HN2.out]; rintro e w7 ⟨rfl, n7, hw7⟩; have HBN : Hid (Below w6.heap.size w6 w7) := Lib.hid (by rw [hw7]; exact below_drewN HBW.out n7); have HRN : Hid (Below wm.heap.size wm w7) := Lib.hid (by rw [hw7]; exact below_drewN HRR.out n7); clear hw7 HBW HRR; have HBW := HBN; have HRR := HRN; clear HBN HRN) | (go_at_call 22; (with_reducible refine (fields_any (HP1.out.below HBW.out) b).mono ?_); rw [HN1.out]; rintro e w7 ⟨rfl, n7, hw7⟩; have HBN : Hid (Below w6.heap.size w6 w7) := Lib.hid (by rw [hw7]; exact below_drewN HBW.out n7); have HRN : Hid (Below wm.heap.size wm w7) := Lib.hid (by rw [hw7]; exact below_drewN HRR.out n7); clear hw7 HBW HRR; have HBW := HBN; have HRR := HRN; clear HBN HRN))
                have HPA := Lib.hid (HPR.out.below HRR.out)
                go_wp2_with fail
                go_loopw [19, 20] (fun hd i wq => ∃ (j0 : Nat) (hb : Bool), j0 ≤ k ∧ i = .int .i64 j0 ∧ hd = .bool hb ∧ ∃ d, wq = w7.drewN d) (fun _ i _ => k - (intOf i).toNat)
                case atStart => exact ⟨0, false, Nat.zero_le _, rfl, rfl, 0, rfl⟩
                case round =>
                  obtain ⟨j0, hb, hj0, rfl, rfl, d, rfl⟩ := hrel
                  by_cases hjk : j0 < k
                  · have d4 : decide (j0 < k) = true := decide_eq_true hjk
                    obtain ⟨hkl, hka, hkb⟩ := HAK.out
                    have hjl : j0 < ps.length := by omega
                    obtain ⟨e0, e1⟩ := HPA.out.cells hjl
                    obtain ⟨e2, e3⟩ := HPA.out.cells hkl
                    rw [hka] at e2
                    rw [hkb, HSB.out] at e3
                    obtain ⟨hokp, heqp⟩ := HPS.out ps[j0] (List.getElem_mem hjl)
                    obtain ⟨p, hp⟩ : ∃ p, ps[j0].1 = p := ⟨_, rfl⟩
                    obtain ⟨q, hq⟩ : ∃ q, ps[j0].2 = q := ⟨_, rfl⟩
                    rw [hp] at e0 hokp heqp
                    rw [hq] at e1 heqp
                    have hinj := HSM.out.inj a p HOA.out HVA.out hokp
                    rw [← heqp, HSB.out] at hinj
                    have g2 : (0 : Int) ≤ (j0 : Int) := by omega
                    have g3 : (j0 : Int) < (np : Int) := by omega
                    obtain ⟨t, ht⟩ : ∃ t, (p == a) = t := ⟨_, rfl⟩
                    have ht2 : (q == b) = t := by rw [← hinj]; exact ht
                    clear hkl hka hkb hjl hokp heqp hp hq hinj
                    cases t <;> cases hb <;> (
                      go_wp2_with fail
                      go_quiet (fail)
                      go_wp2_with fail
                      go_quiet (fail)
                      go_wp2_with fail
                      go_roundw
                      case rel => exact ⟨j0 + 1, _, by omega, by go_num, rfl, _, rfl⟩
                      case measure => simp [intOf]; omega)
                  · have hjn : j0 = k := by omega
                    have d4 : decide (j0 < k) = false := decide_eq_false hjk
                    clear hjk
                    subst hjn
                    have HRD : Hid (Below wm.heap.size wm (w7.drewN d)) := Lib.hid (below_drewN HRR.out d)
                    have HBD : Hid (Below w6.heap.size w6 (w7.drewN d)) := Lib.hid (below_drewN HBW.out d)
                    clear HBW HRR
                    cases hb
                    · obtain ⟨wb, hwb⟩ : ∃ wb, w7.drewN d = wb := ⟨_, rfl⟩
                      rw [hwb] at HRD HBD ⊢
                      have HBW := HBD
                      have HRR := HRD
                      have HLE : Hid (ps.length ≤ 1000000) := Lib.hid (by rw [HNP.out]; omega)
                      clear hwb HBD HRD HAK hca hcb HPA
                      go_upto_region 35 with (first | (go_at_call 23; (with_reducible refine (class_any (HP2.out.below HBW.out) a).mono ?_); rw [HC2.out]; rintro e w7 ⟨rfl, n7, hw7⟩; have HBN : Hid (Below w6.heap.size w6 w7) := Lib.hid (by rw [hw7]; exact below_drewN HBW.out n7); have HRN : Hid (Below wm.heap.size wm w7) := Lib.hid (by rw [hw7]; exact below_drewN HRR.out n7); clear hw7 HBW HRR; have HBW := HBN; have HRR := HRN; clear HBN HRN) | (go_at_call 23; (with_reducible refine (class_any (HP1.out.below HBW.out) b).mono ?_); rw [HC1.out]; rintro e w7 ⟨rfl, n7, hw7⟩; have HBN : Hid (Below w6.heap.size w6 w7) := Lib.hid (by rw [hw7]; exact below_drewN HBW.out n7); have HRN : Hid (Below wm.heap.size wm w7) := Lib.hid (by rw [hw7]; exact below_drewN HRR.out n7); clear hw7 HBW HRR; have HBW := HBN; have HRR := HRN; clear HBN HRN) | (at_builtin; refine wpList_pair rfl _ _ rfl w6.heap.size _ ps rfl (HPR.out.below (HRR.out.alloc HRR.out.size _)) rfl (pair_cells _ cl cl2).1 (pair_cells _ cl cl2).2 HLE.out (Nat.le_trans HBW.out.size (by simp)) ?_; intro v5 w5 hpr5 hb5; have HPR5 := Lib.hid hpr5; have HBX := Lib.hid ((HBW.out.alloc HBW.out.size _).trans hb5); clear hpr5 hb5))
                      have HPS1 : Hid (∀ p, p ∈ ps ++ [(cl, cl2)] → Ok p.1 ∧ p.2 = σ p.1) := Lib.hid (fun p hp => by
                        rcases List.mem_append.1 hp with z | z
                        · exact HPS.out p z
                        · rw [List.mem_singleton.1 z]; exact ⟨HOC.out, HCL.out.symm⟩)
                      have HLE1 : Hid ((ps ++ [(cl, cl2)]).length ≤ 10 + 257 * j0 + 1 + 0) := Lib.hid (by rw [List.length_append, HNP.out, List.length_singleton]; omega)
                      clear HPR HPS HBW HRR HLE
                      go_wp2_with fail
                      go_loopw [14, 21] (fun v i wq => ∃ (j1 : Nat) (qs : List (Int × Int)), j1 ≤ nf ∧ i = .int .i64 j1 ∧ PR wq w6.heap.size v qs ∧ (∀ p, p ∈ qs → Ok p.1 ∧ p.2 = σ p.1) ∧ qs.length ≤ 10 + 257 * j0 + 1 + j1 ∧ Below w6.heap.size w6 wq) (fun _ i _ => nf - (intOf i).toNat)
                      case atStart => exact ⟨0, _, Nat.zero_le _, rfl, HPR5.out, HPS1.out, HLE1.out, HBX.out⟩
                      case round =>
                        clear HPR5 HPS1 HLE1 HBX
                        obtain ⟨j1, qs, hj1, rfl, hpr, hqs, hql, hbw⟩ := hrel
                        obtain ⟨wm, hwm⟩ : ∃ wm, wr = wm := ⟨_, rfl⟩
                        rw [hwm] at hpr hbw ⊢
                        have HPR := Lib.hid hpr
                        have HQS := Lib.hid hqs
                        have HBW := Lib.hid hbw
                        have HRR : Hid (Below wm.heap.size wm wm) := Lib.hid (Below.refl _ _)
                        have HLE : Hid (qs.length ≤ 1000000) := Lib.hid (by show _ ≤ _; omega)
                        clear hwm hpr hqs hbw
                        by_cases hjf : j1 < nf
                        · have d5 : decide (j1 < nf) = true := decide_eq_true hjf
                          obtain ⟨x, hx1, hx2, hx3⟩ := HFL.out j1 hjf
                          have HG2 := Lib.hid hx1
                          have HJI : Hid (InI (j1 : Int)) := Lib.hid (inI_of (by omega) (by omega))
                          have g2 : (0 : Int) ≤ (j1 : Int) := by omega
                          by_cases hfm : fm = 0
                          · subst hfm
                            rw [if_pos rfl] at hx2
                            obtain ⟨y, hy⟩ : ∃ y, σ x = y := ⟨_, rfl⟩
                            have HY := Lib.hid hy
                            rw [hy] at hx2
                            have HG1 := Lib.hid hx2
                            have HXO := Lib.hid (hx3 rfl)
                            clear hx1 hx2 hx3 hy
                            go_wp2_with (first | (go_at_call 22; (with_reducible refine (fields_any (HP2.out.below HBW.out) a).mono ?_); rw [HN2.out]; rintro e w7 ⟨rfl, n7, hw7⟩; have HBN : Hid (Below w6.heap.size w6 w7) := Lib.hid (by rw [hw7]; exact below_drewN HBW.out n7); have HRN : Hid (Below wm.heap.size wm w7) := Lib.hid (by rw [hw7]; exact below_drewN HRR.out n7); clear hw7 HBW HRR; have HBW := HBN; have HRR := HRN; clear HBN HRN) | (go_at_call 24; (with_reducible refine (get_any (HP2.out.below HBW.out) a (j1 : Int) HJI.out).mono ?_); rw [HG2.out]; rintro e w7 ⟨rfl, n7, hw7⟩; have HBN : Hid (Below w6.heap.size w6 w7) := Lib.hid (by rw [hw7]; exact below_drewN HBW.out n7); have HRN : Hid (Below wm.heap.size wm w7) := Lib.hid (by rw [hw7]; exact below_drewN HRR.out n7); clear hw7 HBW HRR; have HBW := HBN; have HRR := HRN; clear HBN HRN) | (go_at_call 24; (with_reducible refine (get_any (HP1.out.below HBW.out) b (j1 : Int) HJI.out).mono ?_); rw [HG1.out]; rintro e w7 ⟨rfl, n7, hw7⟩; have HBN : Hid (Below w6.heap.size w6 w7) := Lib.hid (by rw [hw7]; exact below_drewN HBW.out n7); have HRN : Hid (Below wm.heap.size wm w7) := Lib.hid (by rw [hw7]; exact below_drewN HRR.out n7); clear hw7 HBW HRR; have HBW := HBN; have HRR := HRN; clear HBN HRN) | (go_at_call 20; (with_reducible refine (format_any (HP2.out.below HBW.out) a).mono ?_); rw [HF2.out]; rintro e w7 ⟨rfl, n7, hw7⟩; have HBN : Hid (Below w6.heap.size w6 w7) := Lib.hid (by rw [hw7]; exact below_drewN HBW.out n7); have HRN : Hid (Below wm.heap.size wm w7) := Lib.hid (by rw [hw7]; exact below_drewN HRR.out n7); clear hw7 HBW HRR; have HBW := HBN; have HRR := HRN; clear HBN HRN) | (at_builtin; refine wpList_pair rfl _ _ rfl w6.heap.size _ qs rfl (HPR.out.below (HRR.out.alloc HRR.out.size _)) rfl (pair_cells _ x y).1 (pair_cells _ x y).2 HLE.out (Nat.le_trans HBW.out.size (by simp)) ?_; intro v5 w5 hpr5 hb5; have HPR5 := Lib.hid hpr5; have HBX := Lib.hid ((HBW.out.alloc HBW.out.size _).trans hb5); clear hpr5 hb5))
                            go_roundw
                            case rel =>
                              refine ⟨j1 + 1, qs ++ [(x, y)], by omega, by go_num, HPR5.out, fun p hp => ?_, by rw [List.length_append, List.length_singleton]; omega, HBX.out⟩
                              rcases List.mem_append.1 hp with z | z
                              · exact HQS.out p z
                              · rw [List.mem_singleton.1 z]; exact ⟨HXO.out, HY.out.symm⟩
                            case measure => simp [intOf]; omega
                          · rw [if_neg hfm] at hx2
                            have HG1 := Lib.hid hx2
                            have d6 : (fm == 0) = false := by simpa using hfm
                            clear hx1 hx2 hx3 hfm
                            go_wp2_with (first | (go_at_call 22; (with_reducible refine (fields_any (HP2.out.below HBW.out) a).mono ?_); rw [HN2.out]; rintro e w7 ⟨rfl, n7, hw7⟩; have HBN : Hid (Below w6.heap.size w6 w7) := Lib.hid (by rw [hw7]; exact below_drewN HBW.out n7); have HRN : Hid (Below wm.heap.size wm w7) := Lib.hid (by rw [hw7]; exact below_drewN HRR.out n7); clear hw7 HBW HRR; have HBW := HBN; have HRR := HRN; clear HBN HRN) | (go_at_call 24; (with_reducible refine (get_any (HP2.out.below HBW.out) a (j1 : Int) HJI.out).mono ?_); rw [HG2.out]; rintro e w7 ⟨rfl, n7, hw7⟩; have HBN : Hid (Below w6.heap.size w6 w7) := Lib.hid (by rw [hw7]; exact below_drewN HBW.out n7); have HRN : Hid (Below wm.heap.size wm w7) := Lib.hid (by rw [hw7]; exact below_drewN HRR.out n7); clear hw7 HBW HRR; have HBW := HBN; have HRR := HRN; clear HBN HRN) | (go_at_call 24; (with_reducible refine (get_any (HP1.out.below HBW.out) b (j1 : Int) HJI.out).mono ?_); rw [HG1.out]; rintro e w7 ⟨rfl, n7, hw7⟩; have HBN : Hid (Below w6.heap.size w6 w7) := Lib.hid (by rw [hw7]; exact below_drewN HBW.out n7); have HRN : Hid (Below wm.heap.size wm w7) := Lib.hid (by rw [hw7]; exact below_drewN HRR.out n7); clear hw7 HBW HRR; have HBW := HBN; have HRR := HRN; clear HBN HRN) | (go_at_call 20; (with_reducible refine (format_any (HP2.out.below HBW.out) a).mono ?_); rw [HF2.out]; rintro e w7 ⟨rfl, n7, hw7⟩; have HBN : Hid (Below w6.heap.size w6 w7) := Lib.hid (by rw [hw7]; exact below_drewN HBW.out n7); have HRN : Hid (Below wm.heap.size wm w7) := Lib.hid (by rw [hw7]; exact below_drewN HRR.out n7); clear hw7 HBW HRR; have HBW := HBN; have HRR := HRN; clear HBN HRN))
                            go_roundw
                            case rel => exact ⟨j1 + 1, qs, by omega, by go_num, HPR.out.below HRR.out, HQS.out, by omega, HBW.out⟩
                            case measure => simp [intOf]; omega
                        · have hjn1 : j1 = nf := by omega
                          have d5 : decide (j1 < nf) = false := decide_eq_false hjf
                          clear hjf
                          go_wp2_with (go_at_call 22; (with_reducible refine (fields_any (HP2.out.below HBW.out) a).mono ?_); rw [HN2.out]; rintro e w7 ⟨rfl, n7, hw7⟩; have HBN : Hid (Below w6.heap.size w6 w7) := Lib.hid (by rw [hw7]; exact below_drewN HBW.out n7); have HRN : Hid (Below wm.heap.size wm w7) := Lib.hid (by rw [hw7]; exact below_drewN HRR.out n7); clear hw7 HBW HRR; have HBW := HBN; have HRR := HRN; clear HBN HRN)
                          go_roundw
                          case rel => exact ⟨j0 + 1, qs, by omega, by go_num, HPR.out.below HRR.out, HQS.out, by omega, HBW.out⟩
                          case measure => simp [intOf]; omega
                    · go_wp2_with fail
                      go_roundw
                      case rel => exact ⟨j0 + 1, ps, by omega, by go_num, HPR.out.below HRD.out, HPS.out, by omega, HBD.out⟩
                      case measure => simp [intOf]; omega
            · have d1 : decide (k < np) = true := decide_eq_true h1
              have d2 : decide (k < 500) = false := decide_eq_false h2
              have d3 : decide ((k : Int) < 500) = false := decide_eq_false (by omega)
              replace HG := Lib.hid (HG.out.below hbw)
              clear h1 h2 hpc hpr hps hbw
              go_wp2_with (go_at_call 13; (with_reducible refine (lives_any _).mono ?_); rintro e w9 ⟨rfl, hb⟩; replace HG := Lib.hid (HG.out.below hb); clear hb)
              go_ret
              exact ⟨ret_bool (by simp), HG.out.stays⟩
          · have d1 : decide (k < np) = false := decide_eq_false h1
            replace HG := Lib.hid (HG.out.below hbw)
            clear h1 hpc hpr hps hbw
            go_wp2_with (go_at_call 13; (with_reducible refine (lives_any _).mono ?_); rintro e w9 ⟨rfl, hb⟩; replace HG := Lib.hid (HG.out.below hb); clear hb)
            go_ret
            exact ⟨ret_bool (by simp), HG.out.stays⟩
  · have y0 : (er == 0) = false := by simpa using he
    obtain ⟨nn, hnn⟩ : ∃ nn, ys.length = nn := ⟨_, rfl⟩
    have HNN5 : Hid ((collectV m x1).2.1.length = nn) := Lib.hid (by rw [hm]; exact hnn)
    clear hm he hnn
    go_wp2_with (first | (go_at_call 12; (with_reducible refine (g_robjects HG.out HPN.out).mono ?_); rw [HO.out]; rintro e w2 ⟨A9, c9, X1, hX, rfl, hL, hst, hb⟩; have HLO := Lib.hid hL; replace HP2 := Lib.hid (HP2.out.below hb); replace HPX : Hid (∀ k, pset s2 bw2 bm2 k → X1 k) := Lib.hid (fun k hk => hX k (HPX.out k hk)); replace HG := Lib.hid hst; clear hL hst hb hX) | (go_at_call_of 11 (Value.slice A1 n1 c1); (with_reducible refine (g_roots HG.out HLO.out hpb HR1.out HNX1.out).mono ?_); rw [HX1.out]; rintro e w3 ⟨B1, k1, Y1, hX, rfl, hL, hst, hb⟩; have HL1 := Lib.hid hL; replace HLO := Lib.hid (Lst.grow (Off.below HLO.out hb) hX); replace HP2 := Lib.hid (HP2.out.below hb); replace HPX : Hid (∀ k, pset s2 bw2 bm2 k → Y1 k) := Lib.hid (fun k hk => hX k (HPX.out k hk)); replace HG := Lib.hid hst; clear hL hst hb hX) | (go_at_call 10; (with_reducible refine (g_collect HG.out HL1.out (by omega) HNN5.out).mono ?_); rw [HMM.out]; rintro e w6 ⟨C5, k5_, X5, hX, rfl, hL, hst, hk⟩; have HA5 := Lib.hid hL;  replace HL1 := Lib.hid (Lst.grow (Lst.keeps HL1.out hk) hX); replace HP2 := Lib.hid (HP2.out.keeps HPX.out hk); replace HPX : Hid (∀ k, pset s2 bw2 bm2 k → X5 k) := Lib.hid (fun k hk => hX k (HPX.out k hk)); replace HG := Lib.hid hst; clear hL hst hk hX) | (go_at_call 13; (with_reducible refine (lives_any _).mono ?_); rintro e w9 ⟨rfl, hb⟩; replace HG := Lib.hid (HG.out.below hb); clear hb))
    go_ret
    exact ⟨ret_bool (by simp), HG.out.stays⟩


/-! ### the row's step -/
set_option maxRecDepth 100000 in
theorem lifted (os : Os) (started : os.Started) (H : Type) (enc : TypeId × Value → H) :
    ReturnsInHanded {} Try.checked os 6 .any (Rows.markSameSpec.pre6 enc Try.prog Try.f6 Rows.markSameRow.domain false) (Rows.markSameSpec.post enc Try.prog Try.f6 false true false false) := by
  refine returnsInHanded_of_change (C := Try.checked) own started (by kernel_rfl) Try.func6
    (ChangeSpec.witness6 (enc := enc) (C := Try.checked) false ⟨#[], #[.slice none 0 0, .slice none 0 0], []⟩ 8 (by kernel_rfl) (by kernel_rfl) (by kernel_rfl) (by kernel_rfl)) ?_
  intro W base args ds gs before hval0 hW hcnd _
  have hval : ∀ (j : Nat) t v, Try.f6.params[j]? = some t → args[j]? = some v → Value.okWide Try.prog W .any base t v := hval0
  have hW' := hW
  obtain ⟨p, q, hA0, hV, rfl, hfz, hnd⟩ := hW
  have hA : DataW.TrodAll enc Try.prog W 0 (fun _ => true) true Try.f6.params.toList args.toList ds p := hA0
  rw [Try.params6] at hA hval
  obtain ⟨v0, vs0, d0, ds0, p0, q0, hargs, rfl, rfl, h0, r0⟩ := trodAll_cons hA
  obtain ⟨v1, vs1, d1, ds1, p1, q1, rfl, rfl, rfl, h1, r1⟩ := trodAll_cons r0
  obtain ⟨rfl, rfl, rfl⟩ := trodAll_nil r1
  obtain rfl : args = #[v0, v1] := by cases args; simp_all
  obtain ⟨rfl, rfl⟩ := trodVars_none hV
  have k0 := h0
  have lt0 : ∀ x ∈ p0, x.block < W.heap.size := by obtain ⟨m, hm⟩ := k0; exact DataW.trod_lt m _ _ _ hm
  obtain ⟨A0, n0, c0, C0, rfl, R0⟩ := open_things (hval 0 22 v0 rfl rfl) h0
  have k1 := h1
  have lt1 : ∀ x ∈ p1, x.block < W.heap.size := by obtain ⟨m, hm⟩ := k1; exact DataW.trod_lt m _ _ _ hm
  obtain ⟨A1, n1, c1, C1, rfl, R1⟩ := open_nlist (hval 1 23 v1 rfl rfl) h1
  clear hA0 hval0
  refine (walk W _ _ _ _ R0 _ _ _ _ R1).mono fun e W' ⟨he, bel⟩ => ?_
  subst he
  exact ⟨_, rfl, _, _, _, [], _, [], hW', trodAll_mk1 (shut_bool Try.underlying4 _), (trodAll_cons_mk (Below.trod laidOut (by kernel_rfl) (of_decide_eq_true (by kernel_rfl)) k0 bel lt0) (trodAll_cons_mk (Below.trod laidOut (by kernel_rfl) (of_decide_eq_true (by kernel_rfl)) k1 bel lt1) trodAll_mk0)), rfl, bel.frame _, fun h => by cases h⟩

theorem over : Rows.markSameRow.holds Try.pinned (OpenSpec.ofChange Rows.markSameSpec) :=
  OpenClaim.holds_of_wide 6 Try.f6 rfl rfl rfl rfl rfl rfl rfl ⟨rfl, rfl, rfl, rfl, rfl⟩ rfl rfl rfl rfl rfl (by kernel_rfl) Try.func6 (by kernel_rfl)
    (of_decide_eq_true (by kernel_rfl)) (by unfold Func.isWrapper; first | (rw [if_pos (by decide +kernel)]; kernel_rfl) | (rw [if_neg (by decide +kernel)]; exact ⟨rfl, rfl⟩))
    (fun os started H enc _ => lifted os started H enc)

theorem proved : Rows.MarkSameSaid := over
end Go.Proofs.Ythjjanjmiinpbaa.markSame
