/- Chapter 02: the contract of Turn's step. -/
import Derived.Test.YthonodimjglnfaaHT0
import Derived.StillTailTactics
namespace Go.Proofs.Ythonodimjglnfaa
open Go.ChangeShapes Go.WideShapes Go.ChangeAt Go.RowKit Go.Deep Go.Joins Go.Maps
set_option linter.unusedVariables false
set_option linter.unusedSimpArgs false

set_option maxRecDepth 100000 in
set_option maxHeartbeats 16000000 in
theorem turn2_any {w : World} {s bw mb tb tm nm sz k : Nat} {L K : List Ob} {ys : List Int} {fn : Int → Int} (hk : k < L.length) (hf0 : 0 ≤ L[k].fmt) (hf2 : L[k].fmt ≤ 2) (hwd : ∀ x, x ∈ wordsO L[k] → InI x)
    (c0 : w.cell? ⟨s, 0, none⟩ = some (.slice (some ⟨bw, 0, none⟩) sz sz)) (cm : w.cell? ⟨mb, 0, none⟩ = some (.pointer (some ⟨s, 0, none⟩))) (ct : w.cell? ⟨tb, 0, none⟩ = some (.map (some tm))) (hmap : IntMap w tm nm fn)
    (hrow : w.heap[bw]? = some (.cells ((ys).map (Value.int .i64)).toArray 3 (0, 0))) (hmid : Mid L K k L[k] sz ys) (hK : szs K = szs (L.take k)) (hsz : sz ≤ 131072) (n1 : s ≠ bw) (n2 : mb ≠ bw) (n3 : tb ≠ bw) (n4 : tm ≠ bw) :
    Calls Try.prog 77 #[.int .i64 (adr L k : Int), .pointer (some ⟨mb, 0, none⟩), .pointer (some ⟨tb, 0, none⟩)] w fun e w' => e = .returned (.tuple #[]) ∧ ∃ ys', w'.heap[bw]? = some (.cells ((ys').map (Value.int .i64)).toArray 3 (0, 0)) ∧ Gap L (K ++ [turnO (gT fn) L[k]]) (k + 1) sz ys' ∧ Turns (fun b => b = bw) w w' := by
  have hlw : ys.length = sz := by obtain ⟨_, _, _, _, q⟩ := hmid; exact q
  have ha3 := adr_ge L k
  have hm0 := mid_at hmid (j := 0) (by omega)
  have hml := mid_at hmid (j := L[k].F.length + 2) (by omega)
  have hc0 : w.cell? ⟨bw, adr L k, none⟩ = some (.int .i64 (4 * (L[k].F.length : Int) + L[k].fmt)) := by
    have := ints_cell hrow (k := adr L k) (by omega)
    rw [this, show adr L k = adr L k + 0 from rfl, hm0.1]; rfl
  have hptr := pointers_any c0 hc0 hf0 hf2 ha3 (by omega) hsz
  have HPTR := Lib.hid hptr
  have HROW := Lib.hid hrow
  have HMID := Lib.hid hmid
  have HMAP := Lib.hid hmap
  have C0 := Lib.hid c0
  have CM := Lib.hid cm
  have CT := Lib.hid ct
  have HWD := Lib.hid hwd
  have HKS := Lib.hid hK
  obtain ⟨t, ht⟩ : ∃ t, adr L k = t := ⟨_, rfl⟩
  have HT := Lib.hid ht
  have hlw2 := HMAP.out.lt
  have hlbw := cell_lt hc0
  rw [ht]
  rw [ht] at HPTR
  clear hptr hrow hmid hmap hwd hm0 hml hc0 ht hf0 hf2 ha3 hK
  go_enter Try.func77, Try.ntmps77
  go_wp2_with (go_at_call 78; (with_reducible refine HPTR.out.mono ?_); rintro e w1 ⟨v, rfl, hi1, hb1⟩; obtain ⟨VA, vc, rfl, hvc, hnums, hva, hvm, _⟩ := hi1.nums; rw [prs_len] at *; have HN1 := Lib.hid hnums; have HB1 := Lib.hid hb1; have HVA := Lib.hid hva; clear hi1 hnums hb1 hva)
  obtain ⟨np, hnp⟩ : ∃ np, npO L[k] = np := ⟨_, rfl⟩
  rw [hnp]
  rw [hnp] at hvc
  unfold maxLen at hvm
  have HNP := Lib.hid hnp
  clear hnp
  go_loopw [11] (fun i wr => ∃ q : Nat, q ≤ np ∧ i = .int .i64 q ∧ ∃ zs, wr.heap[bw]? = some (.cells ((zs).map (Value.int .i64)).toArray 3 (0, 0)) ∧ Mid L K k (partO (gT fn) L[k] q) sz zs ∧ Turns (fun b => b = bw) w1 wr) (fun i _ => np - (intOf i).toNat)
  case atStart => exact ⟨0, Nat.zero_le _, rfl, ys, (HB1.out.block bw hlbw).trans HROW.out, HMID.out, Turns.refl _ _⟩
  case round =>
    obtain ⟨q, hq, rfl, zs, hrw, hmd, hts⟩ := hrel
    have HR := Lib.hid hrw
    have HM := Lib.hid hmd
    have HTS := Lib.hid hts
    have c0 := HTS.out.cell (HB1.out.cell (p := ⟨s, 0, none⟩) (cell_lt C0.out) |>.trans C0.out) n1
    have cm := HTS.out.cell (HB1.out.cell (p := ⟨mb, 0, none⟩) (cell_lt CM.out) |>.trans CM.out) n2
    have ct := HTS.out.cell (HB1.out.cell (p := ⟨tb, 0, none⟩) (cell_lt CT.out) |>.trans CT.out) n3
    have hmp : IntMap wr tm nm fn := (HMAP.out.same (HB1.out.block tm hlw2)).same (HTS.out.block tm (Nat.lt_of_lt_of_le hlw2 HB1.out.size) n4)
    have hzl : zs.length = sz := by obtain ⟨_, _, _, _, q⟩ := hmd; exact q
    clear hrw hmd hts
    by_cases hlt : q < np
    · have hqn : q < npO L[k] := by rw [HNP.out]; exact hlt
      have d1 : decide (q < np) = true := decide_eq_true hlt
      obtain ⟨x, hx⟩ : ∃ x, wordO L[k] q = x := ⟨_, rfl⟩
      have hxI : InI x := by rw [← hx]; exact HWD.out _ (wordO_mem hqn)
      obtain ⟨pp, hpp⟩ : ∃ pp, t + wix q = pp := ⟨_, rfl⟩
      have hmt := mid_at HM.out (j := wix q) (by rw [partO_len]; exact wix_lt hqn)
      rw [part_word _ hqn, hx, HT.out, hpp] at hmt
      obtain ⟨hmv, hpz⟩ := hmt
      have cx := ints_cell HR.out (k := pp) (by omega)
      rw [hmv] at cx
      have fbx := ints_free HR.out pp
      have hpl : q < (prsV t L[k].F.length L[k].fmt).length := by rw [prs_len]; exact hqn
      obtain ⟨gv, off, e, hgl, hce⟩ := HN1.out q hpl
      have hpe : (prsV t L[k].F.length L[k].fmt)[q] = (pp : Int) := by
        have := prs_at t hqn
        rw [List.getElem?_eq_getElem hpl, hpp] at this
        exact Option.some.inj this
      rw [hpe] at hce
      have hgb := (HVA.out gv off e).1
      subst e
      have ce := HTS.out.cell hce (fun e => by have := hlbw; omega)
      have hlk : ∀ n, (Instr.lookup 80 (.map (some tm)) (.int .i64 x) false).run Try.prog (wr.drewN n) = .ok (.int .i64 (fn x)) (wr.drewN n) := fun n => IntMap.look (w := wr.drewN n) (hmp.same rfl) hxI
      have HIP := Lib.hid (show ∀ w', Calls Try.prog 64 #[.int .i64 x] w' fun e w'' => e = .returned (.bool (isPointerV x)) ∧ w'' = w' from fun w' => isPointer_any x w')
      obtain ⟨fx, hfx⟩ : ∃ fx, fn x = fx := ⟨_, rfl⟩
      have HFX := Lib.hid hfx
      rw [hfx] at hlk
      have HX := Lib.hid hx
      have HPP := Lib.hid hpp
      have HQN := Lib.hid hqn
      have g0 : (0 : Int) ≤ (q : Int) := by omega
      have g1 : (q : Int) < (np : Int) := by omega
      have g2 : (0 : Int) ≤ (pp : Int) := by omega
      have g3 : (pp : Int) < (sz : Int) := by omega
      clear hx hpp hmv hpl hpe hce hfx hmp hqn
      have stay : gT fn x = x → Mid L K k (partO (gT fn) L[k] (q + 1)) sz zs := fun e => encL_congr_one (part_same _ HQN.out (by rw [HX.out]; exact e)) HM.out
      have HSTAY := Lib.hid stay
      clear stay
      by_cases hz : fx = 0
      · have e0 : (fx != 0) = false := by simp [hz]
        have hmn := HSTAY.out (gT_zero (by rw [HFX.out]; exact hz))
        have HMN := Lib.hid hmn
        clear hmn hz
        go_wp2_with fail
        go_quiet (fail)
        go_wp2_with fail
        go_roundw
        case rel => exact ⟨q + 1, by omega, by go_num, zs, HR.out, HMN.out, HTS.out.drewN _⟩
        case measure => simp [intOf]; omega
      · have e0 : (fx != 0) = true := by simp [hz]
        cases hp : isPointerV x
        · have hmn := HSTAY.out (gT_no (by rw [HFX.out]; exact hz) hp)
          have HMN := Lib.hid hmn
          have HPF := Lib.hid hp
          clear hmn hz hp
          go_wp2_with fail
          go_quiet (fail)
          go_wp2_with (go_at_call 64; (with_reducible refine (HIP.out _).mono ?_); rw [HPF.out]; rintro e w5 ⟨rfl, rfl⟩)
          go_roundw
          case rel => exact ⟨q + 1, by omega, by go_num, zs, HR.out, HMN.out, HTS.out.drewN _⟩
          case measure => simp [intOf]; omega
        · have hmn : Mid L K k (partO (gT fn) L[k] (q + 1)) sz (zs.set (t + wix q) fx) := by
            have := mid_set HM.out (j := wix q) (x := gT fn x) (by rw [partO_len]; exact wix_lt HQN.out) (o' := partO (gT fn) L[k] (q + 1)) (by rw [part_set _ HQN.out, HX.out])
            rw [gT_yes (by rw [HFX.out]; exact hz) hp, HFX.out, HT.out] at this
            exact this
          rw [HPP.out] at hmn
          have HMN := Lib.hid hmn
          have HPF := Lib.hid hp
          clear hmn hz hp
          go_wp2_with fail
          go_quiet (fail)
          go_wp2_with (go_at_call 64; (with_reducible refine (HIP.out _).mono ?_); rw [HPF.out]; rintro e w5 ⟨rfl, rfl⟩)
          go_roundw
          case rel => exact ⟨q + 1, by omega, by go_num, zs.set pp fx, ints_set (show (World.drewN _ _).heap[bw]? = some (.cells ((zs).map (Value.int .i64)).toArray 3 (0, 0)) from HR.out) _, HMN.out, (HTS.out.drewN _).setCell _ _ rfl⟩
          case measure => simp [intOf]; omega
    · have hkn : q = np := by omega
      have d1 : decide (q < np) = false := decide_eq_false hlt
      clear hlt
      subst hkn
      have hgap : Gap L (K ++ [turnO (gT fn) L[k]]) (k + 1) sz zs := by
        have := HM.out
        rw [← HNP.out, partO_end] at this
        exact mid_step hk (turnO_len _ _) HKS.out this
      have HG := Lib.hid hgap
      clear hgap
      go_wp2_with fail
      go_end0
      exact ⟨rfl, zs, HR.out, HG.out, (Turns.of_below HB1.out).trans HTS.out⟩
end Go.Proofs.Ythonodimjglnfaa
