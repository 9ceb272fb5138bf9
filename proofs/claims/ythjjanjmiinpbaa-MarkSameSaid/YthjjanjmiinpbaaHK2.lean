/- Chapter 02: the contract of move's step. -/
import Derived.Test.YthjjanjmiinpbaaHK1
import Derived.Lib.SlBuf
namespace Go.Proofs.Ythjjanjmiinpbaa
open Go.ChangeShapes Go.WideShapes Go.ChangeAt Go.RowKit Go.Deep Go.Joins Go.Maps
set_option linter.unusedVariables false
set_option linter.unusedSimpArgs false

theorem sgm_no {L : List Ob} {l : List Int} {x : Int} (h : isPointerV x = false) : sgm L l x = x := by unfold sgm; rw [h]; rfl
theorem sgm_yes {L : List Ob} {l : List Int} {x : Int} (h : isPointerV x = true) : sgm L l x = toV L l x := by unfold sgm; rw [h]; rfl
/-- where the first k objects' kept ones lie now -/
def plK (L : List Ob) (l : List Int) (k : Nat) (a : Int) : Bool := (List.range k).any (fun i => kp L l i && decide (((3 + szs (keptTo L l i) : Nat) : Int) = a))
theorem plK_no {L : List Ob} {l : List Int} {k : Nat} (h : kp L l k = false) (a : Int) : plK L l (k + 1) a = plK L l k a := by unfold plK; rw [List.range_succ, List.any_append]; simp [h]
theorem plK_yes {L : List Ob} {l : List Int} {k : Nat} (h : kp L l k = true) (a : Int) : plK L l (k + 1) a = if a = ((3 + szs (keptTo L l k) : Nat) : Int) then true else plK L l k a := by
  unfold plK
  rw [List.range_succ, List.any_append]
  by_cases e : a = ((3 + szs (keptTo L l k) : Nat) : Int)
  · rw [if_pos e, e]; simp [h]
  · rw [if_neg e]
    have : decide (((3 + szs (keptTo L l k) : Nat) : Int) = a) = false := decide_eq_false (fun q => e q.symm)
    simp only [List.any_cons, List.any_nil, this, Bool.and_false, Bool.or_false]
theorem keptTo_len (L : List Ob) (l : List Int) (k : Nat) : (keptTo L l k).length ≤ k := by unfold keptTo; rw [List.length_map]; exact Nat.le_trans (List.length_filter_le _ _) (by simp)
def mset (bw eb pm : Nat) (b : Nat) : Prop := b = bw ∨ b = eb ∨ b = pm
def MoveP (bw eb pm : Nat) (L : List Ob) (l : List Int) (n : Nat) (w : World) (k : Nat) (w' : World) : Prop := ∃ ys, w'.heap[bw]? = some (.cells ((ys).map (Value.int .i64)).toArray 3 (0, 0)) ∧ Gap L ((keptTo L l k).map (turnO (sgm L l))) k n ys ∧ w'.heap[eb]? = some (.cells #[.int .i64 ((3 + szs (keptTo L l k) : Nat) : Int)] 3 (0, 0)) ∧ BoolMap w' pm (keptTo L l k).length (plK L l k) ∧ Turns (mset bw eb pm) w w'
theorem infoSz : (Try.prog.info? 3).map (·.size) = some 1 := by kernel_rfl
theorem slice_part (lo nn bw sz : Nat) (h : lo + nn ≤ sz) (hlt : lo < sz) (w : World) : ∃ c5 : Nat, (Instr.slice 23 (.slice (some ⟨bw, 0, none⟩) sz sz) (some (.int .i64 ((lo : Nat) : Int))) (some (.int .i64 (((lo : Nat) : Int) + (nn : Int)))) none).run Try.prog w = .ok (.slice (some ⟨bw, lo, none⟩) nn c5) w := by
  obtain ⟨c5, A5, hs⟩ := slice_ints lo nn bw sz h
  have := (hs w).2 hlt
  subst this
  exact ⟨c5, (hs w).1⟩

set_option maxRecDepth 100000 in
set_option maxHeartbeats 16000000 in
theorem move1_any {w : World} {s bw tb mb eb pb tm nt pm k sz : Nat} {m : Hp} {l : List Int} {ys : List Int} (hg : Good m) (hsz : m.size = sz) (hk : k < m.L.length)
    (c0 : w.cell? ⟨s, 0, none⟩ = some (.slice (some ⟨bw, 0, none⟩) sz sz)) (ct : w.cell? ⟨tb, 0, none⟩ = some (.map (some tm))) (hmap : IntMap w tm nt (toV m.L l)) (cm : w.cell? ⟨mb, 0, none⟩ = some (.pointer (some ⟨s, 0, none⟩))) (cp : w.cell? ⟨pb, 0, none⟩ = some (.map (some pm)))
    (hrow : w.heap[bw]? = some (.cells ((ys).map (Value.int .i64)).toArray 3 (0, 0))) (hgap : Gap m.L ((keptTo m.L l k).map (turnO (sgm m.L l))) k sz ys) (heb : w.heap[eb]? = some (.cells #[.int .i64 ((3 + szs (keptTo m.L l k) : Nat) : Int)] 3 (0, 0))) (hpm : BoolMap w pm (keptTo m.L l k).length (plK m.L l k))
    (n1 : s ≠ bw) (n2 : tb ≠ bw) (n3 : mb ≠ bw) (n4 : eb ≠ bw) (n5 : pb ≠ bw) (n6 : tm ≠ bw) (n7 : pm ≠ bw) (n8 : pm ≠ eb) :
    Calls Try.prog 71 #[.int .i64 (adr m.L k : Int), .pointer (some ⟨tb, 0, none⟩), .pointer (some ⟨mb, 0, none⟩), .pointer (some ⟨eb, 0, none⟩), .pointer (some ⟨pb, 0, none⟩)] w fun e w' => e = .returned (.tuple #[]) ∧ MoveP bw eb pm m.L l sz w (k + 1) w' := by
  have hsz2 : sz ≤ 131072 := by rw [← hsz]; exact hg.hi
  have hkl : k ≤ 131072 := by have := len_bd hg; omega
  have hlw : ys.length = sz := by obtain ⟨_, _, _, _, q⟩ := hgap; exact q
  have ha3 := adr_ge m.L k
  have hmid := (gap_mid hk).1 hgap
  have hm0 := mid_at hmid (j := 0) (by omega)
  have hml := (mid_at hmid (j := m.L[k].F.length + 2) (by omega)).2
  have hc0 : w.cell? ⟨bw, adr m.L k, none⟩ = some (.int .i64 (4 * (m.L[k].F.length : Int) + m.L[k].fmt)) := by
    have := ints_cell hrow (k := adr m.L k) (by omega)
    rw [this, show adr m.L k = adr m.L k + 0 from rfl, hm0.1]; rfl
  have hfm := hg.fmt _ (List.getElem_mem hk)
  have hnf := hg.len _ (List.getElem_mem hk)
  have hptr := pointers_any c0 hc0 hfm.1 hfm.2 ha3 (by omega) hsz2
  have hszk := keptTo_szs m.L l k (Nat.le_of_lt hk)
  have hp : ptr m.L k = 2 * (adr m.L k : Int) := rfl
  have htv := toV_at (l := l) hk
  rw [hp] at htv
  obtain ⟨t, ht⟩ : ∃ t, adr m.L k = t := ⟨_, rfl⟩
  have HT := Lib.hid ht
  rw [ht] at htv
  have hoI : InI (2 * (t : Int)) := by unfold InI; omega
  have hlk := hmap.look hoI
  rw [htv] at hlk
  have HPV : Hid (pointerV (t : Int) = (2 * (t : Int), true)) := by show _ = _; unfold pointerV; rw [if_pos (by omega)]
  have HPTR := Lib.hid hptr
  have HROW := Lib.hid hrow
  have HMID := Lib.hid hmid
  have HMAP := Lib.hid hmap
  have HEB0 := Lib.hid heb
  have HPM0 := Lib.hid hpm
  have C0 := Lib.hid c0
  have CM := Lib.hid cm
  have CT := Lib.hid ct
  have CP := Lib.hid cp
  have HGD := Lib.hid hg
  have hlbw := cell_lt hc0
  have HGAP := Lib.hid hgap
  rw [ht] at hszk HPTR hml ⊢
  clear hptr hrow hmid hmap heb hpm hm0 hgap ht hp htv hg hsz hc0
  cases hy : kp m.L l k
  · rw [hy] at hlk
    have HKP := Lib.hid hy
    have e0 : ((0 : Int) == 0) = true := rfl
    clear hy
    go_enter Try.func71, Try.ntmps71
    go_wp2_with (go_at_call 45; (with_reducible refine (pointer_any (t : Int) _).mono ?_); rw [HPV.out]; rintro e w8 ⟨rfl, hw8⟩; replace hw8 := hw8.symm; subst hw8)
    go_returns
    refine ⟨rfl, ys, HROW.out, ?_, ?_, (show BoolMap w pm (keptTo m.L l (k + 1)).length (plK m.L l k) by rw [keptTo_succ hk, HKP.out]; exact HPM0.out).congr (fun a => (plK_no HKP.out a).symm), Turns.refl _ _⟩
    · rw [keptTo_succ hk, HKP.out]
      exact mid_skip hk rfl HMID.out
    · rw [keptTo_succ hk, HKP.out]; exact HEB0.out
  · rw [hy, if_pos rfl] at hlk
    obtain ⟨en, hen⟩ : ∃ en, 3 + szs (keptTo m.L l k) = en := ⟨_, rfl⟩
    have hta : toAt m.L l k = 2 * (en : Int) := by unfold toAt; rw [hen]
    rw [hta] at hlk
    rw [hen] at HEB0 hszk
    have hen3 : 3 ≤ en := by omega
    have HEN := Lib.hid hen
    have HKP := Lib.hid hy
    have e0 : (2 * (en : Int) == 0) = false := by simp; omega
    clear hy hta hen
    go_enter Try.func71, Try.ntmps71
    go_wp2_with (first | (go_at_call 45; (with_reducible refine (pointer_any (t : Int) _).mono ?_); rw [HPV.out]; rintro e w8 ⟨rfl, hw8⟩; replace hw8 := hw8.symm; subst hw8) | (go_at_call 60; (with_reducible refine HPTR.out.mono ?_); rintro e w1 ⟨v, rfl, hi1, hb1⟩; obtain ⟨VA, vc, rfl, hvc, hnums, hva, hvm, _⟩ := hi1.nums; rw [prs_len] at *; have HN1 := Lib.hid hnums; have HB1 := Lib.hid hb1; have HVA := Lib.hid hva; clear hi1 hnums hb1 hva))
    obtain ⟨np, hnp⟩ : ∃ np, npO m.L[k] = np := ⟨_, rfl⟩
    rw [hnp]
    rw [hnp] at hvc
    unfold maxLen at hvm
    have HNP := Lib.hid hnp
    clear hnp hlk
    have L2 := lt_of_block HEB0.out
    go_loopw [25] (fun i wr => ∃ q : Nat, q ≤ np ∧ i = .int .i64 q ∧ ∃ zs, wr.heap[bw]? = some (.cells ((zs).map (Value.int .i64)).toArray 3 (0, 0)) ∧ Mid m.L ((keptTo m.L l k).map (turnO (sgm m.L l))) k (partO (sgm m.L l) m.L[k] q) sz zs ∧ Turns (fun b => b = bw) w1 wr) (fun i _ => np - (intOf i).toNat)
    case atStart => exact ⟨0, Nat.zero_le _, rfl, ys, (HB1.out.block bw hlbw).trans HROW.out, HMID.out, Turns.refl _ _⟩
    case round =>
      obtain ⟨q, hq, rfl, zs, hrw, hmd, hts⟩ := hrel
      have HR := Lib.hid hrw
      have HM := Lib.hid hmd
      have HTS := Lib.hid hts
      have c0 := HTS.out.cell (HB1.out.cell (p := ⟨s, 0, none⟩) (cell_lt C0.out) |>.trans C0.out) n1
      have cm := HTS.out.cell (HB1.out.cell (p := ⟨mb, 0, none⟩) (cell_lt CM.out) |>.trans CM.out) n3
      have ct := HTS.out.cell (HB1.out.cell (p := ⟨tb, 0, none⟩) (cell_lt CT.out) |>.trans CT.out) n2
      have cp := HTS.out.cell (HB1.out.cell (p := ⟨pb, 0, none⟩) (cell_lt CP.out) |>.trans CP.out) n5
      have hmp : IntMap wr tm nt (toV m.L l) := (HMAP.out.same (HB1.out.block tm HMAP.out.lt)).same (HTS.out.block tm (Nat.lt_of_lt_of_le HMAP.out.lt HB1.out.size) n6)
      have hzl : zs.length = sz := by obtain ⟨_, _, _, _, q⟩ := hmd; exact q
      clear hrw hmd hts
      by_cases hlt : q < np
      · have hqn : q < npO m.L[k] := by rw [HNP.out]; exact hlt
        have d1 : decide (q < np) = true := decide_eq_true hlt
        obtain ⟨x, hx⟩ : ∃ x, wordO m.L[k] q = x := ⟨_, rfl⟩
        have hxI : InI x := by rw [← hx]; exact words_InI HGD.out (List.getElem_mem hk) _ (wordO_mem hqn)
        obtain ⟨pp, hpp⟩ : ∃ pp, t + wix q = pp := ⟨_, rfl⟩
        have hmt := mid_at HM.out (j := wix q) (by rw [partO_len]; exact wix_lt hqn)
        rw [part_word _ hqn, hx, HT.out, hpp] at hmt
        obtain ⟨hmv, hpz⟩ := hmt
        have cx := ints_cell HR.out (k := pp) (by omega)
        rw [hmv] at cx
        have fbx := ints_free HR.out pp
        have hpl : q < (prsV t m.L[k].F.length m.L[k].fmt).length := by rw [prs_len]; exact hqn
        obtain ⟨gv, off, e, hgl, hce⟩ := HN1.out q hpl
        have hpe : (prsV t m.L[k].F.length m.L[k].fmt)[q] = (pp : Int) := by
          have := prs_at t hqn
          rw [List.getElem?_eq_getElem hpl, hpp] at this
          exact Option.some.inj this
        rw [hpe] at hce
        have hgb := (HVA.out gv off e).1
        subst e
        have ce := HTS.out.cell hce (fun e => by have := hlbw; omega)
        have HX := Lib.hid hx
        have HPP := Lib.hid hpp
        have HQN := Lib.hid hqn
        have g0 : (0 : Int) ≤ (q : Int) := by omega
        have g1 : (q : Int) < (np : Int) := by omega
        have g2 : (0 : Int) ≤ (pp : Int) := by omega
        have g3 : (pp : Int) < (sz : Int) := by omega
        cases hpx : isPointerV x
        · have HIP := Lib.hid (show ∀ w', Calls Try.prog 50 #[.int .i64 x] w' fun e w'' => e = .returned (.bool false) ∧ w'' = w' from fun w' => by have := isPointer_any x w'; rw [hpx] at this; exact this)
          have hmn : Mid m.L ((keptTo m.L l k).map (turnO (sgm m.L l))) k (partO (sgm m.L l) m.L[k] (q + 1)) sz zs := encL_congr_one (part_same _ hqn (by rw [hx]; exact sgm_no hpx)) HM.out
          have HMN := Lib.hid hmn
          clear hx hpp hmv hpl hpe hce hmp hqn hmn hpx
          --<a
          go_wp2_with (go_at_call 50; (with_reducible refine (HIP.out _).mono ?_); rintro e w5 ⟨rfl, hw5⟩; replace hw5 := hw5.symm; subst hw5)
          go_roundw
          case rel => exact ⟨q + 1, by omega, by go_num, zs, HR.out, HMN.out, HTS.out⟩
          case measure => simp [intOf]; omega
          -->a
        · have HIP := Lib.hid (show ∀ w', Calls Try.prog 50 #[.int .i64 x] w' fun e w'' => e = .returned (.bool true) ∧ w'' = w' from fun w' => by have := isPointer_any x w'; rw [hpx] at this; exact this)
          have hlkx := (show IntMap wr.drew tm nt (toV m.L l) from hmp.same rfl).look hxI
          obtain ⟨y, hy⟩ : ∃ y, toV m.L l x = y := ⟨_, rfl⟩
          rw [hy] at hlkx
          have hmn : Mid m.L ((keptTo m.L l k).map (turnO (sgm m.L l))) k (partO (sgm m.L l) m.L[k] (q + 1)) sz (zs.set (t + wix q) y) := by
            have := mid_set HM.out (j := wix q) (x := sgm m.L l x) (by rw [partO_len]; exact wix_lt hqn) (o' := partO (sgm m.L l) m.L[k] (q + 1)) (by rw [part_set _ hqn, hx])
            rw [sgm_yes hpx, hy, HT.out] at this
            exact this
          rw [hpp] at hmn
          have HMN := Lib.hid hmn
          clear hx hpp hmv hpl hpe hce hmp hqn hmn hpx hy
          --<b
          go_upto_region 7 with (go_at_call 50; (with_reducible refine (HIP.out _).mono ?_); rintro e w5 ⟨rfl, hw5⟩; replace hw5 := hw5.symm; subst hw5)
          refine wp_region_still_tail 9 (by kernel_rfl) (by kernel_rfl) ?_
          simp only [List.take_succ_cons, List.take_zero, List.drop_succ_cons, List.drop_zero]
          repeat still_step
          refine wpStill_nil ?_
          change wpList _ _ _ _ _ wr.drew
          go_wp2_with fail
          go_roundw
          case rel => exact ⟨q + 1, by omega, by go_num, zs.set pp y, ints_set (show wr.drew.heap[bw]? = some (.cells ((zs).map (Value.int .i64)).toArray 3 (0, 0)) from HR.out) _, HMN.out, (HTS.out.drewN 1).setCell _ _ rfl⟩
          case measure => simp [intOf]; omega
          -->b
      · have hkn : q = np := by omega
        have d1 : decide (q < np) = false := decide_eq_false hlt
        clear hlt
        subst hkn
        have hmd := HM.out
        rw [← HNP.out, partO_end] at hmd
        obtain ⟨nf, hnf2⟩ : ∃ nf, m.L[k].F.length = nf := ⟨_, rfl⟩
        rw [hnf2] at hml hnf
        have hol : (encO (turnO (sgm m.L l) m.L[k])).length = nf + 3 := by rw [encO_len, turnO_len, hnf2]
        have hat : ∀ j, j < nf + 3 → wr.cell? ⟨bw, t + j, none⟩ = some (.int .i64 ((encO (turnO (sgm m.L l) m.L[k])).getD j 0)) ∧ t + j < sz := fun j hj => by
          have h1 := mid_at hmd (j := j) (by rw [turnO_len, hnf2]; exact hj)
          rw [HT.out] at h1
          exact ⟨by rw [ints_cell HR.out (k := t + j) (by omega), h1.1], h1.2⟩
        have cX := (hat 0 (by omega)).1
        obtain ⟨X, hX⟩ : ∃ X, (encO (turnO (sgm m.L l) m.L[k])).getD 0 0 = X := ⟨_, rfl⟩
        rw [hX, Nat.add_zero] at cX
        have hXd : X / 4 = (nf : Int) := by
          rw [← hX]
          show (4 * ((turnO (sgm m.L l) m.L[k]).F.length : Int) + m.L[k].fmt) / 4 = _
          rw [turnO_len, hnf2]; omega
        have htn : t + nf + 3 ≤ sz := by have := (hat (nf + 2) (by omega)).2; omega
        have heb : wr.heap[eb]? = some (.cells #[.int .i64 (en : Int)] 3 (0, 0)) := by
          rw [HTS.out.block eb (Nat.lt_of_lt_of_le L2 HB1.out.size) n4, HB1.out.block eb L2]; exact HEB0.out
        have hce : wr.cell? ⟨eb, 0, none⟩ = some (.int .i64 (en : Int)) := by simp [World.cell?, heb]
        have hpm : BoolMap wr pm (keptTo m.L l k).length (plK m.L l k) := (HPM0.out.same (HB1.out.block pm HPM0.out.lt)).same (HTS.out.block pm (Nat.lt_of_lt_of_le HPM0.out.lt HB1.out.size) n7)
        obtain ⟨d5, hs5⟩ := slice_part en (nf + 3) bw sz (by omega) (by omega) wr.drew
        obtain ⟨d6, hs6⟩ := slice_part t (nf + 3) bw sz (by omega) (by omega) wr.drew
        have hs5' : (Instr.slice 23 (.slice (some ⟨bw, 0, none⟩) sz sz) (some (.int .i64 (en : Int))) (some (.int .i64 ((en : Int) + ((nf : Int) + 3)))) none).run Try.prog wr.drew = .ok (.slice (some ⟨bw, en, none⟩) (nf + 3) d5) wr.drew := hs5
        have hs6' : (Instr.slice 23 (.slice (some ⟨bw, 0, none⟩) sz sz) (some (.int .i64 (t : Int))) (some (.int .i64 ((t : Int) + ((nf : Int) + 3)))) none).run Try.prog wr.drew = .ok (.slice (some ⟨bw, t, none⟩) (nf + 3) d6) wr.drew := hs6
        have hcopy : ∀ ty, (Builtin.copy_ #[23, 23] ty #[.slice (some ⟨bw, en, none⟩) (nf + 3) d5, .slice (some ⟨bw, t, none⟩) (nf + 3) d6]).run Try.prog wr.drew = .ok (goInt (nf + 3)) (wr.drew.setCells bw en ((encO (turnO (sgm m.L l) m.L[k])).map (Value.int .i64))) := fun ty => by
          have := run_copy_cells wr.drew 23 23 ty 3 bw en (nf + 3) d5 ⟨bw, t, none⟩ (nf + 3) d6 ((encO (turnO (sgm m.L l) m.L[k])).map (Value.int .i64)) Try.underlying23 infoSz (by rw [List.length_map, hol]; simp) (fun j v hv => by
            rw [add_plain]
            rw [List.getElem?_map] at hv
            obtain ⟨u, hu, rfl⟩ := Option.map_eq_some_iff.1 hv
            obtain ⟨hj, rfl⟩ := List.getElem?_eq_some_iff.1 hu
            have := (hat j (by omega)).1
            rw [List.getD_eq_getElem?_getD, List.getElem?_eq_getElem hj] at this
            exact this) (fun j hj => by
            rw [List.length_map, hol] at hj
            have : wr.cell? ⟨bw, en + j, none⟩ = _ := ints_cell HR.out (k := en + j) (by omega)
            show (wr.cell? ⟨bw, en + j, none⟩).isSome = true
            rw [this]; rfl) (fun j hj => ints_free HR.out _) (fun v hv => by obtain ⟨u, _, rfl⟩ := List.mem_map.1 hv; rfl)
          rw [List.length_map, hol] at this
          exact this
        have hrow9 := ints_setCells (encO (turnO (sgm m.L l) m.L[k])) wr.drew bw en zs HR.out
        have hgap9 := mid_copy hk (turnO_len _ _) hmd
        rw [szs_map_turn, HEN.out] at hgap9
        obtain ⟨w9, hw9⟩ : ∃ w9, wr.drew.setCells bw en ((encO (turnO (sgm m.L l) m.L[k])).map (Value.int .i64)) = w9 := ⟨_, rfl⟩
        have ho9 : ∀ j, j ≠ bw → w9.heap[j]? = wr.heap[j]? := fun j hj => by rw [← hw9]; exact setCells_other _ _ _ _ _ hj
        have ht9 : Turns (fun b => b = bw) w1 w9 := by rw [← hw9]; exact Turns.setCells _ (HTS.out.drewN 1) bw en rfl
        rw [hw9] at hcopy hrow9
        have hce9 : w9.cell? ⟨eb, 0, none⟩ = some (.int .i64 (en : Int)) := by unfold World.cell? at hce ⊢; rw [ho9 eb n4]; exact hce
        have hcp9 : w9.cell? ⟨pb, 0, none⟩ = some (.map (some pm)) := by unfold World.cell? at cp ⊢; rw [ho9 pb n5]; exact cp
        have heb9 : w9.heap[eb]? = some (.cells #[.int .i64 (en : Int)] 3 (0, 0)) := (ho9 eb n4).trans heb
        have hpm9 : BoolMap w9 pm (keptTo m.L l k).length (plK m.L l k) := hpm.same (ho9 pm n7)
        have hle9 := lt_of_block heb9
        have HE9 := Lib.hid heb9
        have HP9 := Lib.hid hpm9
        have HROW9 := Lib.hid hrow9
        have HGAP9 := Lib.hid hgap9
        have HT9 := Lib.hid ht9
        have HNF := Lib.hid hnf2
        have hbw9 : bw < w9.heap.size := lt_of_block hrow9
        have hkm : (keptTo m.L l k).length < maxLen := by have := keptTo_len m.L l k; unfold maxLen; omega
        have HKM := Lib.hid hkm
        have hI2 : InI (en : Int) := by unfold InI; omega
        have HI2 := Lib.hid hI2
        have g2 : (0 : Int) ≤ (t : Int) := by omega
        have g3 : (t : Int) < (sz : Int) := by omega
        have w1_ : IntKind.i64.wrap ((en : Int) + ((nf : Int) + 3)) = (en : Int) + ((nf : Int) + 3) := by rw [IntKind.wrap_i64]; omega
        have w2_ : IntKind.i64.wrap ((t : Int) + ((nf : Int) + 3)) = (t : Int) + ((nf : Int) + 3) := by rw [IntKind.wrap_i64]; omega
        have HCE9 := Lib.hid hce9
        clear hmd hnf2 hol hat hX heb hpm hs5 hs6 hrow9 hgap9 hw9 ho9 ht9 heb9 hpm9 hkm hI2 hmp hoI
        --<d
        go_upto_region 10 with fail
        refine wp_region_still_tail 18 (by kernel_rfl) (by kernel_rfl) ?_
        simp only [List.take_succ_cons, List.take_zero, List.drop_succ_cons, List.drop_zero]
        repeat still_step
        refine wpStill_nil ?_
        change wpList _ _ _ _ _ wr.drew
        go_wp2_with (first | (refine Lib.wpList_copy_run _ rfl _ _ 23 23 rfl _ _ rfl rfl (hcopy _) ?_) | (at_mapUpdate; refine wpList_putBool _ rfl _ _ _ rfl rfl HP9.out HKM.out rfl rfl HI2.out ?_; intro w10 hm10 hg10; have hE10 := (hg10.block eb hle9 (fun e => n8 (by cases e; rfl))).trans HE9.out; have hce10 : w10.cell? ⟨eb, 0, none⟩ = some (.int .i64 (en : Int)) := by { simp [World.cell?, hE10] }; have hf10 : w10.frozen? ⟨eb, 0, none⟩ = false := by { simp [World.frozen?, hE10] }; have HE10 := Lib.hid hE10; have HM10 := Lib.hid hm10; have HG10 := Lib.hid hg10; clear hE10 hm10 hg10))
        go_returns
        have hr10 : w10.heap[bw]? = some (.cells ((spl zs en (encO (turnO (sgm m.L l) m.L[k]))).map (Value.int .i64)).toArray 3 (0, 0)) := (HG10.out.block bw hbw9 (fun e => n7 (by cases e; rfl))).trans HROW9.out
        have e1 : (keptTo m.L l (k + 1)).map (turnO (sgm m.L l)) = (keptTo m.L l k).map (turnO (sgm m.L l)) ++ [turnO (sgm m.L l) m.L[k]] := by rw [keptTo_succ hk, HKP.out, if_pos rfl, List.map_append]; rfl
        refine ⟨rfl, _, ?_, by rw [e1]; exact HGAP9.out, ?_, ?_, ?_⟩
        · rw [Below.heap_setCell _ _ _ _ (fun e => n4 e.symm)]; exact hr10
        · rw [heap_setCell_same w10 eb 0 _ _ _ HE10.out, keptTo_succ hk, HKP.out, if_pos rfl, szs_app, ← HEN.out, ← HNF.out]
          simp [szs]; omega
        · have e2 : (keptTo m.L l (k + 1)).length = (keptTo m.L l k).length + 1 := by rw [keptTo_succ hk, HKP.out, if_pos rfl]; simp
          rw [e2]
          refine (HM10.out.same (Below.heap_setCell _ _ _ _ n8)).congr (fun a => ?_)
          rw [plK_yes HKP.out, HEN.out]
        · exact (((Turns.of_below HB1.out).trans (HT9.out.mono (fun j _ e => .inl e))).grown HG10.out (.inr (.inr rfl))).setCell _ _ (.inr (.inl rfl))
        -->d
end Go.Proofs.Ythjjanjmiinpbaa
