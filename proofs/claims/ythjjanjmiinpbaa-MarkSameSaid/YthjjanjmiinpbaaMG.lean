/- Chapter 03: what is left, as the program tells it. -/
import Derived.Test.YthjjanjmiinpbaaME
import Derived.Test.YthjjanjmiinpbaaMF
import Derived.Test.YthjjanjmiinpbaaHK4
import Derived.BigQuiet
namespace Go.Proofs.Ythjjanjmiinpbaa
open Go.ChangeShapes Go.WideShapes Go.ChangeAt Go.RowKit Go.Deep Go.Joins Go.Maps
set_option linter.unusedVariables false
set_option linter.unusedSimpArgs false
/-- where a root is, behind a Collect -/
def colW (L : List Ob) (l : List Int) (x : Int) : Int := if l.contains x then toV L l x else x
/-- what a Collect comes to: the memory, the roots, the error -/
noncomputable def collectV (m : Hp) (rs : List Int) : Hp × List Int × Int :=
  if rs.all (mayV m.L) then (if (keepV m (reachL m.L rs)).2.2 = 0 then ((keepV m (reachL m.L rs)).1, rs.map (colW m.L (reachL m.L rs)), 0) else (m, [], 1)) else (m, [], 1)
def CollPost (w : World) (s bw bm : Nat) (r : Hp × List Int × Int) (e : Ending) (w' : World) : Prop := ∃ v, e = .returned (.tuple #[v, .int .i64 r.2.2]) ∧ Ints w' w.heap.size v r.2.1 ∧ ∃ bm', PM w' s bw bm' r.1 ∧ (bm' = bm ∨ w.heap.size ≤ bm') ∧ Turns (gone s bw) w w'
theorem keepV_no {m : Hp} {l : List Int} (h : (keepV m l).2.2 ≠ 0) : keepV m l = (m, [], 1) := by
  unfold keepV at h ⊢
  split at h
  · exact absurd rfl h
  · rename_i hc
    rw [if_neg hc]
theorem keepV_ok {m : Hp} {l : List Int} (h : (keepV m l).2.2 = 0) : keepV m l = ((keepV m l).1, l.map (toV m.L l), 0) := by
  unfold keepV at h ⊢
  split at h
  · rename_i hc
    rw [if_pos hc]
  · cases h
theorem toV_ne {L : List Ob} {l : List Int} {x : Int} (hx : x ∈ l) (hv : isV L x = true) : toV L l x ≠ 0 := by
  obtain ⟨i, hi, rfl⟩ := isV_iff.1 hv
  intro e
  have := (toV_zero hi).1 e
  unfold kp at this
  rw [List.contains_iff_mem.2 hx] at this
  cases this
theorem ReachP.at {w w' : World} {m : Hp} {rs l : List Int} {er : Int} {e : Ending} (h : ReachP w m rs e w') (hv : reachedV m rs = (l, er)) : ∃ v, e = .returned (.tuple #[v, .int .i64 er]) ∧ Ints w' w.heap.size v l ∧ Below w.heap.size w w' := by
  unfold ReachP at h
  rw [hv] at h
  exact h
theorem KeepPost.at {w w' : World} {s bw bm : Nat} {m m2 : Hp} {l ls : List Int} {er : Int} {e : Ending} (h : KeepPost s bw bm m l w e w') (hv : keepV m l = (m2, ls, er)) : ∃ v, e = .returned (.tuple #[v, .int .i64 er]) ∧ Ints w' w.heap.size v ls ∧ ∃ bm', PM w' s bw bm' m2 ∧ (bm' = bm ∨ w.heap.size ≤ bm') ∧ Turns (gone s bw) w w' := by
  unfold KeepPost at h
  rw [hv] at h
  exact h
theorem keep_any' {w : World} {s bw bm : Nat} {m : Hp} (h : PM w s bw bm m) {A : Option Addr} {l : List Int} {n c : Nat} (hn : l.length = n) (hA : Nums w A l) (hlI : ∀ x, x ∈ l → InI x) (hln : n ≤ 1000000) (hd : ∀ b off, A = some ⟨b, off, none⟩ → b ≠ s ∧ b ≠ bw) :
    Calls Try.prog 36 #[.pointer (some ⟨s, 0, none⟩), .slice A n c] w (KeepPost s bw bm m l w) := by
  subst hn; exact keep_any h hA hlI hln hd
theorem coll_no {w w1 : World} {s bw bm bm' : Nat} {m : Hp} (h : PM w1 s bw bm' m) (hbm : bm' = bm ∨ w.heap.size ≤ bm') (ht : Turns (gone s bw) w w1) : CollPost w s bw bm (m, [], 1) (.returned (.tuple #[.slice none 0 0, .int .i64 1])) w1 := ⟨_, rfl, World.ownsRow_nil _ _ _ _, bm', h, hbm, ht⟩
/-- what the first k places of the map say -/
def toC (L : List Ob) (l : List Int) (k : Nat) (a : Int) : Int := if (l.take k).contains a then toV L l a else 0
theorem toC_succ {L : List Ob} {l : List Int} {k : Nat} (hk : k < l.length) (a : Int) : (if a = l[k] then toV L l l[k] else toC L l k a) = toC L l (k + 1) a := by
  unfold toC
  rw [contains_take hk]
  by_cases e : a = l[k]
  · rw [if_pos e, if_pos e, if_pos rfl, e]
  · rw [if_neg e, if_neg e]
theorem reach_InI {m : Hp} (h : Good m) {rs : List Int} : ∀ x, x ∈ reachL m.L rs → InI x := fun x hx => isV_InI h (mem_reach.1 hx).valid
theorem reach_len {m : Hp} (h : Good m) (rs : List Int) : (reachL m.L rs).length ≤ 131072 := Nat.le_trans (len_nodup reach_nodup (fun x hx => (mem_reach.1 hx).valid)) (len_bd h)
set_option maxRecDepth 100000 in
set_option maxHeartbeats 16000000 in
theorem collect_any {w : World} {s bw bm : Nat} {m : Hp} (h : PM w s bw bm m) {A : Option Addr} {rs : List Int} {n c : Nat} (hA : Nums w A rs) (hn : rs.length = n) (hrI : ∀ x, x ∈ rs → InI x) (hnl : n ≤ 1000000) (hoff : ∀ b off, A = some ⟨b, off, none⟩ → b ≠ s ∧ b ≠ bw) :
    Calls Try.prog 10 #[.pointer (some ⟨s, 0, none⟩), .slice A n c] w (CollPost w s bw bm (collectV m rs)) := by
  have HP := Lib.hid h
  have HA := Lib.hid hA
  have HN := Lib.hid hn
  have HRI := Lib.hid hrI
  have HOF := Lib.hid hoff
  cases hall : rs.all (mayV m.L)
  · have HRV : Hid (reachedV m rs = ([], 1)) := Lib.hid (by unfold reachedV; rw [hall]; rfl)
    have HV : Hid (collectV m rs = (m, [], 1)) := Lib.hid (by unfold collectV; rw [hall]; rfl)
    rw [HV.out]
    clear h hA hn hrI hoff hall
    go_enter Try.func10, Try.ntmps10
    go_wp2_with (go_at_call 14; (with_reducible refine (reached_any HP.out HA.out HN.out HRI.out hnl).mono ?_); intro e w1 hr1; obtain ⟨v1, rfl, hi1, hb1⟩ := hr1.at HRV.out; have HI1 := Lib.hid hi1; have HB1 := Lib.hid hb1; clear hr1 hi1 hb1)
    go_returns
    exact coll_no (HP.out.below HB1.out) (.inl rfl) (Turns.of_below HB1.out)
  · have HRV : Hid (reachedV m rs = (reachL m.L rs, 0)) := Lib.hid (by unfold reachedV; rw [hall]; rfl)
    obtain ⟨nl, hnl'⟩ : ∃ nl, (reachL m.L rs).length = nl := ⟨_, rfl⟩
    have hnl2 : nl ≤ 131072 := by rw [← hnl']; exact reach_len h.good rs
    have HNL := Lib.hid hnl'
    have HLI : Hid (∀ x, x ∈ reachL m.L rs → InI x) := Lib.hid (reach_InI h.good)
    have HLV : Hid (∀ x, x ∈ reachL m.L rs → isV m.L x = true) := Lib.hid (fun x hx => (mem_reach.1 hx).valid)
    have HLO : Hid (∀ {LA : Option Addr}, (∀ b off, LA = some ⟨b, off, none⟩ → w.heap.size ≤ b ∧ off = 0) → ∀ b off, LA = some ⟨b, off, none⟩ → b ≠ s ∧ b ≠ bw) := Lib.hid (fun q b off e => by
      have h1 := (q b off e).1
      have h2 := h.lt s (.inl rfl)
      have h3 := h.lt bw (.inr (.inl rfl))
      omega)
    by_cases hk : (keepV m (reachL m.L rs)).2.2 = 0
    · have HKV := Lib.hid (keepV_ok hk)
      obtain ⟨m2, hm2⟩ : ∃ m2, (keepV m (reachL m.L rs)).1 = m2 := ⟨_, rfl⟩
      have HV : Hid (collectV m rs = (m2, rs.map (colW m.L (reachL m.L rs)), 0)) := Lib.hid (by unfold collectV; rw [hall, if_pos rfl, if_pos hk, hm2])
      rw [hm2] at HKV
      rw [HV.out]
      obtain ⟨l, hl⟩ : ∃ l, reachL m.L rs = l := ⟨_, rfl⟩
      rw [hl] at HRV HNL HLI HLV HKV ⊢
      have hmm := @run_makeMap Try.prog
      clear h hA hn hrI hoff hall hk hm2 HV hnl' hl
      go_enter Try.func10, Try.ntmps10
      go_upto_region 8 with (first | (go_at_call 14; (with_reducible refine (reached_any HP.out HA.out HN.out HRI.out hnl).mono ?_); intro e w1 hr1; obtain ⟨v1, rfl, hi1, hb1⟩ := hr1.at HRV.out; have HI1 := Lib.hid hi1; have HB1 := Lib.hid hb1; clear hr1 hi1 hb1; obtain ⟨LA, lc, hv1, hlc, hn1, hb1, hm1, -⟩ := HI1.out.nums; rw [HNL.out] at hv1; subst hv1; have HN1 := Lib.hid hn1; have HLB := Lib.hid hb1; clear hn1 hb1) | (go_at_call 36; (with_reducible refine (keep_any' (HP.out.below HB1.out) HNL.out HN1.out HLI.out (by omega) (HLO.out HLB.out)).mono ?_); intro e w2 hk2; obtain ⟨v2, rfl, hi2, bm2, hp2, hbm2, ht2⟩ := hk2.at HKV.out; have HI2 := Lib.hid hi2; have HP2 := Lib.hid hp2; have HBM2 := Lib.hid hbm2; have HT2 := Lib.hid ht2; clear hk2 hi2 hp2 hbm2 ht2))
      obtain ⟨TA, tc, hv2, htc, hn2, -, -, -⟩ := HI2.out.nums
      rw [List.length_map, HNL.out] at hv2
      subst hv2
      have HBM : Hid (bm2 = bm ∨ w.heap.size ≤ bm2) := Lib.hid (HBM2.out.imp id (fun q => Nat.le_trans HB1.out.size q))
      have HBK : Hid (w.heap.size ≤ w2.heap.size) := Lib.hid (Nat.le_trans HB1.out.size HT2.out.size)
      have HTT : Hid (Turns (gone s bw) w w2) := Lib.hid ((Turns.of_below HB1.out).trans HT2.out)
      have HN2 := Lib.hid hn2
      have HL2 : Hid (Nums w2 LA l) := Lib.hid (HN1.out.turns HT2.out (fun b off e z => by
        have := HLO.out HLB.out b off e
        rcases z with z | z
        · exact this.1 z
        · exact this.2 z))
      have HA2 : Hid (Nums w2 A rs) := Lib.hid (HA.out.turns HTT.out (fun b off e z => by
        have := HOF.out b off e
        rcases z with z | z
        · exact this.1 z
        · exact this.2 z))
      obtain ⟨w3, hw3⟩ : ∃ w3, w2.alloc (.map #[] 0) = w3 := ⟨_, rfl⟩
      have HB3 : Hid (Below w2.heap.size w2 w3) := Lib.hid (by rw [← hw3]; exact (Below.refl _ _).alloc (Nat.le_refl _) _)
      have HM3 : Hid (IntMap w3 w2.heap.size 0 (toC m.L l 0)) := Lib.hid (by rw [← hw3]; exact (IntMap.made w2).congr (fun a => rfl))
      have HS3 : Hid (w2.heap.size < w3.heap.size) := Lib.hid (by rw [← hw3]; simp)
      rw [hw3]
      clear hn2 hw3 hmm HA HN1 HLB HB1 HT2 HI1 HI2 hlc
      obtain ⟨mb, hmb⟩ : ∃ mb, w2.heap.size = mb := ⟨_, rfl⟩
      have HMB := Lib.hid hmb
      rw [hmb] at HB3 HM3 HS3 HBK ⊢
      clear hmb
      go_wp2_with fail
      go_loopw [36] (fun i wr => ∃ k : Nat, k ≤ nl ∧ i = .int .i64 k ∧ IntMap wr mb k (toC m.L l k) ∧ Below mb w2 wr ∧ mb < wr.heap.size) (fun i _ => nl - (intOf i).toNat)
      case atStart => exact ⟨0, Nat.zero_le _, rfl, HM3.out, HB3.out, HS3.out⟩
      case round =>
        clear HB3 HM3 HS3
        obtain ⟨k, hk, rfl, him, hbw, hsz⟩ := hrel
        have HIM := Lib.hid him
        have HBW := Lib.hid hbw
        have HSZ := Lib.hid hsz
        by_cases hlt : k < nl
        · have d0 : decide (k < nl) = true := decide_eq_true hlt
          have hkl : k < l.length := by rw [HNL.out]; exact hlt
          obtain ⟨ga, offa, hga, hgl, hca⟩ := (HL2.out.below (by rw [HMB.out]; exact hbw)) k hkl
          subst hga
          obtain ⟨gb, offb, hgb, hgl2, hcb⟩ := (HN2.out.below (by rw [HMB.out]; exact hbw)) k (by rw [List.length_map]; exact hkl)
          subst hgb
          rw [List.getElem_map] at hcb
          obtain ⟨x, hx⟩ : ∃ x, l[k] = x := ⟨_, rfl⟩
          have HX := Lib.hid hx
          have HXI : Hid (InI x) := Lib.hid (by rw [← hx]; exact HLI.out _ (List.getElem_mem hkl))
          rw [hx] at hca hcb
          obtain ⟨y, hy⟩ : ∃ y, toV m.L l x = y := ⟨_, rfl⟩
          have HY := Lib.hid hy
          have HYI : Hid (InI y) := Lib.hid (by rw [← hy]; exact toV_InI HP.out.good l x)
          rw [hy] at hcb
          have g0 : (0 : Int) ≤ (k : Int) := by omega
          have g1 : (k : Int) < (nl : Int) := by omega
          have hkm : k < maxLen := by unfold maxLen; omega
          have HKM := Lib.hid hkm
          clear hx hy him hbw hsz hkm
          go_wp2_with (at_mapUpdate; refine wpList_putInt _ rfl _ _ _ rfl rfl HIM.out HKM.out rfl rfl HXI.out HYI.out ?_; intro w7 hm7 hg7; have HM7 := Lib.hid hm7; have HG7 := Lib.hid hg7; clear hm7 hg7)
          go_roundw
          case rel =>
            refine ⟨k + 1, by omega, by go_num, HM7.out.congr (fun a => ?_), HBW.out.grown HG7.out (by have := HBW.out.size; have := HMB.out; omega) (fun j hj => by cases hj; exact Nat.le_refl _), Nat.lt_of_lt_of_le HSZ.out HG7.out.size⟩
            rw [← toC_succ hkl, HX.out, HY.out]
          case measure => simp [intOf]; omega
        · have hkn : k = nl := by omega
          have d0 : decide (k < nl) = false := decide_eq_false hlt
          clear hlt him hbw hsz
          subst hkn
          have HIM' : Hid (IntMap wr mb k (fun a => if l.contains a then toV m.L l a else 0)) := Lib.hid (by
            have q := HIM.out
            unfold toC at q
            rw [← HNL.out, List.take_length] at q
            rw [← HNL.out]
            exact q)
          clear HIM
          obtain ⟨w5, hw5⟩ : ∃ w5, wr = w5 := ⟨_, rfl⟩
          obtain ⟨zb, hzb⟩ : ∃ zb, w5.heap.size = zb := ⟨_, rfl⟩
          have HZB := Lib.hid hzb
          rw [hw5] at HBW HSZ HIM' ⊢
          have HMZ : Hid (mb < zb ∧ w.heap.size ≤ zb) := Lib.hid (by have := HSZ.out; have := HBK.out; omega)
          have HB5 : Hid (Below w2.heap.size w2 w5) := Lib.hid (by rw [HMB.out]; exact HBW.out)
          clear hw5 hzb HBW HSZ HL2 HN2
          go_wp2_with fail
          go_loopw [12, 50] (fun v i wq => ∃ j : Nat, j ≤ n ∧ i = .int .i64 j ∧ Ints wq zb v ((rs.take j).map (colW m.L l)) ∧ Below zb w5 wq) (fun _ i _ => n - (intOf i).toNat)
          case atStart => exact ⟨0, Nat.zero_le _, rfl, World.ownsRow_nil _ _ _ _, Below.refl _ _⟩
          case round =>
            obtain ⟨j, hj, rfl, hin, hbw⟩ := hrel
            have HIN := Lib.hid hin
            have HBW : Hid (Below w5.heap.size w5 wr) := Lib.hid (by rw [HZB.out]; exact hbw)
            have hzs : zb ≤ wr.heap.size := by have := hbw.size; have := HZB.out; omega
            have him := HIM'.out.same (w' := wr) (hbw.block mb HMZ.out.1)
            by_cases hjl : j < n
            · have d0 : decide (j < n) = true := decide_eq_true hjl
              have hkl : j < rs.length := by rw [HN.out]; exact hjl
              obtain ⟨ga, offa, hga, hgl, hca⟩ := ((HA2.out.below HB5.out).below HBW.out) j hkl
              subst hga
              obtain ⟨x, hx⟩ : ∃ x, rs[j] = x := ⟨_, rfl⟩
              have HX := Lib.hid hx
              have hxI : InI x := by rw [← hx]; exact HRI.out _ (List.getElem_mem hkl)
              have hlk := him.look hxI
              rw [hx] at hca
              have g0 : (0 : Int) ≤ (j : Int) := by omega
              have g1 : (j : Int) < (n : Int) := by omega
              have hlen : ((rs.take j).map (colW m.L l)).length = j := by rw [List.length_map, List.length_take]; omega
              cases hc : l.contains x
              · rw [hc] at hlk
                have HTK : Hid ((rs.take (j + 1)).map (colW m.L l) = (rs.take j).map (colW m.L l) ++ [x]) := Lib.hid (by
                  rw [List.take_succ_eq_append_getElem hkl, List.map_append, HX.out, List.map_cons, List.map_nil]
                  unfold colW
                  rw [hc]
                  rfl)
                have hlk0 : (Instr.lookup 56 (.map (some mb)) (.int .i64 x) false).run Try.prog wr = .ok (.int .i64 0) wr := hlk
                clear hc hx him hin hbw hlk hxI
                go_wp2_with (at_builtin; refine wpList_app rfl _ _ rfl zb _ _ ((rs.take j).map (colW m.L l)) rfl (HIN.out.alloc _) rfl (fun e => by cases e) (nums_lit wr x) rfl (by rw [hlen]; simp; omega) (by rw [World.size_alloc]; omega) ?_; intro v5 w6 hown5 hg5 _; have HO5 := Lib.hid hown5; have HBW5 : Hid (Below zb w5 w6) := Lib.hid (push_below (HBW.out.mono (by rw [HZB.out]; exact Nat.le_refl _)) hzs HIN.out hg5); clear hown5 hg5)
                go_roundw
                case rel => exact ⟨j + 1, by omega, by go_num, by rw [HTK.out]; unfold Ints; rw [List.length_append]; exact HO5.out, HBW5.out⟩
                case measure => simp [intOf]; omega
              · rw [hc] at hlk
                obtain ⟨y, hy⟩ : ∃ y, toV m.L l x = y := ⟨_, rfl⟩
                have hm := List.contains_iff_mem.1 hc
                have hne := toV_ne hm (HLV.out x hm)
                rw [hy] at hne
                have HTK : Hid ((rs.take (j + 1)).map (colW m.L l) = (rs.take j).map (colW m.L l) ++ [y]) := Lib.hid (by
                  rw [List.take_succ_eq_append_getElem hkl, List.map_append, HX.out, List.map_cons, List.map_nil]
                  unfold colW
                  rw [hc, if_pos rfl, hy])
                have hlk0 : (Instr.lookup 56 (.map (some mb)) (.int .i64 x) false).run Try.prog wr = .ok (.int .i64 y) wr := by rw [← hy]; exact hlk
                have d1 : (y == 0) = false := by simpa using hne
                clear hc hx him hin hbw hlk hxI hm hne hy
                go_wp2_with (at_builtin; refine wpList_app rfl _ _ rfl zb _ _ ((rs.take j).map (colW m.L l)) rfl (HIN.out.alloc _) rfl (fun e => by cases e) (nums_lit wr y) rfl (by rw [hlen]; simp; omega) (by rw [World.size_alloc]; omega) ?_; intro v5 w6 hown5 hg5 _; have HO5 := Lib.hid hown5; have HBW5 : Hid (Below zb w5 w6) := Lib.hid (push_below (HBW.out.mono (by rw [HZB.out]; exact Nat.le_refl _)) hzs HIN.out hg5); clear hown5 hg5)
                go_roundw
                case rel => exact ⟨j + 1, by omega, by go_num, by rw [HTK.out]; unfold Ints; rw [List.length_append]; exact HO5.out, HBW5.out⟩
                case measure => simp [intOf]; omega
            · have hjn : j = n := by omega
              have d0 : decide (j < n) = false := decide_eq_false hjl
              clear hjl hin hbw him
              subst hjn
              go_wp2_with fail
              go_returns
              have hi := HIN.out
              rw [← HN.out, List.take_length] at hi
              exact ⟨_, rfl, ownsRow_mono hi HMZ.out.2, bm2, (HP2.out.below HB5.out).below HBW.out, HBM.out, (HTT.out.trans (Turns.of_below HB5.out)).trans (Turns.of_below HBW.out)⟩
    · have HKV := Lib.hid (keepV_no hk)
      have HV : Hid (collectV m rs = (m, [], 1)) := Lib.hid (by unfold collectV; rw [hall, if_pos rfl, if_neg hk])
      rw [HV.out]
      clear h hA hn hrI hoff hall hk
      go_enter Try.func10, Try.ntmps10
      go_wp2_with (first | (go_at_call 14; (with_reducible refine (reached_any HP.out HA.out HN.out HRI.out hnl).mono ?_); intro e w1 hr1; obtain ⟨v1, rfl, hi1, hb1⟩ := hr1.at HRV.out; have HI1 := Lib.hid hi1; have HB1 := Lib.hid hb1; clear hr1 hi1 hb1; obtain ⟨LA, lc, hv1, hlc, hn1, hb1, hm1, -⟩ := HI1.out.nums; rw [HNL.out] at hv1; subst hv1; have HN1 := Lib.hid hn1; have HLB := Lib.hid hb1; clear hn1 hb1) | (go_at_call 36; (with_reducible refine (keep_any' (HP.out.below HB1.out) HNL.out HN1.out HLI.out (by omega) (HLO.out HLB.out)).mono ?_); intro e w2 hk2; obtain ⟨v2, rfl, hi2, bm2, hp2, hbm2, ht2⟩ := hk2.at HKV.out; have HI2 := Lib.hid hi2; have HP2 := Lib.hid hp2; have HBM2 := Lib.hid hbm2; have HT2 := Lib.hid ht2; clear hk2 hi2 hp2 hbm2 ht2))
      go_returns
      exact coll_no HP2.out (HBM2.out.imp id (fun q => Nat.le_trans HB1.out.size q)) ((Turns.of_below HB1.out).trans HT2.out)
end Go.Proofs.Ythjjanjmiinpbaa
/- Chapter 03: what is left, as the reference tells it. -/
namespace Go.Proofs.Ythjjanjmiinpbaa
open Go.ChangeShapes Go.WideShapes Go.ChangeAt Go.RowKit Go.Deep Go.Joins Go.Maps
set_option linter.unusedVariables false
set_option linter.unusedSimpArgs false
def RCollPost (w : World) (R : Nat → Prop) (r : Nat) (q : Hp × List Int × Int) (e : Ending) (w' : World) : Prop := ∃ v, e = .returned (.tuple #[v, .int .i64 q.2.2]) ∧ Ints w' w.heap.size v q.2.1 ∧ RPost R r q.1 w w'
theorem RKeepPost.at {w w' : World} {R : Nat → Prop} {r : Nat} {m m2 : Hp} {l ls : List Int} {er : Int} {e : Ending} (h : RKeepPost R r m l w e w') (hv : keepV m l = (m2, ls, er)) : ∃ v, e = .returned (.tuple #[v, .int .i64 er]) ∧ Ints w' w.heap.size v ls ∧ RPost R r m2 w w' := by
  unfold RKeepPost at h
  rw [hv] at h
  exact h
theorem rkeep_any' {w : World} {R : Nat → Prop} {r : Nat} {m : Hp} {lv : Value} {fv : Nat → Value} (h : RM w R r m lv fv) {A : Option Addr} {l : List Int} {n c : Nat} (hn : l.length = n) (hA : Nums w A l) (hla : n ≤ c) (hll : n ≤ 1000000) :
    Calls Try.prog 56 #[.pointer (some ⟨r, 0, none⟩), .slice A n c] w (RKeepPost R r m l w) := by
  subst hn; exact rkeep_any h hA hla hll
theorem rcoll_no {w w1 : World} {R : Nat → Prop} {r : Nat} {m : Hp} (h : RPost R r m w w1) : RCollPost w R r (m, [], 1) (.returned (.tuple #[.slice none 0 0, .int .i64 1])) w1 := ⟨_, rfl, World.ownsRow_nil _ _ _ _, h⟩
theorem RPost.later {w w1 w2 : World} {R : Nat → Prop} {r : Nat} {m : Hp} (hb : Below w.heap.size w w1) (h : RPost R r m w1 w2) : RPost R r m w w2 := by
  obtain ⟨R', lv, fv, h1, h2, h3⟩ := h
  exact ⟨R', lv, fv, h1, (Turns.of_below hb).trans h2, fun k hk => (h3 k hk).imp id (fun q => Nat.le_trans hb.size q)⟩
theorem RPost.then {w w1 w2 : World} {R : Nat → Prop} {r : Nat} {m : Hp} (h : RPost R r m w w1) (hb : Below w1.heap.size w1 w2) : RPost R r m w w2 := by
  obtain ⟨R', lv, fv, h1, h2, h3⟩ := h
  exact ⟨R', lv, fv, h1.below hb, h2.trans (Turns.of_below hb), h3⟩
theorem RM.post {w : World} {R : Nat → Prop} {r : Nat} {m : Hp} {lv : Value} {fv : Nat → Value} (h : RM w R r m lv fv) : RPost R r m w w := ⟨R, lv, fv, h, Turns.refl _ _, fun k hk => .inl hk⟩
theorem RPost.good {w w1 : World} {R : Nat → Prop} {r : Nat} {m : Hp} (h : RPost R r m w w1) : Good m := by
  obtain ⟨R', lv, fv, h1, _⟩ := h
  exact h1.good
/-- where x is, as far as the first j places say -/
def upTo (L : List Ob) (l : List Int) (x : Int) (j : Nat) : Int := if (l.take j).contains x then toV L l x else x
theorem upTo_zero (L : List Ob) (l : List Int) (x : Int) : upTo L l x 0 = x := by unfold upTo; simp
theorem upTo_end (L : List Ob) (l : List Int) (x : Int) : upTo L l x l.length = colW L l x := by unfold upTo colW; rw [List.take_length]
theorem upTo_yes {L : List Ob} {l : List Int} {x : Int} {j : Nat} (hj : j < l.length) (e : l[j] = x) : upTo L l x (j + 1) = toV L l l[j] := by
  unfold upTo
  rw [contains_take hj, if_pos e.symm, if_pos rfl, e]
theorem upTo_no {L : List Ob} {l : List Int} {x : Int} {j : Nat} (hj : j < l.length) (e : l[j] ≠ x) : upTo L l x (j + 1) = upTo L l x j := by
  unfold upTo
  rw [contains_take hj, if_neg (fun q : x = l[j] => e q.symm)]
set_option maxRecDepth 100000 in
set_option maxHeartbeats 16000000 in
theorem rcollect_any {w : World} {R : Nat → Prop} {r : Nat} {m : Hp} {lv : Value} {fv : Nat → Value} (h : RM w R r m lv fv) {A : Option Addr} {rs : List Int} {n c : Nat} (hA : Nums w A rs) (hn : rs.length = n) (hnl : n ≤ 1000000) (hoff : ∀ b off, A = some ⟨b, off, none⟩ → ¬ R b) :
    Calls Try.prog 26 #[.pointer (some ⟨r, 0, none⟩), .slice A n c] w (RCollPost w R r (collectV m rs)) := by
  have HR := Lib.hid h
  have HA := Lib.hid hA
  have HN := Lib.hid hn
  have HOF := Lib.hid hoff
  cases hall : rs.all (mayV m.L)
  · have HRV : Hid (reachedV m rs = ([], 1)) := Lib.hid (by unfold reachedV; rw [hall]; rfl)
    have HV : Hid (collectV m rs = (m, [], 1)) := Lib.hid (by unfold collectV; rw [hall]; rfl)
    rw [HV.out]
    clear h hA hn hoff hall
    go_enter Try.func26, Try.ntmps26
    go_wp2_with (go_at_call 18; (with_reducible refine (rreached_any HR.out HA.out HN.out hnl).mono ?_); intro e w1 hr1; obtain ⟨v1, rfl, hi1, hb1⟩ := hr1.at HRV.out; have HI1 := Lib.hid hi1; have HB1 := Lib.hid hb1; clear hr1 hi1 hb1)
    go_returns
    exact rcoll_no ((HR.out.post).then HB1.out)
  · have HRV : Hid (reachedV m rs = (reachL m.L rs, 0)) := Lib.hid (by unfold reachedV; rw [hall]; rfl)
    obtain ⟨nl, hnl'⟩ : ∃ nl, (reachL m.L rs).length = nl := ⟨_, rfl⟩
    have hnl2 : nl ≤ 131072 := by rw [← hnl']; exact reach_len h.good rs
    have HNL := Lib.hid hnl'
    have HLO : Hid (∀ b, R b → b < w.heap.size) := Lib.hid h.lt
    by_cases hk : (keepV m (reachL m.L rs)).2.2 = 0
    · have HKV := Lib.hid (keepV_ok hk)
      obtain ⟨m2, hm2⟩ : ∃ m2, (keepV m (reachL m.L rs)).1 = m2 := ⟨_, rfl⟩
      have HV : Hid (collectV m rs = (m2, rs.map (colW m.L (reachL m.L rs)), 0)) := Lib.hid (by unfold collectV; rw [hall, if_pos rfl, if_pos hk, hm2])
      rw [hm2] at HKV
      rw [HV.out]
      obtain ⟨l, hl⟩ : ∃ l, reachL m.L rs = l := ⟨_, rfl⟩
      rw [hl] at HRV HNL HKV ⊢
      clear h hA hn hoff hall hk hm2 HV hnl' hl
      go_enter Try.func26, Try.ntmps26
      go_upto_region 7 with (first | (go_at_call 18; (with_reducible refine (rreached_any HR.out HA.out HN.out hnl).mono ?_); intro e w1 hr1; obtain ⟨v1, rfl, hi1, hb1⟩ := hr1.at HRV.out; have HI1 := Lib.hid hi1; have HB1 := Lib.hid hb1; clear hr1 hi1 hb1; obtain ⟨LA, lc, hv1, hlc, hn1, hb1, hm1, -⟩ := HI1.out.nums; rw [HNL.out] at hv1 hlc; subst hv1; have HN1 := Lib.hid hn1; have HLB := Lib.hid hb1; clear hn1 hb1) | (go_at_call 56; (with_reducible refine (rkeep_any' (HR.out.below HB1.out) HNL.out HN1.out hlc (by omega)).mono ?_); intro e w2 hk2; obtain ⟨v2, rfl, hi2, hp2⟩ := hk2.at HKV.out; have HI2 := Lib.hid hi2; have HP2 := Lib.hid hp2; clear hk2 hi2 hp2))
      obtain ⟨TA, tc, hv2, htc, hn2, -, -, -⟩ := HI2.out.nums
      rw [List.length_map, HNL.out] at hv2
      subst hv2
      have HRP := Lib.hid (HP2.out.later HB1.out)
      have HBK : Hid (w.heap.size ≤ w2.heap.size) := Lib.hid (by obtain ⟨_, _, _, _, z, _⟩ := HRP.out; exact z.size)
      have HN2 := Lib.hid hn2
      have HL2 : Hid (Nums w2 LA l) := Lib.hid (by
        obtain ⟨_, _, _, _, z, _⟩ := HP2.out
        exact HN1.out.turns z (fun b off e q => by have := (HLB.out b off e).1; have := HLO.out b q; omega))
      have HA2 : Hid (Nums w2 A rs) := Lib.hid (by
        obtain ⟨_, _, _, _, z, _⟩ := HRP.out
        exact HA.out.turns z (fun b off e q => HOF.out b off e q))
      clear hn2 HA HN1 HLB HB1 HI1 HI2 hlc HP2
      obtain ⟨zb, hzb⟩ : ∃ zb, w2.heap.size = zb := ⟨_, rfl⟩
      have HZB := Lib.hid hzb
      have HWZ : Hid (w.heap.size ≤ zb) := Lib.hid (by rw [← hzb]; exact HBK.out)
      clear hzb HBK
      go_wp2_with fail
      go_loopw [10, 11] (fun v i wq => ∃ j : Nat, j ≤ n ∧ i = .int .i64 j ∧ Ints wq zb v ((rs.take j).map (colW m.L l)) ∧ Below zb w2 wq) (fun _ i _ => n - (intOf i).toNat)
      case atStart => exact ⟨0, Nat.zero_le _, rfl, World.ownsRow_nil _ _ _ _, Below.refl _ _⟩
      case round =>
        obtain ⟨j, hj, rfl, hin, hbw⟩ := hrel
        have HIN0 := Lib.hid hin
        have HBW0 : Hid (Below w2.heap.size w2 wr) := Lib.hid (by rw [HZB.out]; exact hbw)
        have hzs0 : zb ≤ wr.heap.size := by have := hbw.size; have := HZB.out; omega
        by_cases hjl : j < n
        · have d0 : decide (j < n) = true := decide_eq_true hjl
          have hkl : j < rs.length := by rw [HN.out]; exact hjl
          obtain ⟨ga, offa, hga, hgl, hca⟩ := (HA2.out.below HBW0.out) j hkl
          subst hga
          obtain ⟨x, hx⟩ : ∃ x, rs[j] = x := ⟨_, rfl⟩
          have HX := Lib.hid hx
          rw [hx] at hca
          have g0 : (0 : Int) ≤ (j : Int) := by omega
          have g1 : (j : Int) < (n : Int) := by omega
          have hlen : ((rs.take j).map (colW m.L l)).length = j := by rw [List.length_map, List.length_take]; omega
          clear hx hin hbw
          go_wp2_with fail
          obtain ⟨w5, hw5⟩ : ∃ w5, wr = w5 := ⟨_, rfl⟩
          rw [hw5] at hca hzs0 HBW0 HIN0 hgl ⊢
          clear hw5
          go_loopw [12, 13] (fun v i wq => ∃ q : Nat, q ≤ nl ∧ i = .int .i64 q ∧ v = .int .i64 (upTo m.L l x q) ∧ ∃ d, wq = w5.drewN d) (fun _ i _ => nl - (intOf i).toNat)
          case atStart => exact ⟨0, Nat.zero_le _, rfl, by rw [upTo_zero], 0, rfl⟩
          case round =>
            obtain ⟨q, hq, rfl, hv, d, rfl⟩ := hrel
            obtain ⟨xc, hxc⟩ : ∃ xc, upTo m.L l x q = xc := ⟨_, rfl⟩
            have HXC := Lib.hid hxc
            rw [hxc] at hv
            subst hv
            clear hxc
            have HBD : Hid (Below w2.heap.size w2 (w5.drewN d)) := Lib.hid (below_drewN HBW0.out d)
            have hca' : (w5.drewN d).cell? ⟨ga, offa + j, none⟩ = some (.int .i64 x) := hca
            by_cases hql : q < nl
            · have d2 : decide (q < nl) = true := decide_eq_true hql
              have hkl2 : q < l.length := by rw [HNL.out]; exact hql
              obtain ⟨gb, offb, hgb, hgl2, hcb⟩ := (HL2.out.below HBW0.out) q hkl2
              subst hgb
              obtain ⟨gc, offc, hgc, hgl3, hcc⟩ := (HN2.out.below HBW0.out) q (by rw [List.length_map]; exact hkl2)
              subst hgc
              rw [List.getElem_map] at hcc
              obtain ⟨y, hy⟩ : ∃ y, l[q] = y := ⟨_, rfl⟩
              have HY := Lib.hid hy
              rw [hy] at hcb hcc
              obtain ⟨t, ht⟩ : ∃ t, toV m.L l y = t := ⟨_, rfl⟩
              have HT := Lib.hid ht
              rw [ht] at hcc
              have g2 : (0 : Int) ≤ (q : Int) := by omega
              have g3 : (q : Int) < (nl : Int) := by omega
              clear hy ht
              by_cases e : y = x
              · have e1 : (y == x) = true := by simpa using e
                have HUP : Hid (upTo m.L l x (q + 1) = t) := Lib.hid (by rw [upTo_yes hkl2 (by rw [HY.out]; exact e), HY.out, HT.out])
                clear e
                go_wp2_with fail
                go_quiet (fail)
                go_wp2_with fail
                go_roundw
                case rel => exact ⟨q + 1, by omega, by go_num, by rw [HUP.out], _, rfl⟩
                case measure => simp [intOf]; omega
              · have e1 : (y == x) = false := by simpa using e
                have HUP : Hid (upTo m.L l x (q + 1) = xc) := Lib.hid (by rw [upTo_no hkl2 (by rw [HY.out]; exact e), HXC.out])
                clear e
                go_wp2_with fail
                go_quiet (fail)
                go_wp2_with fail
                go_roundw
                case rel => exact ⟨q + 1, by omega, by go_num, by rw [HUP.out], _, rfl⟩
                case measure => simp [intOf]; omega
            · have hqn : q = nl := by omega
              have d2 : decide (q < nl) = false := decide_eq_false hql
              have HTK : Hid ((rs.take (j + 1)).map (colW m.L l) = (rs.take j).map (colW m.L l) ++ [xc]) := Lib.hid (by
                rw [List.take_succ_eq_append_getElem hkl, List.map_append, HX.out, List.map_cons, List.map_nil, ← HXC.out, hqn, ← HNL.out, upTo_end])
              have HIN : Hid (Ints (w5.drewN d) zb u10 ((rs.take j).map (colW m.L l))) := Lib.hid (ownsRow_below HIN0.out (below_drewN (Below.refl _ _) d))
              have HBW : Hid (Below zb w2 (w5.drewN d)) := Lib.hid (HBD.out.mono (by rw [HZB.out]; exact Nat.le_refl _))
              have hzs : zb ≤ (w5.drewN d).heap.size := hzs0
              clear hql hqn
              go_wp2_with (at_builtin; refine wpList_app rfl _ _ rfl zb _ _ ((rs.take j).map (colW m.L l)) rfl (HIN.out.alloc _) rfl (fun e => by cases e) (nums_lit _ xc) rfl (by rw [hlen]; simp; omega) (by rw [World.size_alloc]; omega) ?_; intro v5 w6 hown5 hg5 _; have HO5 := Lib.hid hown5; have HBW5 : Hid (Below zb w2 w6) := Lib.hid (push_below HBW.out hzs HIN.out hg5); clear hown5 hg5)
              go_roundw
              case rel => exact ⟨j + 1, by omega, by go_num, by rw [HTK.out]; unfold Ints; rw [List.length_append]; exact HO5.out, HBW5.out⟩
              case measure => simp [intOf]; omega
        · have hjn : j = n := by omega
          have d0 : decide (j < n) = false := decide_eq_false hjl
          clear hjl hin hbw
          subst hjn
          go_wp2_with fail
          go_returns
          have hi := HIN0.out
          rw [← HN.out, List.take_length] at hi
          exact ⟨_, rfl, ownsRow_mono hi HWZ.out, HRP.out.then HBW0.out⟩
    · have HKV := Lib.hid (keepV_no hk)
      have HV : Hid (collectV m rs = (m, [], 1)) := Lib.hid (by unfold collectV; rw [hall, if_pos rfl, if_neg hk])
      rw [HV.out]
      clear h hA hn hoff hall hk
      go_enter Try.func26, Try.ntmps26
      go_wp2_with (first | (go_at_call 18; (with_reducible refine (rreached_any HR.out HA.out HN.out hnl).mono ?_); intro e w1 hr1; obtain ⟨v1, rfl, hi1, hb1⟩ := hr1.at HRV.out; have HI1 := Lib.hid hi1; have HB1 := Lib.hid hb1; clear hr1 hi1 hb1; obtain ⟨LA, lc, hv1, hlc, hn1, hb1, hm1, -⟩ := HI1.out.nums; rw [HNL.out] at hv1 hlc; subst hv1; have HN1 := Lib.hid hn1; have HLB := Lib.hid hb1; clear hn1 hb1) | (go_at_call 56; (with_reducible refine (rkeep_any' (HR.out.below HB1.out) HNL.out HN1.out hlc (by omega)).mono ?_); intro e w2 hk2; obtain ⟨v2, rfl, hi2, hp2⟩ := hk2.at HKV.out; have HI2 := Lib.hid hi2; have HP2 := Lib.hid hp2; clear hk2 hi2 hp2))
      go_returns
      exact rcoll_no (HP2.out.later HB1.out)
end Go.Proofs.Ythjjanjmiinpbaa
