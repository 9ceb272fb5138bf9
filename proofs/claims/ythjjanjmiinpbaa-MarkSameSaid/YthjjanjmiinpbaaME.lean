/- Chapter 03: what is reached, as the program tells it. -/
import Derived.Test.YthjjanjmiinpbaaMB
import Derived.Test.YthjjanjmiinpbaaSO
import Derived.Deep.RegionHeld3
import Derived.Deep.RegionWith
import Derived.Deep.LoopGhost
namespace Go.Proofs.Ythjjanjmiinpbaa
open Go.ChangeShapes Go.WideShapes Go.ChangeAt Go.RowKit Go.Deep Go.Joins Go.Maps
set_option linter.unusedVariables false
set_option linter.unusedSimpArgs false
theorem any_all {L : List Ob} (rs : List Int) : rs.any (fun a => !mayV L a) = !rs.all (mayV L) := by
  induction rs with
  | nil => rfl
  | cons x r ih => simp only [List.any_cons, List.all_cons, ih, Bool.not_and]
theorem in_of_wf {x : Int} (h : (Lit.int .i64 x).wf = true) : InI x := by
  have h1 : (decide (IntKind.i64.min ≤ x) && decide (x ≤ IntKind.i64.max)) = true := h
  rw [Bool.and_eq_true, decide_eq_true_eq, decide_eq_true_eq] at h1
  have e1 : IntKind.i64.min = -9223372036854775808 := by decide
  have e2 : IntKind.i64.max = 9223372036854775807 := by decide
  unfold InI
  omega
theorem unseen_none (L : List Ob) : unseen L (fun _ => false) = L.length := by
  unfold unseen
  rw [show (fun x : Int => !(fun _ : Int => false) x) = (fun _ => true) from rfl, List.filter_eq_self.2 (fun _ _ => rfl)]
  simp [ptrs]
/-- what is told of what is reached -/
def ReachP (w : World) (m : Hp) (rs : List Int) (e : Ending) (w' : World) : Prop := ∃ v, e = .returned (.tuple #[v, .int .i64 (reachedV m rs).2]) ∧ Ints w' w.heap.size v (reachedV m rs).1 ∧ Below w.heap.size w w'
/-- the memory behind the start: the boxes and the map are laid -/
def startW (w2 : World) : World := ((w2.alloc (.map #[] 0)).alloc (.cells #[.map (some w2.heap.size)] 61)).alloc (.cells #[.slice none 0 0] 23)
theorem startW.below (w2 : World) : Below w2.heap.size w2 (startW w2) := (((Below.refl _ _).alloc (Nat.le_refl _) _).alloc (by simp) _).alloc (by simp; omega) _
theorem start_see {w2 : World} {s mb b0 : Nat} {L : List Ob} {rs : List Int} (hmb : w2.cell? ⟨mb, 0, none⟩ = some (.pointer (some ⟨s, 0, none⟩))) (hb : b0 ≤ mb) : SeeD (startW w2) L rs rs b0 (w2.heap.size + 1 + 1 + 1) s mb (w2.heap.size + 1) (w2.heap.size + 1 + 1) w2.heap.size (2 * L.length) := by
  have hlt : mb < w2.heap.size := cell_lt hmb
  refine ⟨0, _, [], ⟨?_, ?_, ⟨.slice none 0 0, ?_, World.ownsRow_nil _ _ _ _⟩, ?_, by omega, by omega, by omega, by simp [startW]⟩, DF.start, ?_, ?_⟩
  · exact ((startW.below w2).cell hlt).trans hmb
  · have := heap_alloc_new (w2.alloc (.map #[] 0)) (.cells #[.map (some w2.heap.size)] 61)
    rw [World.size_alloc] at this
    exact (Below.heap_alloc _ _ _ (by simp)).trans this
  · have := heap_alloc_new ((w2.alloc (.map #[] 0)).alloc (.cells #[.map (some w2.heap.size)] 61)) (.cells #[.slice none 0 0] 23)
    rw [World.size_alloc, World.size_alloc] at this
    exact this
  · refine (SeenMap.made w2).same ?_
    exact (Below.heap_alloc _ _ _ (by simp; omega)).trans (Below.heap_alloc _ _ _ (by simp))
  · have : unseen L (fun _ => false) = L.length := unseen_none L
    omega
  · have : unseen L (fun _ => false) = L.length := unseen_none L
    simp [this]
theorem SeeW.empty {W : World} {b0 g0 s mb sb wb gm n : Nat} {seen : Int → Bool} (h : SeeW W b0 g0 s mb sb wb gm n seen []) : ∃ A c, W.cell? ⟨wb, 0, none⟩ = some (.slice A 0 c) := by
  obtain ⟨v, h2, h3⟩ := h.c2
  rcases h3.2 with ⟨rfl, _⟩ | ⟨g, cap, cur, rfl, _⟩
  · exact ⟨none, 0, by simp [World.cell?, h2]⟩
  · exact ⟨some ⟨g, 0, none⟩, cap, by simp [World.cell?, h2]⟩
theorem SeeW.pop {W : World} {b0 g0 s mb sb wb gm n : Nat} {seen : Int → Bool} {ws : List Int} {o : Int} (h : SeeW W b0 g0 s mb sb wb gm n seen (ws ++ [o])) : ∃ g cap, W.heap[wb]? = some (.cells #[.slice (some ⟨g, 0, none⟩) (ws.length + 1) cap] 23 (0, 0)) ∧ ws.length + 1 ≤ cap ∧ W.cell? ⟨g, ws.length, none⟩ = some (.int .i64 o) ∧
    SeeW (W.setCell ⟨wb, 0, none⟩ (.slice (some ⟨g, 0, none⟩) ws.length cap)) b0 g0 s mb sb wb gm n seen ws := by
  obtain ⟨v, h2, h3⟩ := h.c2
  have h3' := h3
  rw [List.length_append, List.length_singleton] at h3
  rcases h3.2 with ⟨_, h0⟩ | ⟨g, cap, cur, rfl, hg, hh, h1, _⟩
  · omega
  · have hcell := World.ownsRow.cellAt h3 ws.length (by omega)
    rw [List.map_append, List.getElem?_append_right (by simp), List.length_map, Nat.sub_self] at hcell
    have hne := h.ne
    have hhi := h.hi
    refine ⟨g, cap, h2, h1, hcell, ?_, ?_, ⟨.slice (some ⟨g, 0, none⟩) ws.length cap, ?_, ?_⟩, ?_, h.lo, h.hi, h.ne, by simpa using h.le⟩
    · have c0 := h.c0
      unfold World.cell? at c0 ⊢
      rw [Below.heap_setCell _ _ _ _ (fun e => hne.1 e.symm)]; exact c0
    · rw [Below.heap_setCell _ _ _ _ (fun e => hne.2.1 e.symm)]; exact h.c1
    · have := heap_setCell_same W wb 0 #[.slice (some ⟨g, 0, none⟩) (ws.length + 1) cap] 23 (.slice (some ⟨g, 0, none⟩) ws.length cap) h2
      simpa using this
    · rw [List.map_append] at h3
      have := ownsRow_pop (by simp) h3
      exact ownsRow_same this (by simp) (fun k hk => Below.heap_setCell _ _ _ _ (fun e : k = wb => by have := (World.ownsRow.lt this k hk).1; omega))
    · exact h.mp.same (Below.heap_setCell _ _ _ _ hne.2.2.2.2)
set_option maxRecDepth 100000 in
set_option maxHeartbeats 16000000 in
theorem reached_any {w : World} {s bw bm : Nat} {m : Hp} (h : PM w s bw bm m) {A : Option Addr} {rs : List Int} {n c : Nat} (hA : Nums w A rs) (hn : rs.length = n) (hrI : ∀ x, x ∈ rs → InI x) (hnl : n ≤ 1000000) :
    Calls Try.prog 14 #[.pointer (some ⟨s, 0, none⟩), .slice A n c] w (ReachP w m rs) := by
  obtain ⟨i0, hi, hz0, hz1, hz2⟩ := info_parts infoI
  obtain ⟨w1, hw1⟩ : ∃ w1, w.alloc (.cells #[.pointer (some ⟨s, 0, none⟩)] 24) = w1 := ⟨_, rfl⟩
  have hb1 : Below w.heap.size w w1 := by rw [← hw1]; exact (Below.refl _ _).alloc (Nat.le_refl _) _
  have hbx : w1.heap[w.heap.size]? = some (.cells #[.pointer (some ⟨s, 0, none⟩)] 24 (0, 0)) := by rw [← hw1]; exact heap_alloc_new w _
  have hmb : w1.cell? ⟨w.heap.size, 0, none⟩ = some (.pointer (some ⟨s, 0, none⟩)) := by simp [World.cell?, hbx]
  have HP := Lib.hid h
  have HA := Lib.hid hA
  have HN := Lib.hid hn
  have HRI := Lib.hid hrI
  have HB02 : Hid (∀ {n2 : Nat} {w2 : World}, w2 = w1.drewN n2 → Below w.heap.size w w2) := Lib.hid (fun e => by rw [e]; exact below_drewN hb1 _)
  have HMB := Lib.hid hmb
  obtain ⟨bb, hbb⟩ : ∃ bb, rs.any (fun a => !mayV m.L a) = bb := ⟨_, rfl⟩
  have HB := Lib.hid hbb
  have HC : Hid (Calls Try.prog 38 #[.slice A n c, .func (.func 39) #[] #[.pointer (some ⟨w.heap.size, 0, none⟩)]] w1 fun e w' => e = .returned (.bool bb) ∧ ∃ k, w' = w1.drewN k) := Lib.hid (by have := contains_may1 (c := c) (may1_tells (h.below hb1) w.heap.size hmb) (hA.below hb1) hn (by omega); rw [hbb] at this; exact this)
  cases bb
  · have HV : Hid (reachedV m rs = (reachL m.L rs, 0)) := Lib.hid (by
      have : rs.all (mayV m.L) = true := by rw [any_all] at hbb; simpa using hbb
      unfold reachedV; rw [this]; rfl)
    unfold ReachP
    rw [HV.out]
    clear hbb hb1 hbx hA hn hrI h hmb
    have hmm := @run_makeMap Try.prog
    subst hw1
    go_enter Try.func14, Try.ntmps14
    go_wp2_with fail
    go_step3
    go_upto_region 6 with (go_at_call 38; (with_reducible refine (HC.out).mono ?_); rintro e w2 ⟨rfl, n2, hw2⟩; have HB2 : Hid (Below w.heap.size w w2) := Lib.hid (HB02.out hw2); have hmb2 : w2.cell? ⟨w.heap.size, 0, none⟩ = some (.pointer (some ⟨s, 0, none⟩)) := (by rw [hw2]; exact HMB.out); clear hw2)
    change Code.wp _ _ _ _ (startW w2)
    have hsd0 : SeeD (startW w2) m.L rs rs w.heap.size (w2.heap.size + 1 + 1 + 1) s w.heap.size (w2.heap.size + 1) (w2.heap.size + 1 + 1) w2.heap.size (2 * m.L.length) := start_see hmb2 (Nat.le_refl _)
    have hb5 : Below w.heap.size w (startW w2) := HB2.out.trans ((startW.below w2).mono HB2.out.size)
    obtain ⟨gm, hgm⟩ : ∃ gm, w2.heap.size = gm := ⟨_, rfl⟩
    have hgm0 : w.heap.size < gm := by rw [← hgm]; exact cell_lt hmb2
    obtain ⟨w5, hw5⟩ : ∃ w5, startW w2 = w5 := ⟨_, rfl⟩
    rw [hgm] at hsd0 ⊢
    rw [hw5] at hsd0 hb5 ⊢
    have HGM := Lib.hid hgm0
    have HSD0 := Lib.hid hsd0
    have HB5 := Lib.hid hb5
    clear hgm hgm0 hsd0 hb5 hw5 hmb2 HB2 HB02 HMB HC hmm
    go_wp2_with fail
    go_loopw [28] (fun i wr => ∃ k : Nat, k ≤ n ∧ i = .int .i64 k ∧ SeeD wr m.L rs (rs.drop k) w.heap.size (gm + 1 + 1 + 1) s w.heap.size (gm + 1) (gm + 1 + 1) gm (2 * m.L.length) ∧ Below w.heap.size w wr) (fun i _ => n - (intOf i).toNat)
    case atStart => exact ⟨0, Nat.zero_le _, rfl, HSD0.out, HB5.out⟩
    case round =>
      obtain ⟨k, hk, rfl, hsd, hbw⟩ := hrel
      have HBW := Lib.hid hbw
      by_cases hlt : k < n
      · have d0 : decide (k < n) = true := decide_eq_true hlt
        have hkl : k < rs.length := by rw [HN.out]; exact hlt
        obtain ⟨ga, offa, rfl, hgl, hca⟩ := (HA.out.below HBW.out) k hkl
        obtain ⟨x, hx⟩ : ∃ x, rs[k] = x := ⟨_, rfl⟩
        have HXI : Hid (InI x) := Lib.hid (by rw [← hx]; exact HRI.out _ (List.getElem_mem hkl))
        have HSD : Hid (SeeD wr m.L rs (x :: rs.drop (k + 1)) w.heap.size (gm + 1 + 1 + 1) s w.heap.size (gm + 1) (gm + 1 + 1) gm (2 * m.L.length)) := Lib.hid (by rw [← hx, ← List.drop_eq_getElem_cons hkl]; exact hsd)
        rw [hx] at hca
        have g0 : (0 : Int) ≤ (k : Int) := by omega
        have g1 : (k : Int) < (n : Int) := by omega
        clear hx hsd hbw HSD0 HB5
        go_wp2_with (go_at_call 41; (with_reducible refine (see_any (HP.out.below HBW.out) HSD.out HXI.out).mono ?_); rintro e w6 ⟨rfl, hs6, hb6⟩; have HS6 := Lib.hid hs6; have HB6 := Lib.hid hb6; clear hs6 hb6)
        go_roundw
        case rel => exact ⟨k + 1, by omega, by go_num, HS6.out, HBW.out.trans HB6.out⟩
        case measure => simp [intOf]; omega
      · have hkn : k = n := by omega
        have d0 : decide (k < n) = false := decide_eq_false hlt
        clear hlt
        subst hkn
        have HSD : Hid (SeeD wr m.L rs [] w.heap.size (gm + 1 + 1 + 1) s w.heap.size (gm + 1) (gm + 1 + 1) gm (2 * m.L.length)) := Lib.hid (by rw [← HN.out, List.drop_length] at hsd; exact hsd)
        clear hsd hbw HSD0 HB5
        go_wp2_with fail
        go_step3
        go_wp2_with fail
        go_loopg [] (2 * m.L.length) (fun g wr => SeeD wr m.L rs [] w.heap.size (gm + 1 + 1 + 1) s w.heap.size (gm + 1) (gm + 1 + 1) gm g ∧ Below w.heap.size w wr)
        case atStart => exact ⟨HSD.out, HBW.out⟩
        case round =>
          obtain ⟨⟨n0, seen, waits, hS, hD, hnn, hmu⟩, hbw⟩ := hrel
          have HBW := Lib.hid hbw
          rcases List.eq_nil_or_concat waits with hwt | ⟨ws, o, hwt⟩
          · subst hwt
            obtain ⟨A', c', d2⟩ := hS.empty
            have hc1 : wr.cell? ⟨gm + 1, 0, none⟩ = some (.map (some gm)) := by simp [World.cell?, hS.c1]
            obtain ⟨DD, hDD, -, hDf⟩ := hS.mp
            have HDF := Lib.hid hDf
            have HFIN : Hid (∀ x, seen x = true ↔ Rch m.L rs x) := Lib.hid hD.fin
            have HBW := Lib.hid hbw
            have HWN := Lib.hid hDD
            have hlg : gm < wr.heap.size := hS.mp.lt
            have HLG := Lib.hid hlg
            have HVL : Hid (∀ x, seen x = true → isV m.L x = true) := Lib.hid (fun x hx => ((HFIN.out x).1 hx).valid)
            have hn0 : n0 ≤ 1000000 := by have := len_bd HP.out.good; omega
            clear hS hD hnn hmu hbw HSD hDf hDD hlg
            go_wp2_with (at_range; refine wpList_range_own _ rfl _ 61 rfl 3 4 keyedI Try.underlying61 _ gm n0 DD rfl HWN.out ?_; intro w13 hrg hg13 hs13; have HRG := Lib.hid hrg; have HG13 := Lib.hid hg13; clear hrg hg13 hs13)
            go_frame
            obtain ⟨rz, hrz⟩ : ∃ rz, wr.heap.size = rz := ⟨_, rfl⟩
            have HB13 : Hid (Below w.heap.size w w13) := Lib.hid (HBW.out.grown HG13.out (by have := HBW.out.size; omega) (fun j hj => by cases hj))
            have HG13S : Hid (rz ≤ w13.heap.size) := Lib.hid (by rw [← hrz]; exact HG13.out.size)
            have HRG' : Hid (w13.ranges Try.prog 3 (plainElem Try.prog 4) gm rz n0 DD (Maps.has DD) (Maps.size DD)) := Lib.hid (by rw [← hrz]; exact HRG.out)
            have HLG' : Hid (gm < rz ∧ w.heap.size ≤ rz) := Lib.hid ⟨by rw [← hrz]; exact HLG.out, by rw [← hrz]; exact HBW.out.size⟩
            rw [hrz]
            clear hrz HRG HLG HG13
            go_loopw [15] (fun v wq => ∃ left cnt ks, wq.ranges Try.prog 3 (plainElem Try.prog 4) gm rz n0 DD left cnt ∧ Ints wq rz v ks ∧ CollI DD left ks ∧ Below w.heap.size w wq ∧ rz ≤ wq.heap.size) (fun _ wq => wq.rangeLeft gm rz)
            case atStart => exact ⟨_, _, [], HRG'.out, World.ownsRow_nil _ _ _ _, CollI.start DD, HB13.out, HG13S.out⟩
            case round =>
              obtain ⟨left, cnt, ks, hrg, hin, hco, hbq, hsq⟩ := hrel
              have HRG := Lib.hid hrg
              have HIN := Lib.hid hin
              have HCO := Lib.hid hco
              have HBQ := Lib.hid hbq
              have HSQ := Lib.hid hsq
              have HKL : Hid (ks.length ≤ 1000000) := Lib.hid (by
                have := len_nodup (L := m.L) hco.1 (fun x hx => HVL.out x (by rw [← HDF.out x (hco.2.1 x hx)]; exact ((hco.2.2 x (hco.2.1 x hx)).1 hx).1))
                have := len_bd HP.out.good
                show _ ≤ _
                omega)
              have hkl : ks.length ≤ 1000000 := HKL.out
              clear hrg hin hco hbq hsq HRG' HB13 HG13S
              go_wp2_with (at_next; refine wpList_next_ranges _ rfl _ rfl 3 keyedI (plainElem Try.prog 4) (Value.int .i64) (fun c : Value => c) (fun key kl hk => by obtain ⟨x, hx, _⟩ := Maps.keyOf_int_inv Try.underlying3 hk; exact ⟨x, hx⟩) (fun v y _ => ⟨v, rfl⟩) gm rz n0 _ _ _ rfl HRG.out ?_ ?_)
              · intro hc0 hl0
                have HL0 := Lib.hid hl0
                clear hl0 hc0
                go_wp2_with (go_at_call 42; (with_reducible refine (sort_any HIN.out HKL.out).mono ?_); rintro e w15 ⟨rfl, hi15, hb15⟩; have HI15 := Lib.hid hi15; have HB15 := Lib.hid hb15; clear hi15 hb15)
                rw [Exit.noGoto_ret]
                go_returns
                have hperm := HCO.out.fin HL0.out HDF.out HFIN.out (fun x hx => isV_InI HP.out.good hx)
                have hs := sort_rising hperm reach_rise
                refine ⟨_, rfl, ?_, HBQ.out.trans (HB15.out.mono HLG'.out.2)⟩
                have := HI15.out
                rw [hs] at this
                exact ownsRow_mono this HLG'.out.2
              · intro x c0 kl yd yp w14 cnt2 hkey hlk hv hat hrg2 hlt hg2 hs2 hen
                obtain ⟨x', ex, rfl, hwx⟩ := Maps.keyOf_int_inv Try.underlying3 hkey
                cases ex
                have HIN2 : Hid (Ints w14 rz u15 ks) := Lib.hid (HIN.out.kept hg2 (Or.inr (row_ne_iter HIN.out HRG.out).symm))
                have HLK := Lib.hid hlk
                have HWX := Lib.hid hwx
                have HAT := Lib.hid hat
                have HRG2 := Lib.hid hrg2
                have HLT := Lib.hid hlt
                have HG2 := Lib.hid hg2
                have HS2 := Lib.hid hs2
                clear hkey hlk hv hat hrg2 hlt hg2 hs2 hwx
                go_wp2_with (at_builtin; refine wpList_append_own _ rfl _ _ 23 rfl rz 3 i0 (.int .i64 0) 1 8 Try.underlying23 hi hz0 hz1 hz2 rfl (by decide) _ _ _ rfl (HIN2.out.alloc _) ⟨w14.heap.size, 0, none⟩ 1 1 [.int .i64 x] rfl rfl (cells_newN _ _ _ _ (by simp)) (by simp [Value.oneCell']) (by unfold maxLen; omega) (by omega) (by have := HSQ.out; have := HS2.out; simp only [World.size_alloc]; omega) ?_; intro v2 w16 hown hg16 _; have HOWN := Lib.hid hown; have HG16 : Hid ((w14.alloc (.cells #[.int .i64 x] 3)).grownBy w16 u15.ownBlock) := Lib.hid hg16; clear hown hg16)
                have HRG3 : Hid (w16.ranges Try.prog 3 (plainElem Try.prog 4) gm rz n0 DD (fun z => left z && !z.sameKey (.int .i64 x)) cnt2) := Lib.hid ((HRG2.out.alloc _).kept HG16.out (row_ne_low HIN2.out HLG'.out.1) (row_ne_iter HIN2.out HRG2.out))
                have HS16 : Hid (w14.heap.size + 1 ≤ w16.heap.size) := Lib.hid (by have := HG16.out.size; rw [World.size_alloc] at this; exact this)
                go_roundw
                case rel =>
                  refine ⟨_, cnt2, ks ++ [x], HRG3.out, ?_, HCO.out.step (by have := HWX.out; exact in_of_wf this) HLK.out HAT.out, ?_, by have := HSQ.out; have := HS2.out; have := HS16.out; omega⟩
                  · unfold Ints
                    rw [List.length_append, List.map_append]
                    exact HOWN.out
                  · have z1 := HSQ.out
                    have z2 := HS2.out
                    have z3 := HLG'.out
                    exact ((HBQ.out.grown HG2.out HBQ.out.size (fun j hj => by cases hj; exact z3.2)).alloc (by omega) _).grown HG16.out (by rw [World.size_alloc]; omega) (fun j hj => Nat.le_trans z3.2 (World.ownsRow.lt HIN2.out j hj).1)
                case measure => rw [HRG3.out.left_eq, HRG.out.left_eq]; exact HLT.out
          · rw [List.concat_eq_append] at hwt
            subst hwt
            obtain ⟨g, cap, hwb, hcap, hct, hS'⟩ := hS.pop
            have hD' := hD.pop
            have hoR : Rch m.L rs o := hD.snd o (hD.sub o (by simp))
            obtain ⟨wc, hwc⟩ : ∃ wc, wr.setCell ⟨gm + 1 + 1, 0, none⟩ (.slice (some ⟨g, 0, none⟩) ws.length cap) = wc := ⟨_, rfl⟩
            have HWC := Lib.hid hwc
            rw [hwc] at hS'
            have hkd : SeeD wc m.L rs (kids m.L o) w.heap.size (gm + 1 + 1 + 1) s w.heap.size (gm + 1) (gm + 1 + 1) gm (gk - 1) := ⟨n0, seen, ws, hS', hD', hnn, by rw [List.length_append, List.length_singleton] at hmu; omega⟩
            have hbc : Below w.heap.size w wc := by rw [← hwc]; exact hbw.setCell (show w.heap.size ≤ gm + 1 + 1 by have := HGM.out; omega) _
            have HGK : Hid (1 ≤ gk) := Lib.hid (by rw [List.length_append, List.length_singleton] at hmu; omega)
            have mc := hkd.c0
            obtain ⟨iO, hiO, -, -, -, hlk⟩ := atN_yes hoR.valid
            obtain ⟨ob, hob⟩ : ∃ ob, lookO m.L o = ob := ⟨_, rfl⟩
            have HOB := Lib.hid hob
            have HMO : Hid (ob ∈ m.L) := Lib.hid (by rw [← hob, hlk]; exact List.getElem_mem hiO)
            have HWI : Hid (∀ x, x ∈ wordsO ob → InI x) := Lib.hid (words_InI HP.out.good HMO.out)
            obtain ⟨cl, fm, hh, F⟩ := ob
            have HKD : Hid (SeeD wc m.L rs (cl :: (if fm = 0 then F else [])) w.heap.size (gm + 1 + 1 + 1) s w.heap.size (gm + 1) (gm + 1 + 1) gm (gk - 1)) := Lib.hid (by have q := hkd; unfold kids at q; rw [hob] at q; exact q)
            have HBC := Lib.hid hbc
            have HCI : Hid (InI cl) := Lib.hid (HWI.out cl (by unfold wordsO; simp))
            have HVO := Lib.hid hoR.valid
            have d2 : wr.cell? ⟨gm + 1 + 1, 0, none⟩ = some (.slice (some ⟨g, 0, none⟩) (ws.length + 1) cap) := by simp [World.cell?, hwb]
            have d3 : wr.frozen? ⟨gm + 1 + 1, 0, none⟩ = false := by simp [World.frozen?, hwb]
            have hwl : ws.length ≤ 1000000 := by have := hD'.len; have := len_bd HP.out.good; omega
            have k1 : (0 : Int) ≤ (ws.length : Int) := by omega
            have k2 : (ws.length : Int) < (ws.length : Int) + 1 := by omega
            have k3 : (ws.length : Int) ≤ (ws.length : Int) + 1 := by omega
            have k4 : ws.length ≤ cap := by omega
            clear hS hD hnn hmu hwb hS' hD' hoR hbw HSD HBW hwc hkd hbc hob hlk hiO
            go_upto_region 14 with fail
            rw [HWC.out]
            clear d2 d3 hct
            go_upto_region 15 with (first | (go_at_call 23; (with_reducible refine (class_any (HP.out.below HBC.out) o).mono ?_); rw [HOB.out]; rintro e w6 ⟨rfl, n6, hw6⟩; have HB6 : Hid (Below wc.heap.size wc w6) := Lib.hid (by rw [hw6]; exact below_drewN (Below.refl _ _) n6); clear hw6) | (go_at_call 41; (with_reducible refine (see_any (HP.out.below (HBC.out.trans (HB6.out.mono HBC.out.size))) (HKD.out.same HB6.out) HCI.out).mono ?_); rintro e w7 ⟨rfl, hs7, hb7⟩; have m7 : w7.cell? ⟨w.heap.size, 0, none⟩ = some (.pointer (some ⟨s, 0, none⟩)) := hs7.c0; have HS7 := Lib.hid hs7; have HB7 : Hid (Below w.heap.size w w7) := Lib.hid ((HBC.out.trans (HB6.out.mono HBC.out.size)).trans hb7); clear hs7 hb7))
            by_cases hfm : fm = 0
            · subst hfm
              have HF7 : Hid (SeeD w7 m.L rs (F.drop 0) w.heap.size (gm + 1 + 1 + 1) s w.heap.size (gm + 1) (gm + 1 + 1) gm (gk - 1)) := Lib.hid (by have q := HS7.out; rw [if_pos rfl] at q; exact q)
              have HFI : Hid (∀ x, x ∈ F → InI x) := Lib.hid (fun x hx => HWI.out x (by unfold wordsO; simp [hx]))
              have HFL : Hid (F.length ≤ 256) := Lib.hid (HP.out.good.len _ HMO.out)
              have hfl : F.length ≤ 256 := HFL.out
              clear HS7 HWC HKD HBC HMO HWI HCI
              go_wp2_with (first | (go_at_call 20; (with_reducible refine (format_any (HP.out.below HB7.out) o).mono ?_); rw [HOB.out]; rintro e w8 ⟨rfl, n8, hw8⟩; have HB8 : Hid (Below w7.heap.size w7 w8) := Lib.hid (by rw [hw8]; exact below_drewN (Below.refl _ _) n8); have m8 : w8.cell? ⟨w.heap.size, 0, none⟩ = some (.pointer (some ⟨s, 0, none⟩)) := (by rw [hw8]; exact m7); clear hw8) | (go_at_call 22; (with_reducible refine (fields_any (HP.out.below (HB7.out.trans (HB8.out.mono HB7.out.size))) o).mono ?_); rw [HOB.out]; rintro e w9 ⟨rfl, n9, hw9⟩; have HB9 : Hid (Below w8.heap.size w8 w9) := Lib.hid (by rw [hw9]; exact below_drewN (Below.refl _ _) n9); clear hw9))
              have HF9 : Hid (SeeD w9 m.L rs (F.drop 0) w.heap.size (gm + 1 + 1 + 1) s w.heap.size (gm + 1) (gm + 1 + 1) gm (gk - 1)) := Lib.hid ((HF7.out.same HB8.out).same HB9.out)
              have HBB9 : Hid (Below w.heap.size w w9) := Lib.hid ((HB7.out.trans (HB8.out.mono HB7.out.size)).trans (HB9.out.mono (HB7.out.trans (HB8.out.mono HB7.out.size)).size))
              clear HF7 HB7 HB8 HB9 m7 m8 mc
              go_loopw [62] (fun i wr => ∃ j : Nat, j ≤ F.length ∧ i = .int .i64 j ∧ SeeD wr m.L rs (F.drop j) w.heap.size (gm + 1 + 1 + 1) s w.heap.size (gm + 1) (gm + 1 + 1) gm (gk - 1) ∧ Below w.heap.size w wr) (fun i _ => F.length - (intOf i).toNat)
              case atStart => exact ⟨0, Nat.zero_le _, rfl, HF9.out, HBB9.out⟩
              case round =>
                obtain ⟨j, hj, rfl, hsd, hbw⟩ := hrel
                clear HF9 HBB9
                have HBW := Lib.hid hbw
                have mw := hsd.c0
                by_cases hjl : j < F.length
                · have d7 : decide (j < F.length) = true := decide_eq_true hjl
                  obtain ⟨x, hx⟩ : ∃ x, F[j] = x := ⟨_, rfl⟩
                  have HXI : Hid (InI x) := Lib.hid (by rw [← hx]; exact HFI.out _ (List.getElem_mem hjl))
                  have HSD : Hid (SeeD wr m.L rs (x :: F.drop (j + 1)) w.heap.size (gm + 1 + 1 + 1) s w.heap.size (gm + 1) (gm + 1 + 1) gm (gk - 1)) := Lib.hid (by rw [← hx, ← List.drop_eq_getElem_cons hjl]; exact hsd)
                  have HG : Hid (getV m.L o (j : Int) = (x, 0)) := Lib.hid (by
                    show _ = _
                    unfold getV
                    rw [HVO.out, if_pos rfl, HOB.out, if_neg (by show ¬ ((j : Int) < 0 ∨ (F.length : Int) ≤ (j : Int)); omega)]
                    show (F.getD (j : Int).toNat 0, _) = _
                    rw [Int.toNat_natCast, List.getD_eq_getElem?_getD, List.getElem?_eq_getElem hjl, Option.getD_some, hx])
                  have HJI : Hid (InI (j : Int)) := Lib.hid (by show InI _; unfold InI; omega)
                  have g0 : (0 : Int) ≤ (j : Int) := by omega
                  clear hx hsd hbw
                  go_wp2_with (first | (go_at_call 24; (with_reducible refine (get_any (HP.out.below HBW.out) o (j : Int) HJI.out).mono ?_); rw [HG.out]; rintro e w11 ⟨rfl, n11, hw11⟩; have HB11 : Hid (Below wr.heap.size wr w11) := Lib.hid (by rw [hw11]; exact below_drewN (Below.refl _ _) n11); clear hw11) | (go_at_call 41; (with_reducible refine (see_any (HP.out.below (HBW.out.trans (HB11.out.mono HBW.out.size))) (HSD.out.same HB11.out) HXI.out).mono ?_); rintro e w12 ⟨rfl, hs12, hb12⟩; have HS12 := Lib.hid hs12; have HB12 : Hid (Below w.heap.size w w12) := Lib.hid ((HBW.out.trans (HB11.out.mono HBW.out.size)).trans hb12); clear hs12 hb12))
                  go_roundw
                  case rel => exact ⟨j + 1, by omega, by go_num, HS12.out, HB12.out⟩
                  case measure => simp [intOf]; omega
                · have hjn : j = F.length := by omega
                  have d7 : decide (j < F.length) = false := decide_eq_false hjl
                  have HSD : Hid (SeeD wr m.L rs [] w.heap.size (gm + 1 + 1 + 1) s w.heap.size (gm + 1) (gm + 1 + 1) gm (gk - 1)) := Lib.hid (by rw [hjn, List.drop_length] at hsd; exact hsd)
                  clear hsd hbw hjn
                  go_wp2_with fail
                  go_roundg (gk - 1)
                  case measure => have := HGK.out; omega
                  case rel => exact ⟨HSD.out, HBW.out⟩
            · have d5 : (fm == 0) = false := by simpa using hfm
              have HF7 : Hid (SeeD w7 m.L rs [] w.heap.size (gm + 1 + 1 + 1) s w.heap.size (gm + 1) (gm + 1 + 1) gm (gk - 1)) := Lib.hid (by have q := HS7.out; rw [if_neg hfm] at q; exact q)
              clear HS7 hfm HWC HKD HBC
              go_wp2_with (go_at_call 20; (with_reducible refine (format_any (HP.out.below HB7.out) o).mono ?_); rw [HOB.out]; rintro e w8 ⟨rfl, n8, hw8⟩; have HB8 : Hid (Below w7.heap.size w7 w8) := Lib.hid (by rw [hw8]; exact below_drewN (Below.refl _ _) n8); have m8 : w8.cell? ⟨w.heap.size, 0, none⟩ = some (.pointer (some ⟨s, 0, none⟩)) := (by rw [hw8]; exact m7); clear hw8)
              go_roundg (gk - 1)
              case measure => have := HGK.out; omega
              case rel => exact ⟨HF7.out.same HB8.out, HB7.out.trans (HB8.out.mono HB7.out.size)⟩
  · have HV : Hid (reachedV m rs = ([], 1)) := Lib.hid (by
      have : rs.all (mayV m.L) = false := by rw [any_all] at hbb; simpa using hbb
      unfold reachedV; rw [this]; rfl)
    unfold ReachP
    rw [HV.out]
    clear hbb hb1 hbx hA hn hrI h hmb
    subst hw1
    go_enter Try.func14, Try.ntmps14
    go_wp2_with fail
    go_step3
    go_wp2_with (go_at_call 38; (with_reducible refine (HC.out).mono ?_); rintro e w2 ⟨rfl, n2, hw2⟩; have HB2 : Hid (Below w.heap.size w w2) := Lib.hid (HB02.out hw2); have hmb2 : w2.cell? ⟨w.heap.size, 0, none⟩ = some (.pointer (some ⟨s, 0, none⟩)) := (by rw [hw2]; exact HMB.out); clear hw2)
    rw [Exit.noGoto_ret]
    go_returns
    exact ⟨_, rfl, World.ownsRow_nil _ _ _ _, HB2.out⟩
end Go.Proofs.Ythjjanjmiinpbaa
