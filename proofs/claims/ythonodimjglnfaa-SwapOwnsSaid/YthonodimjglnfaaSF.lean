/- Chapter 04: what the reference's Both and One come to. -/
import Derived.Test.YthonodimjglnfaaSE
import Derived.Deep.RegionLaw
import Derived.BigQuiet
namespace Go.Proofs.Ythonodimjglnfaa
open Go.ChangeShapes Go.WideShapes Go.ChangeAt Go.RowKit Go.Deep Go.Joins Go.Maps
set_option linter.unusedVariables false
set_option linter.unusedSimpArgs false
theorem plc_yes {L : List Ob} {x : Int} (h : isV L x = true) : decide (plcV L x < 0) = false := decide_eq_false (fun q => by rw [plcV_neg.1 q] at h; cases h)
theorem plc_no {L : List Ob} {x : Int} (h : isV L x = false) : decide (plcV L x < 0) = true := decide_eq_true (plcV_neg.2 h)
theorem plc_in {m : Hp} (hg : Good m) (x : Int) : -1 ≤ plcV m.L x ∧ plcV m.L x ≤ 131072 := by
  have := len_bd hg
  unfold plcV
  cases hp : plc m.L x with
  | none => exact ⟨Int.le_refl _, by decide⟩
  | some i => have := (plc_some hp).1; dsimp only; omega
theorem find_in (l : List Int) (x : Int) : findV l x < (l.length : Int) + 1 ∧ -1 ≤ findV l x := by
  unfold findV
  cases hf : findN l x with
  | none => dsimp only; omega
  | some k => have := (findN_some hf).1; dsimp only; omega
/-- a slice's beginning -/
theorem Off.take {w : World} {T : Nat → Prop} {A : Option Addr} {n c : Nat} {l : List Int} (h : Off w T A n c l) {k : Nat} (hk : k ≤ n) : Off w T A k c (l.take k) := ⟨by rw [List.length_take, h.len]; omega, Nat.le_trans hk h.le, h.cap, fun i hi => by
  have hi' : i < l.length := by rw [List.length_take] at hi; omega
  obtain ⟨b, off, e, h1, h2⟩ := h.nums i hi'
  exact ⟨b, off, e, h1, by rw [h2, List.getElem_take]⟩, fun x hx => h.int x (List.mem_of_mem_take hx), h.off⟩
theorem Off.own {w w' : World} {T : Nat → Prop} {v : Value} {n : Nat} {l : List Int} (h : w'.ownsRow w.heap.size 3 1 v n (l.map (Value.int .i64))) (hI : ∀ x, x ∈ l → InI x) (hT : ∀ k, T k → k < w.heap.size) : ∃ C cc, v = .slice C n cc ∧ Off w' T C n cc l := by
  have hn : l.length = n := by have := h.1; simpa using this
  have hi : Ints w' w.heap.size v l := by unfold Ints; rw [hn]; exact h
  obtain ⟨C, cc, rfl, hc, hn', hl, hm, _⟩ := hi.nums
  rw [hn] at hc ⊢
  exact ⟨C, cc, rfl, hn, hc, hm, hn', hI, fun bb off e t => by have := (hl bb off e).1; have := hT bb t; omega⟩
set_option maxRecDepth 100000 in
set_option maxHeartbeats 16000000 in
theorem rboth_any {w : World} {R : Nat → Prop} {r : Nat} {m : Hp} {lv : Value} {fv : Nat → Value} (h : RM w R r m lv fv) {A B E : Option Addr} {a b rs : List Int} {na nb nr ca cb ce : Nat} (hA : Off w R A na ca a) (hB : Off w R B nb cb b) (hR : Off w R E nr ce rs) (fA : Fm A na ca) (fB : Fm B nb cb) (ba : na ≤ 1000000) (bb : nb ≤ 1000000) (br : nr ≤ 1000000) :
    Calls Try.prog 26 #[.pointer (some ⟨r, 0, none⟩), .slice A na ca, .slice B nb cb, .slice E nr ce] w (RwPost w R r (bothV m a b rs)) := by
  obtain ⟨i0, hi, hz0, hz1, hz2⟩ := info_parts infoI
  have HM := Lib.hid h
  have HA := Lib.hid hA
  have HB := Lib.hid hB
  have HR := Lib.hid hR
  have HFA := Lib.hid fA
  have HFB := Lib.hid fB
  clear h hA hB hR fA fB
  by_cases e1 : na = nb
  · subst e1
    by_cases e2 : na ≤ 64
    · have d2 : decide (64 < na) = false := decide_eq_false (by omega)
      have d3 : decide ((64 : Int) < (na : Int)) = false := decide_eq_false (by omega)
      have N0 : Hid (w.ownsRow w.heap.size 3 1 (.slice none 0 0) 0 [] ∧ Below w.heap.size w w) := Lib.hid ⟨World.ownsRow_nil _ _ _ _, Below.refl _ _⟩
      go_enter Try.func26, Try.ntmps26
      go_upto_region 5 with fail
      go_cut [10] (fun v wx => ∃ v0, v0 = v ∧ wx.ownsRow w.heap.size 3 1 v0 na (a.map (Value.int .i64)) ∧ Below w.heap.size w wx)
      case first =>
        rcases HFA.out with ⟨hA0, hl0, hc0⟩ | hp
        · subst hA0
          obtain rfl : ca = 0 := hc0
          obtain rfl : na = 0 := hl0
          have hnil0 : a = [] := List.length_eq_zero_iff.1 HA.out.len
          have HNIL := Lib.hid hnil0
          clear hnil0
          go_wp2_with (at_builtin; refine wpList_append_own_none rfl _ _ 28 rfl w.heap.size 3 i0 1 Try.underlying28 hi _ _ ([]) rfl N0.out.1 rfl ?_)
          go_meet
          refine ⟨_, rfl, ?_, N0.out.2⟩
          rw [HNIL.out]
          first | (simpa using N0.out.1) | exact N0.out.1
        · obtain ⟨tb, toff, e, -⟩ := HA.out.nums 0 (by rw [HA.out.len]; exact hp)
          subst e
          have hnews := news_of (HA.out.below (N0.out.2)).nums
          have hlen1 : (a.map (Value.int .i64)).length = na * 1 := by rw [List.length_map, HA.out.len, Nat.mul_one]
          have hone1 : ∀ u ∈ a.map (Value.int .i64), u.oneCell' = true := by simp [Value.oneCell']
          have hbase := N0.out.2.size
          clear hp
          go_wp2_with (at_builtin; refine wpList_append_own _ rfl _ _ 28 rfl w.heap.size 3 i0 (.int .i64 0) 1 8 Try.underlying28 hi hz0 hz1 hz2 rfl (by decide) _ 0 ([]) rfl N0.out.1 ⟨tb, toff, none⟩ na ca (a.map (.int .i64)) rfl hlen1 hnews hone1 (by unfold maxLen; omega) (by omega) hbase ?_; intro v2 w2 hown2 hg2 _)
          go_meet
          exact ⟨_, rfl, by simpa using hown2, N0.out.2.trans (below_of_append N0.out.1 hg2 hbase)⟩
      case rest =>
        obtain ⟨w1, rfl⟩ : ∃ z, z = wc := ⟨_, rfl⟩; obtain ⟨v1, hv, ho, hb⟩ := hcut; subst hv; have HC1 := Lib.hid (And.intro ho hb); clear ho hb
        go_upto_region 6 with fail
        go_cut [10] (fun v wx => ∃ v0, v0 = v ∧ wx.ownsRow w.heap.size 3 1 v0 (na + na) (a.map (Value.int .i64) ++ b.map (Value.int .i64)) ∧ Below w.heap.size w wx)
        case first =>
          rcases HFB.out with ⟨hA0, hl0, hc0⟩ | hp
          · subst hA0
            obtain rfl : cb = 0 := hc0
            obtain rfl : na = 0 := hl0
            have hnil0 : b = [] := List.length_eq_zero_iff.1 HB.out.len
            have HNIL := Lib.hid hnil0
            clear hnil0
            go_wp2_with (at_builtin; refine wpList_append_own_none rfl _ _ 28 rfl w.heap.size 3 i0 1 Try.underlying28 hi _ _ (a.map (Value.int .i64)) rfl HC1.out.1 rfl ?_)
            go_meet
            refine ⟨_, rfl, ?_, HC1.out.2⟩
            rw [HNIL.out]
            first | (simpa using HC1.out.1) | exact HC1.out.1
          · obtain ⟨tb, toff, e, -⟩ := HB.out.nums 0 (by rw [HB.out.len]; exact hp)
            subst e
            have hnews := news_of (HB.out.below (HC1.out.2)).nums
            have hlen1 : (b.map (Value.int .i64)).length = na * 1 := by rw [List.length_map, HB.out.len, Nat.mul_one]
            have hone1 : ∀ u ∈ b.map (Value.int .i64), u.oneCell' = true := by simp [Value.oneCell']
            have hbase := HC1.out.2.size
            clear hp
            go_wp2_with (at_builtin; refine wpList_append_own _ rfl _ _ 28 rfl w.heap.size 3 i0 (.int .i64 0) 1 8 Try.underlying28 hi hz0 hz1 hz2 rfl (by decide) _ na (a.map (Value.int .i64)) rfl HC1.out.1 ⟨tb, toff, none⟩ na cb (b.map (.int .i64)) rfl hlen1 hnews hone1 (by unfold maxLen; omega) (by omega) hbase ?_; intro v2 w2 hown2 hg2 _)
            go_meet
            exact ⟨_, rfl, by exact hown2, HC1.out.2.trans (below_of_append HC1.out.1 hg2 hbase)⟩
        case rest =>
          obtain ⟨w2, rfl⟩ : ∃ z, z = wc := ⟨_, rfl⟩; obtain ⟨v2, hv, ho, hb⟩ := hcut; subst hv; have HC2 := Lib.hid (And.intro ho hb); clear ho hb
          go_upto_region 7 with fail
          have N2 : Hid (w2.ownsRow w2.heap.size 3 1 (.slice none 0 0) 0 [] ∧ Below w2.heap.size w2 w2) := Lib.hid ⟨World.ownsRow_nil _ _ _ _, Below.refl _ _⟩
          go_cut [11] (fun v wx => ∃ v0, v0 = v ∧ wx.ownsRow w2.heap.size 3 1 v0 na (b.map (Value.int .i64)) ∧ Below w2.heap.size w2 wx)
          case first =>
            rcases HFB.out with ⟨hA0, hl0, hc0⟩ | hp
            · subst hA0
              obtain rfl : cb = 0 := hc0
              obtain rfl : na = 0 := hl0
              have hnil0 : b = [] := List.length_eq_zero_iff.1 HB.out.len
              have HNIL := Lib.hid hnil0
              clear hnil0
              go_wp2_with (at_builtin; refine wpList_append_own_none rfl _ _ 28 rfl w2.heap.size 3 i0 1 Try.underlying28 hi _ _ ([]) rfl N2.out.1 rfl ?_)
              go_meet
              refine ⟨_, rfl, ?_, N2.out.2⟩
              rw [HNIL.out]
              first | (simpa using N2.out.1) | exact N2.out.1
            · obtain ⟨tb, toff, e, -⟩ := HB.out.nums 0 (by rw [HB.out.len]; exact hp)
              subst e
              have hnews := news_of (HB.out.below (HC2.out.2)).nums
              have hlen1 : (b.map (Value.int .i64)).length = na * 1 := by rw [List.length_map, HB.out.len, Nat.mul_one]
              have hone1 : ∀ u ∈ b.map (Value.int .i64), u.oneCell' = true := by simp [Value.oneCell']
              have hbase := N2.out.2.size
              clear hp
              go_wp2_with (at_builtin; refine wpList_append_own _ rfl _ _ 28 rfl w2.heap.size 3 i0 (.int .i64 0) 1 8 Try.underlying28 hi hz0 hz1 hz2 rfl (by decide) _ 0 ([]) rfl N2.out.1 ⟨tb, toff, none⟩ na cb (b.map (.int .i64)) rfl hlen1 hnews hone1 (by unfold maxLen; omega) (by omega) hbase ?_; intro v2 w2 hown2 hg2 _)
              go_meet
              exact ⟨_, rfl, by simpa using hown2, N2.out.2.trans (below_of_append N2.out.1 hg2 hbase)⟩
          case rest =>
            obtain ⟨w3, rfl⟩ : ∃ z, z = wc := ⟨_, rfl⟩; obtain ⟨v3, hv, ho, hb⟩ := hcut; subst hv; have HC3 := Lib.hid (And.intro ho hb); clear ho hb
            go_upto_region 8 with fail
            go_cut [11] (fun v wx => ∃ v0, v0 = v ∧ wx.ownsRow w2.heap.size 3 1 v0 (na + na) (b.map (Value.int .i64) ++ a.map (Value.int .i64)) ∧ Below w2.heap.size w2 wx)
            case first =>
              rcases HFA.out with ⟨hA0, hl0, hc0⟩ | hp
              · subst hA0
                obtain rfl : ca = 0 := hc0
                obtain rfl : na = 0 := hl0
                have hnil0 : a = [] := List.length_eq_zero_iff.1 HA.out.len
                have HNIL := Lib.hid hnil0
                clear hnil0
                go_wp2_with (at_builtin; refine wpList_append_own_none rfl _ _ 28 rfl w2.heap.size 3 i0 1 Try.underlying28 hi _ _ (b.map (Value.int .i64)) rfl HC3.out.1 rfl ?_)
                go_meet
                refine ⟨_, rfl, ?_, HC3.out.2⟩
                rw [HNIL.out]
                first | (simpa using HC3.out.1) | exact HC3.out.1
              · obtain ⟨tb, toff, e, -⟩ := HA.out.nums 0 (by rw [HA.out.len]; exact hp)
                subst e
                have hnews := news_of (HA.out.below (HC2.out.2.trans (HC3.out.2.mono HC2.out.2.size))).nums
                have hlen1 : (a.map (Value.int .i64)).length = na * 1 := by rw [List.length_map, HA.out.len, Nat.mul_one]
                have hone1 : ∀ u ∈ a.map (Value.int .i64), u.oneCell' = true := by simp [Value.oneCell']
                have hbase := HC3.out.2.size
                clear hp
                go_wp2_with (at_builtin; refine wpList_append_own _ rfl _ _ 28 rfl w2.heap.size 3 i0 (.int .i64 0) 1 8 Try.underlying28 hi hz0 hz1 hz2 rfl (by decide) _ na (b.map (Value.int .i64)) rfl HC3.out.1 ⟨tb, toff, none⟩ na ca (a.map (.int .i64)) rfl hlen1 hnews hone1 (by unfold maxLen; omega) (by omega) hbase ?_; intro v2 w2 hown2 hg2 _)
                go_meet
                exact ⟨_, rfl, by exact hown2, HC3.out.2.trans (below_of_append HC3.out.1 hg2 hbase)⟩
            case rest =>
              obtain ⟨w4, rfl⟩ : ∃ z, z = wc := ⟨_, rfl⟩; obtain ⟨v4, hv, ho, hb⟩ := hcut; subst hv; have HC4 := Lib.hid (And.intro ho hb); clear ho hb
              have HLT := HM.out.lt
              have hIab : ∀ x, x ∈ a ++ b → InI x := fun x hx => (List.mem_append.1 hx).elim (HA.out.int x) (HB.out.int x)
              have hIba : ∀ x, x ∈ b ++ a → InI x := fun x hx => (List.mem_append.1 hx).elim (HB.out.int x) (HA.out.int x)
              have hof : w4.ownsRow w.heap.size 3 1 v2 (na + na) ((a ++ b).map (Value.int .i64)) := by rw [List.map_append]; exact ownsRow_below HC2.out.1 HC4.out.2
              have hot : w4.ownsRow w.heap.size 3 1 v4 (na + na) ((b ++ a).map (Value.int .i64)) := by rw [List.map_append]; exact ownsRow_mono HC4.out.1 HC2.out.2.size
              obtain ⟨C, cc, rfl, hoff⟩ := Off.own hof hIab HLT
              obtain ⟨D, cd, rfl, hoft⟩ := Off.own hot hIba HLT
              obtain ⟨fr, hfr⟩ : ∃ fr, a ++ b = fr := ⟨_, rfl⟩
              obtain ⟨tl, htl⟩ : ∃ tl, b ++ a = tl := ⟨_, rfl⟩
              rw [hfr] at hoff
              rw [htl] at hoft
              obtain ⟨n, hn⟩ : ∃ n, na + na = n := ⟨_, rfl⟩
              rw [hn] at hoff hoft ⊢
              have hnb : n ≤ 128 := by omega
              have HOF := Lib.hid hoff
              have HOT := Lib.hid hoft
              have HB4 : Hid (Below w.heap.size w w4) := Lib.hid (HC2.out.2.trans (HC4.out.2.mono HC2.out.2.size))
              have HBV : Hid (∀ b0, keepOk m.L fr = b0 → bothV m a b rs = if b0 = true then swV m fr tl rs else (m, [], 1)) := Lib.hid (fun b0 hb => by
                unfold bothV
                rw [hfr, htl]
                cases b0
                · rw [if_neg (fun q => by rw [hb] at q; exact absurd q.2.2 (by simp))]; rfl
                · rw [if_pos ⟨by rw [HA.out.len, HB.out.len], by rw [HA.out.len]; exact e2, hb⟩]; rfl)
              clear hof hot hIab hIba hoff hoft HC4 HC1 HC2 HC3 N0 N2 HLT hfr htl hn
              go_wp2_with fail
              go_loopw [12] (fun i wr => ∃ k : Nat, k ≤ n ∧ i = .int .i64 k ∧ distinct (fr.take k) = true ∧ (fr.take k).all (isV m.L) = true ∧ Below w4.heap.size w4 wr) (fun i _ => n - (intOf i).toNat)
              case atStart => exact ⟨0, Nat.zero_le _, rfl, rfl, rfl, Below.refl _ _⟩
              case round =>
                obtain ⟨k, hk, rfl, hdis, hall, hbw4⟩ := hrel
                have HDIS := Lib.hid hdis
                have HALL := Lib.hid hall
                have hbw : Below w.heap.size w wr := HB4.out.trans (hbw4.mono HB4.out.size)
                have HBW := Lib.hid hbw
                have HBW4 := Lib.hid hbw4
                have HOFr := Lib.hid (HOF.out.below hbw4)
                clear hdis hall hbw hbw4
                by_cases hlt : k < n
                · have d0 : decide (k < n) = true := decide_eq_true hlt
                  have hkl : k < fr.length := by rw [HOF.out.len]; exact hlt
                  obtain ⟨g, off, rfl, hgl, hc⟩ := HOFr.out.nums k hkl
                  obtain ⟨x, hx⟩ : ∃ x, fr[k] = x := ⟨_, rfl⟩
                  have HX := Lib.hid hx
                  rw [hx] at hc
                  have g0 : (0 : Int) ≤ (k : Int) := by omega
                  have g1 : (k : Int) < (n : Int) := by omega
                  have g2 : (k : Int) ≤ (cc : Int) := by have := HOF.out.le; omega
                  have g3 : k ≤ cc := by omega
                  have hcc : cc ≤ 9223372036854775807 := HOF.out.cap
                  have hot := HOFr.out.take (Nat.le_of_lt hlt)
                  obtain ⟨pv, hpv⟩ : ∃ pv, plcV m.L x = pv := ⟨_, rfl⟩
                  obtain ⟨av, hav⟩ : ∃ av, findV (fr.take k) x = av := ⟨_, rfl⟩
                  have hAT : ∀ d, Calls Try.prog 45 #[.slice (some ⟨g, off, none⟩) k cc, .int .i64 x] (wr.drewN d) fun e w' => e = .returned (.int .i64 av) ∧ w' = wr.drewN d := fun d => by rw [← hav]; exact at_of (hot.nums.drewN d) hot.len (by omega) x
                  have hPL : ∀ d, Calls Try.prog 44 #[.pointer (some ⟨r, 0, none⟩), .int .i64 x] (wr.drewN d) fun e w' => e = .returned (.int .i64 pv) ∧ w' = wr.drewN d := fun d => by rw [← hpv]; exact rplace_any ((HM.out.below HBW.out).drewN d) x
                  have HAT := Lib.hid hAT
                  have HPL := Lib.hid hPL
                  have hfh := findV_has (fr.take k) x
                  rw [hav] at hfh
                  cases hv : isV m.L x
                  · have p0 : decide (pv < 0) = true := by rw [← hpv]; exact plc_no hv
                    have HSW : Hid (bothV m a b rs = (m, [], 1)) := Lib.hid (HBV.out false (by unfold keepOk; rw [all_take_no hkl (by rw [hx]; exact hv)]; rfl))
                    clear hx hot hpv hav hAT hPL hfh hv hgl
                    go_wp2_with fail
                    go_quiet (first | (go_at_call 44; exact Calls.quiet_of_same (HPL.out _)) | (go_at_call 45; exact Calls.quiet_of_same (HAT.out _)))
                    go_wp2_with fail
                    go_returns
                    rw [HSW.out]
                    exact rw_no HM.out (below_drewN HBW.out _)
                  · have p0 : decide (pv < 0) = false := by rw [← hpv]; exact plc_yes hv
                    have HVX := Lib.hid hv
                    cases hin : (fr.take k).contains x
                    · have q0 : decide (0 ≤ av) = false := by rw [hfh]; exact hin
                      have HIN : Hid (x ∉ fr.take k) := Lib.hid (by simpa using hin)
                      clear hx hot hpv hav hAT hPL hfh hv hgl hin
                      go_wp2_with fail
                      go_quiet (first | (go_at_call 44; exact Calls.quiet_of_same (HPL.out _)) | (go_at_call 45; exact Calls.quiet_of_same (HAT.out _)))
                      go_wp2_with fail
                      go_roundw
                      case rel => exact ⟨k + 1, by omega, by go_num, distinct_take_succ hkl (by rw [HX.out]; exact HIN.out) HDIS.out, all_take_succ hkl (by rw [HX.out]; exact HVX.out) HALL.out, below_drewN HBW4.out _⟩
                      case measure => simp [intOf]; omega
                    · have q0 : decide (0 ≤ av) = true := by rw [hfh]; exact hin
                      have HSW : Hid (bothV m a b rs = (m, [], 1)) := Lib.hid (HBV.out false (by unfold keepOk; rw [distinct_take_no hkl (by rw [hx]; exact List.contains_iff_mem.1 hin)]; simp))
                      clear hx hot hpv hav hAT hPL hfh hv hgl hin
                      go_wp2_with fail
                      go_quiet (first | (go_at_call 44; exact Calls.quiet_of_same (HPL.out _)) | (go_at_call 45; exact Calls.quiet_of_same (HAT.out _)))
                      go_wp2_with fail
                      go_returns
                      rw [HSW.out]
                      exact rw_no HM.out (below_drewN HBW.out _)
                · have hkn : k = n := by omega
                  have d0 : decide (k < n) = false := decide_eq_false hlt
                  clear hlt
                  subst hkn
                  have HKEEP : Hid (keepOk m.L fr = true) := Lib.hid (by
                    have hdis : distinct fr = true := by have := HDIS.out; rw [← HOF.out.len, List.take_length] at this; exact this
                    have hall : fr.all (isV m.L) = true := by have := HALL.out; rw [← HOF.out.len, List.take_length] at this; exact this
                    unfold keepOk; rw [hdis, hall]; rfl)
                  have HSW : Hid (bothV m a b rs = swV m fr tl rs) := Lib.hid (HBV.out true HKEEP.out)
                  obtain ⟨rr, hrr⟩ : ∃ rr, swV m fr tl rs = rr := ⟨_, rfl⟩
                  have HRR := Lib.hid hrr
                  clear hrr
                  go_wp2_with (go_at_call 56; (with_reducible refine (rsturn_any (HM.out.below HBW.out) HOFr.out (HOT.out.below HBW4.out) (HR.out.below HBW.out) (by omega) br).mono ?_); rw [HRR.out]; rintro e w5 ⟨v5, rfl, hi5, hp5⟩; have HI5 := Lib.hid hi5; have HP5 := Lib.hid hp5; clear hi5 hp5)
                  go_returns
                  rw [HSW.out, HRR.out]
                  exact RwPost.later HBW.out ⟨_, rfl, HI5.out, HP5.out⟩
    · have d2 : decide (64 < na) = true := decide_eq_true (by omega)
      have d3 : decide ((64 : Int) < (na : Int)) = true := decide_eq_true (by omega)
      have HV : Hid (bothV m a b rs = (m, [], 1)) := Lib.hid (by unfold bothV; rw [if_neg (fun q => e2 (by rw [← HA.out.len]; exact q.2.1))])
      rw [HV.out]
      go_enter Try.func26, Try.ntmps26
      go_wp2_with fail
      go_returns
      exact rw_no HM.out (Below.refl _ _)
  · have d1 : (na == nb) = false := by simpa using e1
    have e1' : ¬ ((na : Int) = (nb : Int)) := by omega
    have d1' : ((na : Int) == (nb : Int)) = false := by simpa using e1'
    have HV : Hid (bothV m a b rs = (m, [], 1)) := Lib.hid (by unfold bothV; rw [if_neg (fun q => e1 (by rw [← HA.out.len, ← HB.out.len]; exact q.1))])
    rw [HV.out]
    go_enter Try.func26, Try.ntmps26
    go_wp2_with fail
    go_returns
    exact rw_no HM.out (Below.refl _ _)
set_option maxRecDepth 100000 in
set_option maxHeartbeats 16000000 in
theorem rone_any {w : World} {R : Nat → Prop} {r : Nat} {m : Hp} {lv : Value} {fv : Nat → Value} (h : RM w R r m lv fv) {C D E : Option Addr} {fr tl rs : List Int} {nf nt nr cc cd ce : Nat} (hF : Off w R C nf cc fr) (hT : Off w R D nt cd tl) (hR : Off w R E nr ce rs) (bf : nf ≤ 1000000) (bt : nt ≤ 1000000) (br : nr ≤ 1000000) :
    Calls Try.prog 28 #[.pointer (some ⟨r, 0, none⟩), .slice C nf cc, .slice D nt cd, .slice E nr ce] w (RwPost w R r (oneV m fr tl rs)) := by
  have HM := Lib.hid h
  have HF := Lib.hid hF
  have HT := Lib.hid hT
  have HR := Lib.hid hR
  clear h hF hT hR
  by_cases e1 : nf = nt
  · subst e1
    by_cases e2 : nf ≤ 64
    · have d2 : decide (64 < nf) = false := decide_eq_false (by omega)
      have d3 : decide ((64 : Int) < (nf : Int)) = false := decide_eq_false (by omega)
      have HNO : Hid ((keepOk m.L fr = true → tl.any (fun o => !isV m.L o || fr.contains o) = false → False) → oneV m fr tl rs = (m, [], 1)) := Lib.hid (fun q => by
        unfold oneV; rw [if_neg (fun z => q z.2.2.1 z.2.2.2)])
      have HYES : Hid (keepOk m.L fr = true → tl.any (fun o => !isV m.L o || fr.contains o) = false → oneV m fr tl rs = swV m fr tl rs) := Lib.hid (fun q1 q2 => by
        unfold oneV; rw [if_pos ⟨by rw [HF.out.len, HT.out.len], by rw [HF.out.len]; exact e2, q1, q2⟩])
      go_enter Try.func28, Try.ntmps28
      go_wp2_with fail
      go_loopw [10] (fun i wr => ∃ k : Nat, k ≤ nf ∧ i = .int .i64 k ∧ distinct (fr.take k) = true ∧ (fr.take k).all (isV m.L) = true ∧ (tl.take k).any (fun o => !isV m.L o || fr.contains o) = false ∧ Below w.heap.size w wr) (fun i _ => nf - (intOf i).toNat)
      case atStart => exact ⟨0, Nat.zero_le _, rfl, rfl, rfl, rfl, Below.refl _ _⟩
      case round =>
        obtain ⟨k, hk, rfl, hdis, hall, hany, hbw⟩ := hrel
        have HDIS := Lib.hid hdis
        have HALL := Lib.hid hall
        have HANY := Lib.hid hany
        have HBW := Lib.hid hbw
        have HOFr := Lib.hid (HF.out.below hbw)
        have HOTr := Lib.hid (HT.out.below hbw)
        clear hdis hall hany hbw
        by_cases hlt : k < nf
        · have d0 : decide (k < nf) = true := decide_eq_true hlt
          have hkl : k < fr.length := by rw [HF.out.len]; exact hlt
          have hkt : k < tl.length := by rw [HT.out.len]; exact hlt
          obtain ⟨g, off, rfl, hgl, hc⟩ := HOFr.out.nums k hkl
          obtain ⟨g2, off2, rfl, hgl2, hc2⟩ := HOTr.out.nums k hkt
          obtain ⟨x, hx⟩ : ∃ x, fr[k] = x := ⟨_, rfl⟩
          obtain ⟨y, hy⟩ : ∃ y, tl[k] = y := ⟨_, rfl⟩
          have HX := Lib.hid hx
          have HY := Lib.hid hy
          rw [hx] at hc
          rw [hy] at hc2
          have g0 : (0 : Int) ≤ (k : Int) := by omega
          have g1 : (k : Int) < (nf : Int) := by omega
          have g2_ : (k : Int) ≤ (cc : Int) := by have := HF.out.le; omega
          have g3 : k ≤ cc := by omega
          have hcc : cc ≤ 9223372036854775807 := HF.out.cap
          have hot := HOFr.out.take (Nat.le_of_lt hlt)
          obtain ⟨pv, hpx⟩ : ∃ pv, plcV m.L x = pv := ⟨_, rfl⟩
          obtain ⟨qv, hpy⟩ : ∃ qv, plcV m.L y = qv := ⟨_, rfl⟩
          obtain ⟨av, hav⟩ : ∃ av, findV (fr.take k) x = av := ⟨_, rfl⟩
          obtain ⟨bv, hay⟩ : ∃ bv, findV fr y = bv := ⟨_, rfl⟩
          have hAT : ∀ d, Calls Try.prog 45 #[.slice (some ⟨g, off, none⟩) k cc, .int .i64 x] (wr.drewN d) fun e w' => e = .returned (.int .i64 av) ∧ w' = wr.drewN d := fun d => by rw [← hav]; exact at_of (hot.nums.drewN d) hot.len (by omega) x
          have hAY : ∀ d, Calls Try.prog 45 #[.slice (some ⟨g, off, none⟩) nf cc, .int .i64 y] (wr.drewN d) fun e w' => e = .returned (.int .i64 bv) ∧ w' = wr.drewN d := fun d => by rw [← hay]; exact at_of (HOFr.out.nums.drewN d) HOFr.out.len (by omega) y
          have hPL : ∀ d, Calls Try.prog 44 #[.pointer (some ⟨r, 0, none⟩), .int .i64 x] (wr.drewN d) fun e w' => e = .returned (.int .i64 pv) ∧ w' = wr.drewN d := fun d => by rw [← hpx]; exact rplace_any ((HM.out.below HBW.out).drewN d) x
          have hPY : ∀ d, Calls Try.prog 44 #[.pointer (some ⟨r, 0, none⟩), .int .i64 y] (wr.drewN d) fun e w' => e = .returned (.int .i64 qv) ∧ w' = wr.drewN d := fun d => by rw [← hpy]; exact rplace_any ((HM.out.below HBW.out).drewN d) y
          have HAT := Lib.hid hAT
          have HAY := Lib.hid hAY
          have HPL := Lib.hid hPL
          have HPY := Lib.hid hPY
          have hfh := findV_has (fr.take k) x
          have hfy := findV_has fr y
          rw [hav] at hfh
          rw [hay] at hfy
          cases hvx : isV m.L x
          · have p0 : decide (pv < 0) = true := by rw [← hpx]; exact plc_no hvx
            have HSW : Hid (oneV m fr tl rs = (m, [], 1)) := Lib.hid (HNO.out (fun q1 q2 => by unfold keepOk at q1; rw [all_take_no hkl (by rw [hx]; exact hvx)] at q1; cases q1))
            clear hx hy hot hpx hpy hav hay hAT hPL hAY hPY hfh hfy hgl hgl2
            go_wp2_with fail
            go_quiet (first | (go_at_call_of 44 (Value.int .i64 x); exact Calls.quiet_of_same (HPL.out _)) | (go_at_call_of 44 (Value.int .i64 y); exact Calls.quiet_of_same (HPY.out _)) | (go_at_call_of 45 (Value.int .i64 x); exact Calls.quiet_of_same (HAT.out _)) | (go_at_call_of 45 (Value.int .i64 y); exact Calls.quiet_of_same (HAY.out _)))
            go_wp2_with fail
            go_returns
            rw [HSW.out]
            exact rw_no HM.out (below_drewN HBW.out _)
          · have p0 : decide (pv < 0) = false := by rw [← hpx]; exact plc_yes hvx
            cases hvy : isV m.L y
            · have p1 : decide (qv < 0) = true := by rw [← hpy]; exact plc_no hvy
              have HSW : Hid (oneV m fr tl rs = (m, [], 1)) := Lib.hid (HNO.out (fun q1 q2 => by have z := List.any_eq_false.1 q2 y (by rw [← hy]; exact List.getElem_mem hkt); rw [hvy] at z; exact z rfl))
              clear hx hy hot hpx hpy hav hay hAT hPL hAY hPY hfh hfy hgl hgl2
              go_wp2_with fail
              go_quiet (first | (go_at_call_of 44 (Value.int .i64 x); exact Calls.quiet_of_same (HPL.out _)) | (go_at_call_of 44 (Value.int .i64 y); exact Calls.quiet_of_same (HPY.out _)) | (go_at_call_of 45 (Value.int .i64 x); exact Calls.quiet_of_same (HAT.out _)) | (go_at_call_of 45 (Value.int .i64 y); exact Calls.quiet_of_same (HAY.out _)))
              go_wp2_with fail
              go_returns
              rw [HSW.out]
              exact rw_no HM.out (below_drewN HBW.out _)
            · have p1 : decide (qv < 0) = false := by rw [← hpy]; exact plc_yes hvy
              cases hin : (fr.take k).contains x
              · have q0 : decide (0 ≤ av) = false := by rw [hfh]; exact hin
                cases hiy : fr.contains y
                · have q0' : decide (0 ≤ bv) = false := by rw [hfy]; exact hiy
                  have HIN : Hid (x ∉ fr.take k) := Lib.hid (by simpa using hin)
                  have HVX := Lib.hid hvx
                  have HP : Hid ((!isV m.L y || fr.contains y) = false) := Lib.hid (by rw [hvy, hiy]; rfl)
                  clear hvx hvy hin hiy
                  clear hx hy hot hpx hpy hav hay hAT hPL hAY hPY hfh hfy hgl hgl2
                  go_wp2_with fail
                  go_quiet (first | (go_at_call_of 44 (Value.int .i64 x); exact Calls.quiet_of_same (HPL.out _)) | (go_at_call_of 44 (Value.int .i64 y); exact Calls.quiet_of_same (HPY.out _)) | (go_at_call_of 45 (Value.int .i64 x); exact Calls.quiet_of_same (HAT.out _)) | (go_at_call_of 45 (Value.int .i64 y); exact Calls.quiet_of_same (HAY.out _)))
                  go_wp2_with fail
                  go_roundw
                  case rel => exact ⟨k + 1, by omega, by go_num, distinct_take_succ hkl (by rw [HX.out]; exact HIN.out) HDIS.out, all_take_succ hkl (by rw [HX.out]; exact HVX.out) HALL.out, any_take_succ hkt (by rw [HY.out]; exact HP.out) HANY.out, below_drewN HBW.out _⟩
                  case measure => simp [intOf]; omega
                · have q0' : decide (0 ≤ bv) = true := by rw [hfy]; exact hiy
                  have HSW : Hid (oneV m fr tl rs = (m, [], 1)) := Lib.hid (HNO.out (fun q1 q2 => by have z := List.any_eq_false.1 q2 y (by rw [← hy]; exact List.getElem_mem hkt); rw [hvy, hiy] at z; exact z rfl))
                  clear hx hy hot hpx hpy hav hay hAT hPL hAY hPY hfh hfy hgl hgl2
                  go_wp2_with fail
                  go_quiet (first | (go_at_call_of 44 (Value.int .i64 x); exact Calls.quiet_of_same (HPL.out _)) | (go_at_call_of 44 (Value.int .i64 y); exact Calls.quiet_of_same (HPY.out _)) | (go_at_call_of 45 (Value.int .i64 x); exact Calls.quiet_of_same (HAT.out _)) | (go_at_call_of 45 (Value.int .i64 y); exact Calls.quiet_of_same (HAY.out _)))
                  go_wp2_with fail
                  go_returns
                  rw [HSW.out]
                  exact rw_no HM.out (below_drewN HBW.out _)
              · have q0 : decide (0 ≤ av) = true := by rw [hfh]; exact hin
                have HSW : Hid (oneV m fr tl rs = (m, [], 1)) := Lib.hid (HNO.out (fun q1 q2 => by unfold keepOk at q1; rw [distinct_take_no hkl (by rw [hx]; exact List.contains_iff_mem.1 hin)] at q1; simp at q1))
                clear hx hy hot hpx hpy hav hay hAT hPL hAY hPY hfh hfy hgl hgl2
                go_wp2_with fail
                go_quiet (first | (go_at_call_of 44 (Value.int .i64 x); exact Calls.quiet_of_same (HPL.out _)) | (go_at_call_of 44 (Value.int .i64 y); exact Calls.quiet_of_same (HPY.out _)) | (go_at_call_of 45 (Value.int .i64 x); exact Calls.quiet_of_same (HAT.out _)) | (go_at_call_of 45 (Value.int .i64 y); exact Calls.quiet_of_same (HAY.out _)))
                go_wp2_with fail
                go_returns
                rw [HSW.out]
                exact rw_no HM.out (below_drewN HBW.out _)
        · have hkn : k = nf := by omega
          have d0 : decide (k < nf) = false := decide_eq_false hlt
          clear hlt
          subst hkn
          have HSW : Hid (oneV m fr tl rs = swV m fr tl rs) := Lib.hid (HYES.out (by
              have hdis : distinct fr = true := by have := HDIS.out; rw [← HF.out.len, List.take_length] at this; exact this
              have hall : fr.all (isV m.L) = true := by have := HALL.out; rw [← HF.out.len, List.take_length] at this; exact this
              unfold keepOk; rw [hdis, hall]; rfl) (by have := HANY.out; rw [← HT.out.len, List.take_length] at this; exact this))
          obtain ⟨rr, hrr⟩ : ∃ rr, swV m fr tl rs = rr := ⟨_, rfl⟩
          have HRR := Lib.hid hrr
          clear hrr
          go_wp2_with (go_at_call 56; (with_reducible refine (rsturn_any (HM.out.below HBW.out) HOFr.out HOTr.out (HR.out.below HBW.out) (by omega) br).mono ?_); rw [HRR.out]; rintro e w5 ⟨v5, rfl, hi5, hp5⟩; have HI5 := Lib.hid hi5; have HP5 := Lib.hid hp5; clear hi5 hp5)
          go_returns
          rw [HSW.out, HRR.out]
          exact RwPost.later HBW.out ⟨_, rfl, HI5.out, HP5.out⟩
    · have d2 : decide (64 < nf) = true := decide_eq_true (by omega)
      have d3 : decide ((64 : Int) < (nf : Int)) = true := decide_eq_true (by omega)
      have HV : Hid (oneV m fr tl rs = (m, [], 1)) := Lib.hid (by unfold oneV; rw [if_neg (fun q => e2 (by rw [← HF.out.len]; exact q.2.1))])
      rw [HV.out]
      go_enter Try.func28, Try.ntmps28
      go_wp2_with fail
      go_returns
      exact rw_no HM.out (Below.refl _ _)
  · have d1 : (nf == nt) = false := by simpa using e1
    have e1' : ¬ ((nf : Int) = (nt : Int)) := by omega
    have d1' : ((nf : Int) == (nt : Int)) = false := by simpa using e1'
    have HV : Hid (oneV m fr tl rs = (m, [], 1)) := Lib.hid (by unfold oneV; rw [if_neg (fun q => e1 (by rw [← HF.out.len, ← HT.out.len]; exact q.1))])
    rw [HV.out]
    go_enter Try.func28, Try.ntmps28
    go_wp2_with fail
    go_returns
    exact rw_no HM.out (Below.refl _ _)
end Go.Proofs.Ythonodimjglnfaa
