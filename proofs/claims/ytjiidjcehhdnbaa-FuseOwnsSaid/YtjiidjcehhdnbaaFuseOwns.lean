/- The law FuseOwns of chapter 18 holds for every input: it returns true, and its arguments stay. No conditions. -/
import Derived.Test.YtjiidjcehhdnbaaRows
import Derived.Test.YtjiidjcehhdnbaaFW7
import Derived.Test.YtjiidjcehhdnbaaFW8
import Derived.Test.YtjiidjcehhdnbaaFW11
import Derived.Test.YtjiidjcehhdnbaaFW13
import Derived.Test.YtjiidjcehhdnbaaFW14
import Derived.Test.YtjiidjcehhdnbaaFW15
import Derived.Test.YtjiidjcehhdnbaaFW16
import Derived.Test.YtjiidjcehhdnbaaFW24
import Derived.WalkKit
import Derived.Deep.CutRange
import Derived.Deep.DeepCutAuto
import Derived.Deep.RegionHeld3
import Derived.LoopN
import Derived.ProofKit
import Derived.OpenShut
import Derived.ShutString
import Derived.ChangeOld
import Derived.Below
namespace Go.Proofs.Ytjiidjcehhdnbaa.fuseOwns
open Go.ChangeShapes Go.WideShapes Go.ChangeAt Go.RowKit
set_option linter.unusedVariables false
set_option linter.unusedSimpArgs false

theorem own : ownKnob Try.prog.godebug = none := by kernel_rfl
theorem laidOut : laidOutB Try.prog = true := by kernel_rfl

theorem Row.congr {X : World} {A : Option Addr} {n size : Nat} {f g : Nat → Nat → Value} (h : Row X A n size f) (e : ∀ i j, i < n → j < size → f i j = g i j) : Row X A n size g := fun hn => by
  obtain ⟨b, off, ea, hlt, hc⟩ := h hn
  exact ⟨b, off, ea, hlt, fun i hi j hj => by rw [← e i j hi hj]; exact hc i hi j hj⟩
structure LR (A : Option Addr) (k n base : Nat) (T : Nat → Int × Int × Int) (c : World) : Prop where
  out : 0 < n → ∃ g, A = some ⟨g, 0, none⟩ ∧ base ≤ g ∧ g < c.heap.size ∧ (∀ j d, k ≤ j → j < n → d < 3 → c.cell? ⟨g, j * 3 + d, none⟩ = some (strokeCell (T j) d)) ∧ ∀ o, c.frozen? ⟨g, o, none⟩ = false
theorem plan_lr {ln : Nat} {L : Nat → LitR} {cn : Nat} {C : Nat → InsR} {X : World} {base n : Nat} {v : Value} (h : X.ownsRow base 34 3 v n (planCells ln L cn C n)) :
    ∃ A cap, v = .slice A n cap ∧ n ≤ cap ∧ cap ≤ 9223372036854775807 ∧ LR A 0 n base (fun j => strokeV ln L cn C j) X := by
  rcases h.2 with ⟨rfl, rfl⟩ | ⟨g, cap, cur, rfl, hg, hh, hn, hm, _⟩
  · exact ⟨_, _, rfl, by omega, by omega, ⟨fun h0 => absurd h0 (by omega)⟩⟩
  · refine ⟨_, _, rfl, hn, hm, ⟨fun h0 => ⟨g, rfl, hg, (h.lt g rfl).2, fun j d _ hj hd => ?_, fun o => h.frozenAt o⟩⟩⟩
    rw [h.cellAt (j * 3 + d) (by omega)]
    exact planCells_at n j d hj hd
theorem own_row1c {X : World} {base : Nat} {v : Value} {l : List Int} (h : X.ownsRow base 3 1 v l.length (l.map (.int .i64))) :
    ∃ A cap, v = .slice A l.length cap ∧ l.length ≤ cap ∧ cap ≤ maxLen ∧ (0 < l.length → ∃ gp u, A = some ⟨gp, 0, none⟩ ∧ base ≤ gp ∧ gp < X.heap.size ∧ X.cell? ⟨gp, 0, none⟩ = some u ∧ X.frozen? ⟨gp, 0, none⟩ = false) := by
  rcases h.2 with ⟨rfl, h0⟩ | ⟨g, cap, cur, rfl, hg, hh, hn, hm, _⟩
  · exact ⟨none, 0, by rw [h0], by omega, by unfold maxLen; omega, fun hp => absurd hp (by omega)⟩
  · refine ⟨_, _, rfl, hn, hm, fun hp => ⟨g, .int .i64 (l.getD 0 0), rfl, hg, (h.lt g rfl).2, ?_, h.frozenAt 0⟩⟩
    rw [h.cellAt 0 (by omega), List.getElem?_map, List.getElem?_eq_getElem hp]
    simp [List.getD, hp]
theorem append_nil1 (ad : Addr) (c : Nat) (ty : TypeId) (W : World) : (Builtin.append_ #[36, 36] ty #[.slice none 0 0, .slice (some ad) 0 c]).run Try.prog W = .ok (.slice none 0 0) W := by
  obtain ⟨i0, hi, hz0, hz1, hz2⟩ := info_parts info3
  have h0 := run_firstCells_some (P := Try.prog) W i0.size 0 ad 0 c [] (by simp) (fun j u h => by simp at h)
  simp [Builtin.append_, run_underlying Try.underlying36, sizeOf, typeInfo, hi, Builtin.lenOf, h0]
theorem append_nil0 (c : Nat) (ty : TypeId) (W : World) : (Builtin.append_ #[36, 36] ty #[.slice none 0 0, .slice none 0 c]).run Try.prog W = .ok (.slice none 0 0) W := by
  obtain ⟨i0, hi, hz0, hz1, hz2⟩ := info_parts info3
  simp [Builtin.append_, run_underlying Try.underlying36, sizeOf, typeInfo, hi, Builtin.lenOf, Builtin.firstCells]

set_option maxRecDepth 100000 in
set_option maxHeartbeats 40000000 in
theorem walk (w : World) (s : ByteArray) (x0 x1 x2 : Int) (LA : Option Addr) (ln lc : Nat) (CA : Option Addr) (cn cc : Nat) (L : Nat → LitR) (C : Nat → InsR) (R : RawM w LA ln lc CA cn cc L C) (A1 : Option Addr) (n1 c1 : Nat) (F1 : Nat → Int) (R1 : RawW w A1 n1 c1 F1) :
    Calls Try.prog 7 #[.agg #[.string s, .int .i64 x0, .int .i64 x1, .int .i64 x2, .slice LA ln lc, .slice CA cn cc], .slice A1 n1 c1] w fun e w' => e = .returned (.bool true) ∧ Below w.heap.size w w' := by
  obtain ⟨i0, hi, hz0, hz1, hz2⟩ := info_parts info3
  go_enter Try.func7, Try.ntmps7
  go_upto_region 2 with (go_at_call 9; (with_reducible refine (few_any R (by (repeat' (first | (with_reducible exact Below.refl _ _) | (with_reducible assumption) | (with_reducible refine below_drewN ?_ _) | (with_reducible refine Below.alloc ?_ ?_ _) | (with_reducible refine Below.drew ?_) | (with_reducible refine Below.setCell ?_ ?_ _) | go_size)))).mono ?_); rintro e w1 ⟨ok, rfl, h1, h2, hb⟩; have hS := thru hb (show Below w.heap.size w _ by (repeat' (first | (with_reducible exact Below.refl _ _) | (with_reducible assumption) | (with_reducible refine below_drewN ?_ _) | (with_reducible refine Below.alloc ?_ ?_ _) | (with_reducible refine Below.drew ?_) | (with_reducible refine Below.setCell ?_ ?_ _) | go_size))); obtain ⟨hc, hf⟩ := bcell hb; obtain ⟨hl, hl'⟩ := bsize hb; (try simp only [World.size_alloc, World.size_setCell, World.size_drew, size_drewN] at hc hf hl hl'))
  have hw1 : w.heap.size < w1.heap.size := by first | assumption | omega | exact hl _ (by omega)
  obtain ⟨Y, hY⟩ : ∃ Y, (World.setCell (World.setCell (World.setCell (World.setCell (World.setCell (World.setCell w1 ⟨w.heap.size, 0, none⟩ (.string s)) ⟨w.heap.size, 1, none⟩ (.int .i64 x0)) ⟨w.heap.size, 2, none⟩ (.int .i64 x1)) ⟨w.heap.size, 3, none⟩ (.int .i64 x2)) ⟨w.heap.size, 4, none⟩ (.slice LA (fewN ln 30) lc)) ⟨w.heap.size, 5, none⟩ (.slice CA (fewN cn 100) cc)) = Y := ⟨_, rfl⟩
  rw [hY]
  have y0 : Y.cell? ⟨w.heap.size, 0, none⟩ = some (.string s) := by subst hY; simp [go_sem, *]
  have y1 : Y.cell? ⟨w.heap.size, 1, none⟩ = some (.int .i64 x0) := by subst hY; simp [go_sem, *]
  have y2 : Y.cell? ⟨w.heap.size, 2, none⟩ = some (.int .i64 x1) := by subst hY; simp [go_sem, *]
  have y3 : Y.cell? ⟨w.heap.size, 3, none⟩ = some (.int .i64 x2) := by subst hY; simp [go_sem, *]
  have y4 : Y.cell? ⟨w.heap.size, 4, none⟩ = some (.slice LA (fewN ln 30) lc) := by subst hY; simp [go_sem, *]
  have y5 : Y.cell? ⟨w.heap.size, 5, none⟩ = some (.slice CA (fewN cn 100) cc) := by subst hY; simp [go_sem, *]
  have yl : w.heap.size < Y.heap.size := by subst hY; simp only [World.size_alloc, World.size_setCell, World.size_drew, size_drewN]; exact hw1
  have hYb : Below w.heap.size w Y := by subst hY; (repeat' (first | (with_reducible exact Below.refl _ _) | (with_reducible assumption) | (with_reducible refine below_drewN ?_ _) | (with_reducible refine Below.alloc ?_ ?_ _) | (with_reducible refine Below.drew ?_) | (with_reducible refine Below.setCell ?_ ?_ _) | go_size))
  have hI : Inv w w Y Y := Inv.start (Below.refl _ _) hYb
  clear hY hc hf hl hl' hb hS hYb hw1
  have hm24 := (fewN_le n1 24)
  have hle := R1.le
  have hcap := R1.cap
  have hYb2 := hI.bw
  cases ok
  · go_wp2_with (go_at_call 10; (with_reducible refine (lives_any _).mono ?_); rintro e w2 ⟨rfl, hb⟩; (try clear hc0 hf0 hl0); replace hI := hI.step (by (repeat' (first | (with_reducible exact Below.refl _ _) | (with_reducible assumption) | (with_reducible refine below_drewN ?_ _) | (with_reducible refine Below.alloc ?_ ?_ _) | (with_reducible refine Below.drew ?_) | (with_reducible refine Below.setCell ?_ ?_ _) | go_size))) hb; clear hb; have hc0 := fun o => hI.cell w.heap.size o yl; have hf0 := fun o => hI.frozen w.heap.size o yl; have hl0 := hI.lt_ yl)
    go_ret
    refine ⟨rfl, ?_⟩
    (have hS := hI.bw; have hV := hS.size; (repeat' (first | (with_reducible exact Below.refl _ _) | (with_reducible assumption) | (with_reducible refine below_drewN ?_ _) | (with_reducible refine Below.alloc ?_ ?_ _) | (with_reducible refine Below.drew ?_) | (with_reducible refine Below.setCell ?_ ?_ _) | go_size)))
  · have hG := h1 rfl
    clear h1 h2
    go_upto_region 6 with (first | (go_at_call 13; (with_reducible refine (cut_any R1 _).mono ?_); rintro e w3 ⟨rfl, hw3⟩; replace hw3 := hw3.symm; subst hw3) | fail)
    have RW := R1.words
    have R1r := R1.row
    clear hle
    have hle := R1.le
    generalize fewN n1 24 = mm at hm24 RW ⊢
    go_cut [6] (fun o w2 => ∃ B bc, o = .slice B mm bc ∧ mm ≤ bc ∧ bc ≤ 9223372036854775807 ∧ Row w2 B mm 1 (fun i _ => .int .i64 (F1 i)) ∧ Below Y.heap.size Y w2)
    case first =>
      cases A1 with
      | none =>
        have hn0 : mm = 0 := by
          rcases Nat.eq_zero_or_pos mm with h0 | h0
          · exact h0
          · obtain ⟨b, off, e, _⟩ := R1.row (by omega); cases e
        have hnil : ∀ ty W, (Builtin.append_ #[36, 36] ty #[.slice none 0 0, .slice none mm c1]).run Try.prog W = .ok (.slice none 0 0) W := fun ty W => by rw [hn0]; exact append_nil0 c1 ty W
        subst hn0
        go_wp2_with fail
        go_meet
        exact ⟨none, 0, rfl, by omega, by omega, fun h => absurd h (by omega), Below.refl _ _⟩
      | some ad =>
        by_cases hn0 : 0 < mm
        · obtain ⟨tb, toff, e, htl, htc⟩ := (R1.row.below hYb2) (by omega : 0 < n1)
          cases e
          have hnews : ∀ (j : Nat) (u : Value), (((List.range mm).map F1).map (.int .i64))[j]? = some u → Y.cell? ((⟨tb, toff, none⟩ : Addr).add j) = some u := by
            intro j u hu
            rw [add_plain]
            simp at hu
            obtain ⟨a, ha, rfl⟩ := hu
            have hjm : j < mm := by
              rcases Nat.lt_or_ge j mm with hh | hh
              · exact hh
              · rw [List.getElem?_eq_none (by simpa using hh)] at ha; cases ha
            rw [List.getElem?_range hjm] at ha
            cases ha
            have := htc j (by omega) 0 (by omega)
            simpa using this
          go_wp2_with (at_builtin; refine wpList_append_own _ rfl _ _ 36 rfl Y.heap.size 3 i0 (.int .i64 0) 1 8 Try.underlying36 hi hz0 hz1 hz2 rfl (by decide) _ _ _ rfl (World.ownsRow_nil _ _ _ _) ⟨tb, toff, none⟩ mm c1 (((List.range mm).map F1).map (.int .i64)) rfl (by simp) hnews (by simp [Value.oneCell']) (by unfold maxLen; omega) (by omega) (Nat.le_refl _) ?_; intro v2 w2 hown hg2 _)
          go_meet
          simp only [Nat.zero_add, List.nil_append] at hown
          have hlen : ((List.range mm).map F1).length = mm := by simp
          have hown' : w2.ownsRow Y.heap.size 3 1 v2 ((List.range mm).map F1).length (((List.range mm).map F1).map (.int .i64)) := by rw [hlen]; exact hown
          obtain ⟨B, bc, rfl, hrow, hb1, hb2⟩ := own_row1 hown'
          rw [hlen] at hrow hb1 ⊢
          exact ⟨B, bc, rfl, hb1, by unfold maxLen at hb2; exact hb2, Row.congr hrow (fun i j hi hj => by simp [List.getD, hi]), below_of_append (World.ownsRow_nil Y Y.heap.size 3 1) hg2 (Nat.le_refl _)⟩
        · have hn00 : mm = 0 := by omega
          have hnil : ∀ ty W, (Builtin.append_ #[36, 36] ty #[.slice none 0 0, .slice (some ad) mm c1]).run Try.prog W = .ok (.slice none 0 0) W := fun ty W => by rw [hn00]; exact append_nil1 ad c1 ty W
          clear hn0
          subst hn00
          go_wp2_with fail
          go_meet
          exact ⟨none, 0, rfl, by omega, by omega, fun h => absurd h (by omega), Below.refl _ _⟩
    case rest =>
      obtain ⟨w2, rfl⟩ : ∃ z, z = wc := ⟨_, rfl⟩
      obtain ⟨B, bc, rfl, hBc, hBm, hOwn, hY2⟩ := hcut
      have hI2 : Inv w w Y w2 := hI.go hY2
      have hTw : Row w2 A1 mm 1 (fun i _ => .int .i64 (F1 i)) := (RW.row.below hI2.bw)
      have hc0 := fun o => hI2.cell w.heap.size o yl
      have hl0 := hI2.lt_ yl
      obtain ⟨hI, _⟩ := And.intro hI2 trivial
      clear hI2 hY2
      go_upto_region 8 with (go_at_call 11; (with_reducible refine (plan_any R.isM (hI.at0 (by (repeat' (first | (with_reducible exact Below.refl _ _) | (with_reducible assumption) | (with_reducible refine below_drewN ?_ _) | (with_reducible refine Below.alloc ?_ ?_ _) | (with_reducible refine Below.drew ?_) | (with_reducible refine Below.setCell ?_ ?_ _) | go_size))))).mono ?_); rintro e w3 ⟨v, rfl, hv, hb⟩; obtain ⟨A, cap, rfl, hcap1, hcap2, hLR⟩ := plan_lr hv; clear hv)
      have hm : ∀ j u, (#[.string s, .int .i64 x0, .int .i64 x1, .int .i64 x2, .slice LA (fewN ln 30) lc, .slice CA (fewN cn 100) cc] : Array Value)[j]? = some u → w3.cell? ⟨w.heap.size, j, none⟩ = some u := by
        intro j u hu
        refine (hb.cell (p := ⟨w.heap.size, j, none⟩) hl0).trans ((hc0 j).trans ?_)
        match j, hu with
        | 0, hu => cases hu; exact y0
        | 1, hu => cases hu; exact y1
        | 2, hu => cases hu; exact y2
        | 3, hu => cases hu; exact y3
        | 4, hu => cases hu; exact y4
        | 5, hu => cases hu; exact y5
        | n + 6, hu => simp at hu
      have z0 := hm 0 _ rfl; have z1 := hm 1 _ rfl; have z2 := hm 2 _ rfl; have z3 := hm 3 _ rfl; have z4 := hm 4 _ rfl; have z5 := hm 5 _ rfl
      have zl : w.heap.size < w2.heap.size := hl0
      have hI3 : Inv w w w2 w3 := ⟨hI.b0.trans (hb.mono hI.b0.size), hI.bw.trans (hb.mono hI.bw.size), hb⟩
      replace hOwn := hOwn
      clear hc0 hl0 hI y0 y1 y2 y3 y4 y5 yl hYb2
      go_wp2_with fail
      go_loopw [8] (fun i wr => ∃ k : Nat, k ≤ fewN cn 100 ∧ i = .int .i64 k ∧ Inv w w w2 wr ∧ (∀ j u, (#[.string s, .int .i64 x0, .int .i64 x1, .int .i64 x2, .slice LA (fewN ln 30) lc, .slice CA (fewN cn 100) cc] : Array Value)[j]? = some u → wr.cell? ⟨w.heap.size, j, none⟩ = some u) ∧ LR A k (fewN cn 100) w2.heap.size (fun j => strokeV (fewN ln 30) L (fewN cn 100) C j) wr) (fun i _ => fewN cn 100 - (intOf i).toNat)
      case atStart =>
        refine ⟨0, Nat.zero_le _, rfl, hI3, hm, hLR⟩
      case round =>
        clear hI3 hm hLR z0 z1 z2 z3 z4 z5
        obtain ⟨k, hk, rfl, hI, hm, hLR⟩ := hrel
        have mx0 := hm 0 _ rfl; have mx1 := hm 1 _ rfl; have mx2 := hm 2 _ rfl; have mx3 := hm 3 _ rfl; have mx4 := hm 4 _ rfl; have mx5 := hm 5 _ rfl
        by_cases hlt : k < fewN cn 100
        · have hlt' : decide (k < fewN cn 100) = true := decide_eq_true hlt
          obtain ⟨g, rfl, hgb, hgl, hLc, hfg⟩ := hLR.out (by omega)
          obtain ⟨⟨sk, sa, sn⟩, hT⟩ : ∃ t, strokeV (fewN ln 30) L (fewN cn 100) C (k : Int) = t := ⟨_, rfl⟩
          have q0 : wr.cell? ⟨g, k * 3, none⟩ = some (.int .i64 sk) := by have := hLc k 0 (by omega) hlt (by omega); rw [hT] at this; exact this
          have q1 : wr.cell? ⟨g, k * 3 + 1, none⟩ = some (.int .i64 sa) := by have := hLc k 1 (by omega) hlt (by omega); rw [hT] at this; exact this
          have q2 : wr.cell? ⟨g, k * 3 + 2, none⟩ = some (.int .i64 sn) := by have := hLc k 2 (by omega) hlt (by omega); rw [hT] at this; exact this
          have HT := Lib.hid hT
          obtain ⟨v, hv⟩ : ∃ t, applyV (fewN ln 30) L (fewN cn 100) C 0 mm F1 0 (fun _ => 0) sk sa sn = t := ⟨_, rfl⟩
          have hvl : v.push.length ≤ 1 := by rw [← hv]; exact apply_push _ _ _
          have HV := Lib.hid hv
          have HLc := Lib.hid hLc
          have HM := Lib.hid hm
          have HFG := Lib.hid hfg
          have hwl : w.heap.size < wr.heap.size := cell_lt mx0
          clear hT hv hLc hm hLR hfg
          go_upto_region 11 with fail
          go_cut [9] from 32 to 63 (fun a wz => ∃ ba PA pc, a = .pointer (some ⟨ba, 0, none⟩) ∧ Below wr.heap.size wr wz ∧ wz.cell? ⟨ba, 1, none⟩ = some (.slice PA v.push.length pc) ∧ wr.heap.size ≤ ba ∧ v.push.length ≤ pc ∧ pc ≤ maxLen ∧ (0 < v.push.length → ∃ gp u, PA = some ⟨gp, 0, none⟩ ∧ wr.heap.size ≤ gp ∧ gp < wz.heap.size ∧ gp ≠ ba ∧ wz.cell? ⟨gp, 0, none⟩ = some u ∧ wz.frozen? ⟨gp, 0, none⟩ = false))
          case first =>
            go_region_held3 (fun w' => w'.cell? ⟨w.heap.size, 0, none⟩ = some (.string s) ∧ w'.cell? ⟨w.heap.size, 1, none⟩ = some (.int .i64 x0) ∧ w'.cell? ⟨w.heap.size, 2, none⟩ = some (.int .i64 x1) ∧ w'.cell? ⟨w.heap.size, 3, none⟩ = some (.int .i64 x2) ∧ w'.cell? ⟨w.heap.size, 4, none⟩ = some (.slice LA (fewN ln 30) lc) ∧ w'.cell? ⟨w.heap.size, 5, none⟩ = some (.slice CA (fewN cn 100) cc) ∧ w'.cell? ⟨g, k * 3, none⟩ = some (.int .i64 sk) ∧ w'.cell? ⟨g, k * 3 + 1, none⟩ = some (.int .i64 sa) ∧ w'.cell? ⟨g, k * 3 + 2, none⟩ = some (.int .i64 sn)) (first | assumption | (simp [go_sem]; done) | (simp [go_sem, *]; done)) (first | (go_at_call 16; (with_reducible refine (app_any (self := 0) (TF := F1) (FF := fun _ => 0) R.isM hG RW (Words.none_ _) (hI.at0 (by (repeat' (first | (with_reducible exact Below.refl _ _) | (with_reducible assumption) | (with_reducible refine below_drewN ?_ _) | (with_reducible refine Below.alloc ?_ ?_ _) | (with_reducible refine Below.drew ?_) | (with_reducible refine Below.setCell ?_ ?_ _) | go_size)))) sk sa sn).mono ?_); rw [HV.out]; rintro e w4 ⟨PV, rfl, hp, hb'⟩; obtain ⟨PA, pc, rfl, hlc, hcm, hpf⟩ := own_row1c hp; clear hp; have mx0' : w4.cell? ⟨w.heap.size, 0, none⟩ = some (.string s) := below_cell hb' (by (first | assumption | (simp [go_sem]; done) | (simp [go_sem, *]; done))); have mx1' : w4.cell? ⟨w.heap.size, 1, none⟩ = some (.int .i64 x0) := below_cell hb' (by (first | assumption | (simp [go_sem]; done) | (simp [go_sem, *]; done))); have mx2' : w4.cell? ⟨w.heap.size, 2, none⟩ = some (.int .i64 x1) := below_cell hb' (by (first | assumption | (simp [go_sem]; done) | (simp [go_sem, *]; done))); have mx3' : w4.cell? ⟨w.heap.size, 3, none⟩ = some (.int .i64 x2) := below_cell hb' (by (first | assumption | (simp [go_sem]; done) | (simp [go_sem, *]; done))); have mx4' : w4.cell? ⟨w.heap.size, 4, none⟩ = some (.slice LA (fewN ln 30) lc) := below_cell hb' (by (first | assumption | (simp [go_sem]; done) | (simp [go_sem, *]; done))); have mx5' : w4.cell? ⟨w.heap.size, 5, none⟩ = some (.slice CA (fewN cn 100) cc) := below_cell hb' (by (first | assumption | (simp [go_sem]; done) | (simp [go_sem, *]; done))); have q0' : w4.cell? ⟨g, k * 3, none⟩ = some (.int .i64 sk) := below_cell hb' (by (first | assumption | (simp [go_sem]; done) | (simp [go_sem, *]; done))); have q1' : w4.cell? ⟨g, k * 3 + 1, none⟩ = some (.int .i64 sa) := below_cell hb' (by (first | assumption | (simp [go_sem]; done) | (simp [go_sem, *]; done))); have q2' : w4.cell? ⟨g, k * 3 + 2, none⟩ = some (.int .i64 sn) := below_cell hb' (by (first | assumption | (simp [go_sem]; done) | (simp [go_sem, *]; done))); obtain ⟨hcb, hfb⟩ := bcell hb'; (try have ec0 := fun o => hcb (wr.heap.size) o (by simp only [World.size_alloc, World.size_setCell, World.size_drew, size_drewN]; omega)); (try have ef0 := fun o => hfb (wr.heap.size) o (by simp only [World.size_alloc, World.size_setCell, World.size_drew, size_drewN]; omega)); (try have el0 : wr.heap.size < w4.heap.size := Nat.lt_of_lt_of_le (by simp only [World.size_alloc, World.size_setCell, World.size_drew, size_drewN]; omega) hb'.size); have lt1' := cell_lt mx0'; (try dsimp only at lt1'); have lt2' := cell_lt q0'; (try dsimp only at lt2'); clear hcb hfb))
            all_goals
              go_wp2_with fail
              go_meet
              have hT := thru hb' (show Below wr.heap.size wr _ by (repeat' (first | (with_reducible exact Below.refl _ _) | (with_reducible assumption) | (with_reducible refine below_drewN ?_ _) | (with_reducible refine Below.alloc ?_ ?_ _) | (with_reducible refine Below.drew ?_) | (with_reducible refine Below.setCell ?_ ?_ _) | go_size)))
              have hTs := hT.size
              (try clear z0); (try clear z1); (try clear z2); (try clear z3); (try clear z4); (try clear z5); (try clear mx0); (try clear mx1); (try clear mx2); (try clear mx3); (try clear mx4); (try clear mx5); (try clear mx0'); (try clear mx1'); (try clear mx2'); (try clear mx3'); (try clear mx4'); (try clear mx5'); (try clear q0); (try clear q1); (try clear q2); (try clear q0'); (try clear q1'); (try clear q2'); (try clear lt1'); (try clear lt2'); (try clear hc0); (try clear hl0); (try clear hcg); (try clear hlg); (try clear HV); (try clear HT); (try clear hvl); (try clear hG); (try clear hlt'); (try clear hlt''); (try clear hI); (try clear hB2); (try clear hLc); (try clear hfg); (try clear hOwn); (try clear hTw)
              refine ⟨_, PA, pc, rfl, ?_, ?_, ?_, hlc, hcm, ?_⟩
              · (repeat' (first | (with_reducible exact Below.refl _ _) | (with_reducible assumption) | (with_reducible refine below_drewN ?_ _) | (with_reducible refine Below.alloc ?_ ?_ _) | (with_reducible refine Below.drew ?_) | (with_reducible refine Below.setCell ?_ ?_ _) | go_size))
              · (first | assumption | (simp [go_sem]; done) | (simp [go_sem, *]; done))
              · first | exact Nat.le_refl _ | exact hTs
              · intro h0
                obtain ⟨gp, u, rfl, hgb, hgl', hgc, hgf⟩ := hpf h0
                simp only [World.size_alloc, World.size_setCell, World.size_drew, size_drewN] at hgb hgl'
                (try have hgn : gp ≠ wr.heap.size := by omega)
                (try have hgn' := hgn.symm)
                have hgn2 : gp ≠ w4.heap.size := by omega
                have hgn2' := hgn2.symm
                refine ⟨gp, u, rfl, by omega, ?_, ?_, ?_, ?_⟩
                · simp only [World.size_alloc, World.size_setCell, World.size_drew, size_drewN]; omega
                · assumption
                · (first | assumption | (simp [go_sem]; done) | (simp [go_sem, *]; done))
                · (first | assumption | (simp [go_sem]; done) | (simp [go_sem, *]; done))
          case rest =>
            obtain ⟨ba, PA, pc, rfl, hb, p1, hba, hlc, hcm, hpf⟩ := hcut
            clear mx0 mx1 mx2 mx3 mx4 mx5
            have hwz := hb.size
            have hgz : g < wc.heap.size := by omega
            have hw2 := hI.bW.size
            have hww := hI.bw.size
            have fz : ∀ o, wc.frozen? ⟨g, o, none⟩ = false := fun o => ((bcell hb).2 g o hgl).trans (HFG.out o)
            have hb2 : Below w2.heap.size wr wc := hb.mono hw2
            replace q0 := below_cell hb q0
            replace q1 := below_cell hb q1
            replace q2 := below_cell hb q2
            have fz0 := fz (k * 3)
            have fz1 := fz (k * 3 + 1)
            have fz2 := fz (k * 3 + 2)
            have FZ := Lib.hid fz
            clear fz
            rcases (show v.push.length = 0 ∨ v.push.length = 1 by omega) with h0 | h1
            · rw [h0] at p1
              clear hpf hlc hvl h0
              go_wp2_with fail
              refine wp_loop_rounds 1 ?_
              rw [rounds_succ]
              go_wp2_with fail
              have fz := FZ.out
              go_roundw

              case rel =>
                refine ⟨k + 1, by omega, by go_num, hI.append (show Below w2.heap.size wr _ by (repeat' (first | (with_reducible exact Below.refl _ _) | (with_reducible assumption) | (with_reducible refine below_drewN ?_ _) | (with_reducible refine Below.alloc ?_ ?_ _) | (with_reducible refine Below.drew ?_) | (with_reducible refine Below.setCell ?_ ?_ _) | go_size))) (by omega) (by omega) (Nat.le_refl _), fun j u hu => ?_, ⟨fun _ => ⟨g, rfl, hgb, ?_, fun j d hj hjn hd => ?_, fun o => ?_⟩⟩⟩
                · have h0 := (hb.cell (p := ⟨w.heap.size, j, none⟩) hwl).trans (HM.out j u hu)
                  rw [World.cell?_setCell_other _ _ _ _ (fun e => by simp at e <;> omega)]; rw [World.cell?_setCell_other _ _ _ _ (fun e => by simp at e <;> omega)]; rw [World.cell?_setCell_other _ _ _ _ (fun e => by simp at e <;> omega)]
                  exact h0
                · simp only [World.size_alloc, World.size_setCell, World.size_drew, size_drewN]; exact hgz
                · have h0 := (hb.cell (p := ⟨g, j * 3 + d, none⟩) hgl).trans (HLc.out j d (by omega) hjn hd)
                  rw [World.cell?_setCell_other _ _ _ _ (fun e => by simp at e <;> omega)]; rw [World.cell?_setCell_other _ _ _ _ (fun e => by simp at e <;> omega)]; rw [World.cell?_setCell_other _ _ _ _ (fun e => by simp at e <;> omega)]
                  exact h0
                · repeat (rw [World.frozen?_setCell])
                  exact fz o
              case measure => simp [intOf]; omega
            · obtain ⟨gp, u, rfl, hgp1, hgp2, hgpb, pu, pf⟩ := hpf (by omega)
              rw [h1] at p1
              have hpc : 1 ≤ pc := by omega
              unfold maxLen at hcm
              clear hpf hlc hvl h1
              have n1' : gp ≠ g := by omega
              have n2' := n1'.symm
              have n3' := hgpb.symm
              go_wp2_with fail
              refine wp_loop_rounds 2 ?_
              rw [rounds_succ]
              go_wp2_with fail
              rw [rounds_succ]
              go_wp2_with fail
              have fz := FZ.out
              go_roundw

              case rel =>
                refine ⟨k + 1, by omega, by go_num, hI.append (show Below w2.heap.size wr _ by (repeat' (first | (with_reducible exact Below.refl _ _) | (with_reducible assumption) | (with_reducible refine below_drewN ?_ _) | (with_reducible refine Below.alloc ?_ ?_ _) | (with_reducible refine Below.drew ?_) | (with_reducible refine Below.setCell ?_ ?_ _) | go_size))) (by omega) (by omega) (Nat.le_refl _), fun j u hu => ?_, ⟨fun _ => ⟨g, rfl, hgb, ?_, fun j d hj hjn hd => ?_, fun o => ?_⟩⟩⟩
                · have h0 := (hb.cell (p := ⟨w.heap.size, j, none⟩) hwl).trans (HM.out j u hu)
                  rw [World.cell?_setCell_other _ _ _ _ (fun e => by simp at e <;> omega)]; rw [World.cell?_setCell_other _ _ _ _ (fun e => by simp at e <;> omega)]; rw [World.cell?_setCell_other _ _ _ _ (fun e => by simp at e <;> omega)]; rw [World.cell?_setCell_other _ _ _ _ (fun e => by simp at e <;> omega)]
                  exact h0
                · simp only [World.size_alloc, World.size_setCell, World.size_drew, size_drewN]; exact hgz
                · have h0 := (hb.cell (p := ⟨g, j * 3 + d, none⟩) hgl).trans (HLc.out j d (by omega) hjn hd)
                  rw [World.cell?_setCell_other _ _ _ _ (fun e => by simp at e <;> omega)]; rw [World.cell?_setCell_other _ _ _ _ (fun e => by simp at e <;> omega)]; rw [World.cell?_setCell_other _ _ _ _ (fun e => by simp at e <;> omega)]; rw [World.cell?_setCell_other _ _ _ _ (fun e => by simp at e <;> omega)]
                  exact h0
                · repeat (rw [World.frozen?_setCell])
                  exact fz o
              case measure => simp [intOf]; omega
        · have hkn : k = fewN cn 100 := by omega
          have hlt' : decide (k < fewN cn 100) = false := decide_eq_false hlt
          have hwl : w.heap.size < wr.heap.size := cell_lt mx0
          have HM := Lib.hid hm
          clear hkn hLR hm
          go_upto_region 18 with (go_at_call 11; (with_reducible refine (plan_any R.isM (hI.at0 (by (repeat' (first | (with_reducible exact Below.refl _ _) | (with_reducible assumption) | (with_reducible refine below_drewN ?_ _) | (with_reducible refine Below.alloc ?_ ?_ _) | (with_reducible refine Below.drew ?_) | (with_reducible refine Below.setCell ?_ ?_ _) | go_size))))).mono ?_); rintro e w5 ⟨v, rfl, hv, hb⟩; obtain ⟨A', cap', rfl, hcap3, hcap4, hLR2⟩ := plan_lr hv; clear hv)
          replace mx0 := below_cell hb mx0; replace mx1 := below_cell hb mx1; replace mx2 := below_cell hb mx2; replace mx3 := below_cell hb mx3; replace mx4 := below_cell hb mx4; replace mx5 := below_cell hb mx5
          have hw5 : w.heap.size < w5.heap.size := cell_lt mx0
          have hI5 := hI.go hb
          have hOwn5 := hOwn.below (Below.trans' hI.bW hb)
          have hTw5 := hTw.below (Below.trans' hI.bW hb)
          clear hI hb hOwn hTw hlt' hwl hcap1 hcap2 hlt
          go_wp2_with fail
          go_loopw [13] (fun i wr => ∃ k : Nat, k ≤ fewN cn 100 ∧ i = .int .i64 k ∧ Below w5.heap.size w5 wr) (fun i _ => fewN cn 100 - (intOf i).toNat)
          case atStart => exact ⟨0, Nat.zero_le _, rfl, Below.refl _ _⟩
          case round =>
            obtain ⟨k, hk, rfl, hB⟩ := hrel
            have nx0 := below_cell hB mx0; have nx1 := below_cell hB mx1; have nx2 := below_cell hB mx2; have nx3 := below_cell hB mx3; have nx4 := below_cell hB mx4; have nx5 := below_cell hB mx5
            have hI6 := hI5.go hB
            by_cases hlt : k < fewN cn 100
            · have hlt' : decide (k < fewN cn 100) = true := decide_eq_true hlt
              obtain ⟨g, rfl, hgb, hgl, hLc, hfg⟩ := hLR2.out (by omega)
              obtain ⟨⟨sk, sa, sn⟩, hT⟩ : ∃ t, strokeV (fewN ln 30) L (fewN cn 100) C (k : Int) = t := ⟨_, rfl⟩
              have q0 : w5.cell? ⟨g, k * 3, none⟩ = some (.int .i64 sk) := by have := hLc k 0 (by omega) hlt (by omega); rw [hT] at this; exact this
              replace q0 := below_cell hB q0
              have HT := Lib.hid hT
              clear hT hLc hfg hLR2
              obtain ⟨hI, _⟩ := And.intro hI6 trivial
              clear mx0 mx1 mx2 mx3 mx4 mx5
              go_wp2_with (go_at_call 12; (with_reducible refine (rstroke_any R.isM (hI.at0 (by (repeat' (first | (with_reducible exact Below.refl _ _) | (with_reducible assumption) | (with_reducible refine below_drewN ?_ _) | (with_reducible refine Below.alloc ?_ ?_ _) | (with_reducible refine Below.drew ?_) | (with_reducible refine Below.setCell ?_ ?_ _) | go_size)))) _).mono ?_); rw [HT.out]; rintro e w6 ⟨rfl, hb⟩; have hb6 := Below.trans' hB hb; replace q0 := below_cell hb q0)
              go_roundw
              case rel => exact ⟨k + 1, by omega, by go_num, Below.trans' hB hb⟩
              case measure => simp [intOf]; omega
            · have hkn : k = fewN cn 100 := by omega
              have hlt' : decide (k < fewN cn 100) = false := decide_eq_false hlt
              have hOwn6 := hOwn5.below hB
              have hTw6 := hTw5.below hB
              clear hkn hLR2
              go_wp2_with (first | (go_at_call 18; (with_reducible refine (same_any hOwn6 hTw6 (by omega) (Below.refl _ _)).mono ?_); rintro e w7 ⟨rfl, hb⟩; have hI7 := hI6.go hb) | (go_at_call 10; (with_reducible refine (lives_any _).mono ?_); rintro e w8 ⟨rfl, hb8⟩; have hI8 := hI7.go hb8))
              go_ret
              exact ⟨rfl, hI8.bw⟩

/-! ### the row's step -/
set_option maxRecDepth 100000 in
theorem lifted (os : Os) (started : os.Started) (H : Type) (enc : TypeId × Value → H) :
    ReturnsInHanded {} Try.checked os 7 .any (Rows.fuseOwnsSpec.pre6 enc Try.prog Try.f7 Rows.fuseOwnsRow.domain false) (Rows.fuseOwnsSpec.post enc Try.prog Try.f7 false true false false) := by
  refine returnsInHanded_of_change (C := Try.checked) own started (by kernel_rfl) Try.func7
    (ChangeSpec.witness6 (enc := enc) (C := Try.checked) false ⟨#[], #[.agg #[.string ⟨#[]⟩, .int .i64 0, .int .i64 0, .int .i64 0, .slice none 0 0, .slice none 0 0], .slice none 0 0], []⟩ 8 (by kernel_rfl) (by kernel_rfl) (by kernel_rfl) (by kernel_rfl)) ?_
  intro W base args ds gs before hval0 hW hcnd _
  have hval : ∀ (j : Nat) t v, Try.f7.params[j]? = some t → args[j]? = some v → Value.okWide Try.prog W .any base t v := hval0
  have hW' := hW
  obtain ⟨p, q, hA0, hV, rfl, hfz, hnd⟩ := hW
  have hA : DataW.TrodAll enc Try.prog W 0 (fun _ => true) true Try.f7.params.toList args.toList ds p := hA0
  rw [Try.params7] at hA hval
  obtain ⟨v0, vs0, d0, ds0, p0, q0, hargs, rfl, rfl, h0, r0⟩ := trodAll_cons hA
  obtain ⟨v1, vs1, d1, ds1, p1, q1, rfl, rfl, rfl, h1, r1⟩ := trodAll_cons r0
  obtain ⟨rfl, rfl, rfl⟩ := trodAll_nil r1
  obtain rfl : args = #[v0, v1] := by cases args; simp_all
  obtain ⟨rfl, rfl⟩ := trodVars_none hV
  have k0 := h0
  have lt0 : ∀ x ∈ p0, x.block < W.heap.size := by obtain ⟨m, hm⟩ := k0; exact DataW.trod_lt m _ _ _ hm
  obtain ⟨s, x0, x1, x2, LA, ln, lc, CA, cn, cc, L, C, rfl, R⟩ := open_method (hval 0 25 v0 rfl rfl) h0
  have k1 := h1
  have lt1 : ∀ x ∈ p1, x.block < W.heap.size := by obtain ⟨m, hm⟩ := k1; exact DataW.trod_lt m _ _ _ hm
  obtain ⟨A1, n1, c1, F1, rfl, R1⟩ := open_words (hval 1 36 v1 rfl rfl) h1
  clear hA0 hval0
  refine (walk W _ _ _ _ _ _ _ _ _ _ _ _ R _ _ _ _ R1).mono fun e W' ⟨he, bel⟩ => ?_
  subst he
  exact ⟨_, rfl, _, _, _, [], _, [], hW', trodAll_mk1 (shut_bool Try.underlying4 _), (trodAll_cons_mk (Below.trod laidOut (by kernel_rfl) (of_decide_eq_true (by kernel_rfl)) k0 bel lt0) (trodAll_cons_mk (Below.trod laidOut (by kernel_rfl) (of_decide_eq_true (by kernel_rfl)) k1 bel lt1) trodAll_mk0)), rfl, bel.frame _, fun h => by cases h⟩

theorem over : Rows.fuseOwnsRow.holds Try.pinned (OpenSpec.ofChange Rows.fuseOwnsSpec) :=
  OpenClaim.holds_of_wide 7 Try.f7 rfl rfl rfl rfl rfl rfl rfl ⟨rfl, rfl, rfl, rfl, rfl⟩ rfl rfl rfl rfl rfl (by kernel_rfl) Try.func7 (by kernel_rfl)
    (of_decide_eq_true (by kernel_rfl)) (by unfold Func.isWrapper; first | (rw [if_pos (by decide +kernel)]; kernel_rfl) | (rw [if_neg (by decide +kernel)]; exact ⟨rfl, rfl⟩))
    (fun os started H enc _ => lifted os started H enc)

theorem proved : Rows.FuseOwnsSaid := over
end Go.Proofs.Ytjiidjcehhdnbaa.fuseOwns
