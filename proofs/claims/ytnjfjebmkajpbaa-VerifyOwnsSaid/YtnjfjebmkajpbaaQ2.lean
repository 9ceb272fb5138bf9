/- The reference's depths: the walk. -/
import Derived.Test.YtnjfjebmkajpbaaK7
import Derived.Test.YtnjfjebmkajpbaaQ1
import Derived.Deep.RegionHeld3
import Derived.Deep.RegionWith
namespace Go.Proofs.Ytnjfjebmkajpbaa
open Go.ChangeShapes Go.WideShapes Go.ChangeAt Go.RowKit
set_option linter.unusedVariables false
set_option linter.unusedSimpArgs false

theorem hC_keep {w0 w : World} {q : Option Addr} {n : Nat} {C : Nat → Ins} (hC : IsCode w0 q n C) (h : Below w0.heap.size w0 w) : IsCode w q n C := Row.below hC h

/-- the starts, told so far -/
def StartR (C : Nat → Ins) (wS : World) (k : Nat) (v : Value) (wr : World) : Prop := wr.ownsRow wS.heap.size 3 1 v k (((List.range k).map (startF C)).map (Value.int .i64)) ∧ Below wS.heap.size wS wr
theorem StartR.next {C : Nat → Ins} {wS wr w2 : World} {k : Nat} {v v2 : Value} {d : Int} {o : Obj} (hr : StartR C wS k v wr) (hd : d = startF C k) (h2 : w2.ownsRow wS.heap.size 3 1 v2 (k + 1) ((((List.range k).map (startF C)).map (Value.int .i64)) ++ [.int .i64 d])) (hg : (wr.alloc o).grownBy w2 v.ownBlock) : StartR C wS (k + 1) v2 w2 := by
  have hws := hr.2.size
  have hb2 := below_of_append (hr.1.alloc o) hg (by simp only [World.size_alloc]; omega)
  refine ⟨?_, (hr.2.alloc hr.2.size o).trans hb2⟩
  rw [List.range_succ, List.map_append, List.map_append]
  simp only [List.map_cons, List.map_nil]
  rw [← hd]; exact h2
/-- the state of a pass over the places -/
structure PassR (n : Nat) (C : Nat → Ins) (wS : World) (g cap N0 : Nat) (ys : List Int) (b : Bool) (wr : World) : Prop where
  own : OwnI wr wS.heap.size g n cap ys
  snd : Snd n C ys
  le : negs ys ≤ N0
  lt : b = true → negs ys < N0
  bel : Below wS.heap.size wS wr
def PassL (n : Nat) (C : Nat → Ins) (wS : World) (go cap g : Nat) (b : Value) (wr : World) : Prop :=
  ∃ (ch : Bool) (ys : List Int), b = .bool ch ∧ OwnI wr wS.heap.size go n cap ys ∧ Snd n C ys ∧ (ch = false → ClosedD n C (gF ys)) ∧ negs ys + (if ch then 1 else 0) ≤ g ∧ Below wS.heap.size wS wr
def NextL (n : Nat) (C : Nat → Ins) (wS : World) (go cap N0 base j : Nat) (d : Int) (bb : Bool) (ys : List Int) (L : List Int) (vn : Value) (g : Nat) (b i : Value) (wr : World) : Prop :=
  ∃ (ch : Bool) (x : Nat) (ys' : List Int), b = .bool ch ∧ i = .int .i64 x ∧ x ≤ L.length ∧ L.length - x ≤ g ∧ PassR n C wS go cap N0 ys' ch wr ∧ gF ys' j = d ∧ (ch = false → bb = false ∧ ys' = ys) ∧
    (∀ (y : Nat) (hy : y < L.length), y < x → EdgeOK n C (gF ys') j L[y]) ∧ wr.ownsRow base 3 1 vn L.length (L.map (Value.int .i64))
theorem drew_own {wr : World} {base n : Nat} {v : Value} {xs : List Value} {e : TypeId} {size : Nat} (h : wr.ownsRow base e size v n xs) (m : Nat) : (wr.drewN m).ownsRow base e size v n xs := ownsRow_below h (below_drewN (Below.refl _ _) m)
section
variable {n : Nat} {C : Nat → Ins} {wS wr : World} {go gn cap N0 base j x g' : Nat} {d a : Int} {bb ch : Bool} {ys ys' L : List Int} {cn : Nat} {iv : Value}
theorem next_put (h : PassR n C wS go cap N0 ys' ch wr) (hg : wS.heap.size ≤ go) (hgn : go < gn) {qn : Nat} (s1 : Snd n C (ys'.set qn a)) (s4 : negs (ys'.set qn a) < negs ys') (hd : gF (ys'.set qn a) j = d)
    (hed : ∀ (y : Nat) (hy : y < L.length), y < x + 1 → EdgeOK n C (gF (ys'.set qn a)) j L[y]) (hnr : wr.ownsRow base 3 1 (.slice (some ⟨gn, 0, none⟩) L.length cn) L.length (L.map (Value.int .i64))) (hx : x + 1 ≤ L.length) (hgk : L.length - (x + 1) ≤ g') (m : Nat) (hi : iv = .int .i64 ((x + 1 : Nat) : Int)) :
    NextL n C wS go cap N0 base j d bb ys L (.slice (some ⟨gn, 0, none⟩) L.length cn) g' (.bool true) iv ((wr.drewN m).setCell ⟨go, qn, none⟩ (.int .i64 a)) := by
  have hle := h.le
  have hb : Below wS.heap.size wS (wr.drewN m) := below_drewN h.bel m
  refine ⟨true, x + 1, ys'.set qn a, rfl, hi, hx, hgk, ⟨OwnI.put (h.own.below (below_drewN (Below.refl _ _) m)) qn a, s1, by omega, fun _ => by omega, hb.setCell hg _⟩, hd, (fun e => by cases e), hed, ?_⟩
  refine ownsRow_setCell_other (drew_own hnr m) ?_ _
  simp [Value.ownBlock]; omega
theorem next_stay (h : PassR n C wS go cap N0 ys' ch wr) (hd : gF ys' j = d) (hk : ch = false → bb = false ∧ ys' = ys)
    (hed : ∀ (y : Nat) (hy : y < L.length), y < x + 1 → EdgeOK n C (gF ys') j L[y]) {vn : Value} (hnr : wr.ownsRow base 3 1 vn L.length (L.map (Value.int .i64))) (hx : x + 1 ≤ L.length) (hgk : L.length - (x + 1) ≤ g') (m : Nat) (hi : iv = .int .i64 ((x + 1 : Nat) : Int)) :
    NextL n C wS go cap N0 base j d bb ys L vn g' (.bool ch) iv (wr.drewN m) :=
  ⟨ch, x + 1, ys', rfl, hi, hx, hgk, ⟨h.own.below (below_drewN (Below.refl _ _) m), h.snd, h.le, h.lt, below_drewN h.bel m⟩, hd, hk, hed, drew_own hnr m⟩
end
def PlaceL (n : Nat) (C : Nat → Ins) (wS : World) (go cap N0 g : Nat) (b i : Value) (wr : World) : Prop :=
  ∃ (ch : Bool) (j : Nat) (ys : List Int), b = .bool ch ∧ i = .int .i64 j ∧ j ≤ n ∧ n - j ≤ g ∧ PassR n C wS go cap N0 ys ch wr ∧ (ch = false → ∀ x, x < j → 0 ≤ gF ys x → ClosedAtD n C (gF ys) x)

set_option maxRecDepth 100000 in
set_option maxHeartbeats 16000000 in
theorem rdepths_any {w0 w : World} {F : Nat → Nat → Value} (n5 c c5 : Nat) (p q : Option Addr) (sel : ByteArray) (args temps prim fields : Int) (ts : List LitT) (hl : IsLits w0 p ts.length F ts) (hB : Below w0.heap.size w0 w) (hc1 : ts.length ≤ c) (hc2 : c ≤ 9223372036854775807) (hc3 : n5 ≤ c5) (hc4 : c5 ≤ 9223372036854775807) (hs : sel.size ≤ 9223372036854775807) {C : Nat → Ins} (hC : IsCode w0 q n5 C) :
    Calls Try.prog 10 #[.agg #[.string sel, .int .i64 args, .int .i64 temps, .int .i64 prim, .slice p ts.length c, .slice q n5 c5], .int .i64 fields] w (DepthsPost (GoodM sel args temps prim fields ts n5 C) n5 C w) := by
  obtain ⟨i0, hi, hz0, hz1, hz2⟩ := info_parts infoI
  have hpl := rplain_any (fields := fields) n5 c c5 p q sel args temps prim ts hl (hB.alloc hB.size (.cells #[.string sel, .int .i64 args, .int .i64 temps, .int .i64 prim, .slice p ts.length c, .slice q n5 c5] 25)) hc1 hc2 hc3 hc4 hs hC
  have HPL := Lib.hid hpl
  clear hpl
  go_enter Try.func10, Try.ntmps10
  go_wp2_with fail
  (with_reducible refine HPL.out.mono ?_)
  rintro e w3 ⟨⟨rfl, hP⟩ | ⟨rfl, hP⟩, hb3⟩
  rotate_left
  · go_wp2_with fail
    go_ret2
    exact ⟨((Below.refl _ _).alloc (Nat.le_refl _) _).trans (hb3.mono (by go_size)), .inr ⟨fun h => hP h.1, rfl⟩⟩
  have c5' : w3.cell? ⟨w.heap.size, 5, none⟩ = some (.slice q n5 c5) := (hb3.cell (p := ⟨w.heap.size, 5, none⟩) (by go_size)).trans (by simp [go_sem])
  have hI : Inv w0 w w3 w3 := Inv.start hB (((Below.refl _ _).alloc (Nat.le_refl _) _).trans (hb3.mono (by go_size)))
  have hSm := plain_small hP
  have hAM : AllMay n5 C := fun j hj => (hP.2.2.2.2 j hj).1
  have hn5 : 1 ≤ n5 ∧ n5 ≤ 400 := by
    have h3 := hP.2.2.2.1
    unfold inB at h3
    simp only [Bool.and_eq_true, decide_eq_true_eq] at h3
    omega
  have HSM := Lib.hid hSm
  have HAM := Lib.hid hAM
  have HP := Lib.hid hP
  clear hP hSm hAM
  go_wp2_with fail
  (with_reducible refine (rowners_any hC hI.b0 HSM.out (by omega)).mono ?_)
  rintro e w4 ⟨v4, rfl, ⟨po, co, rfl, ho1, ho2, hrow, hbase⟩, hb4⟩
  have hI4 : Inv w0 w w3 w4 := hI.go hb4
  have hC4 : IsCode w4 q n5 C := hC_keep hC hI4.b0
  have hsh := rshape_any (c := c5) (co := co) hC4 hrow (Below.refl _ _) HSM.out (by omega)
  have HSH := Lib.hid hsh
  clear hsh
  cases hs' : shapeB n5 C
  · have HS := Lib.hid hs'
    clear hs'
    go_wp2_with fail
    (with_reducible refine HSH.out.mono ?_)
    rw [HS.out]
    rintro e w5 ⟨rfl, hb5⟩
    go_wp2_with fail
    go_ret2
    exact ⟨(hI4.go hb5).bw, .inr ⟨fun h => (by have := h.2.1; rw [HS.out] at this; cases this), rfl⟩⟩
  have HS := Lib.hid hs'
  clear hs'
  go_wp2_with fail
  (with_reducible refine HSH.out.mono ?_)
  rw [HS.out]
  rintro e w5 ⟨rfl, hb5⟩
  have hI5 : Inv w0 w w3 w5 := hI4.go hb5
  have HC5 : Hid (IsCode w5 q n5 C) := hC_keep hC hI5.b0
  have HR5 : Hid (Row w5 po n5 1 (fun i _ => .int .i64 (ownV n5 C i))) := hrow.below hb5
  have HBW := Lib.hid hI5.bw
  clear hI hI4 hI5 hC hC4 hrow hbase HSH HPL hb3 hb4 hb5 c5' hl hB
  go_wp2_with fail
  go_loopw [9, 10] (fun v i wr => ∃ k : Nat, k ≤ n5 ∧ i = .int .i64 k ∧ StartR C w5 k v wr) (fun _ i _ => n5 - (intOf i).toNat)
  case atStart => exact ⟨0, Nat.zero_le _, rfl, World.ownsRow_nil _ _ _ _, Below.refl _ _⟩
  case round =>
    as_aux_lemma =>
      obtain ⟨k, hk, rfl, hSR⟩ := hrel
      have HSR := Lib.hid hSR
      obtain ⟨hown, hBw⟩ := hSR
      have hws := hBw.size
      by_cases hlt : k < n5
      · have d1 : decide (k < n5) = true := decide_eq_true hlt
        match k, hk, hlt, d1, HSR, hown with
        | 0, hk, hlt, d1, HSR, hown =>
          have HRT : Hid (rootD C 0 = true) := rfl
          go_wp2_with (at_builtin; refine wpList_append_own _ rfl _ _ 29 rfl w5.heap.size 3 i0 (.int .i64 0) 1 8 Try.underlying29 hi hz0 hz1 hz2 rfl (by decide) _ _ _ rfl (hown.alloc _) ⟨wr.heap.size, 0, none⟩ 1 1 [.int .i64 (0)] rfl rfl (cells_newN _ _ _ _ (by simp)) (by simp [Value.oneCell']) (by unfold maxLen; omega) (by omega) (by simp only [World.size_alloc]; omega) ?_; intro v2 w2 hown3 hg2 _)
          go_roundw
          case rel => exact ⟨_, by omega, by go_num, HSR.out.next (show ((0) : Int) = startF C _ by unfold startF; rw [HRT.out]; rfl) hown3 hg2⟩
          case measure => simp [intOf]; omega
        | 1, hk, hlt, d1, HSR, hown =>
          have HRT : Hid (rootD C 1 = false) := rfl
          go_wp2_with (at_builtin; refine wpList_append_own _ rfl _ _ 29 rfl w5.heap.size 3 i0 (.int .i64 0) 1 8 Try.underlying29 hi hz0 hz1 hz2 rfl (by decide) _ _ _ rfl (hown.alloc _) ⟨wr.heap.size, 0, none⟩ 1 1 [.int .i64 (-1)] rfl rfl (cells_newN _ _ _ _ (by simp)) (by simp [Value.oneCell']) (by unfold maxLen; omega) (by omega) (by simp only [World.size_alloc]; omega) ?_; intro v2 w2 hown3 hg2 _)
          go_roundw
          case rel => exact ⟨_, by omega, by go_num, HSR.out.next (show ((-1) : Int) = startF C _ by unfold startF; rw [HRT.out]; rfl) hown3 hg2⟩
          case measure => simp [intOf]; omega
        | j + 2, hk, hlt, d1, HSR, hown =>
          have hj : j < n5 := by omega
          obtain ⟨bb, off, rfl, hlt0, c0, _, _⟩ := HC5.out.at_ hBw hj
          have g2 : (0 : Int) ≤ (j : Int) := by omega
          have g3 : (j : Int) < (n5 : Int) := by omega
          have g4 : (j : Int) + 2 < (n5 : Int) := by omega
          have g6 : ((j : Int) + 2 == 0) = false := by simp; omega
          have g7 : decide (1 < (j : Int) + 2) = true := decide_eq_true (by omega)
          have g71 : decide (2 ≤ (j : Int) + 2) = true := decide_eq_true (by omega)
          have g8 : (0 : Int) ≤ (j : Int) + 2 := by omega
          have g9 : (1 : Int) < (j : Int) + 2 := by omega
          cases q18 : (C j).op == 18
          · have HRT : Hid (rootD C (j + 2) = false) := by show _ = _; unfold rootD; simp [q18]
            go_wp2_with (at_builtin; refine wpList_append_own _ rfl _ _ 29 rfl w5.heap.size 3 i0 (.int .i64 0) 1 8 Try.underlying29 hi hz0 hz1 hz2 rfl (by decide) _ _ _ rfl (hown.alloc _) ⟨wr.heap.size, 0, none⟩ 1 1 [.int .i64 (-1)] rfl rfl (cells_newN _ _ _ _ (by simp)) (by simp [Value.oneCell']) (by unfold maxLen; omega) (by omega) (by simp only [World.size_alloc]; omega) ?_; intro v2 w2 hown3 hg2 _)
            go_roundw
            case rel => exact ⟨_, by omega, by go_num, HSR.out.next (show ((-1) : Int) = startF C _ by unfold startF; rw [HRT.out]; rfl) hown3 hg2⟩
            case measure => simp [intOf]; omega
          · have HRT : Hid (rootD C (j + 2) = true) := by show _ = _; unfold rootD; simp [q18]
            go_wp2_with (at_builtin; refine wpList_append_own _ rfl _ _ 29 rfl w5.heap.size 3 i0 (.int .i64 0) 1 8 Try.underlying29 hi hz0 hz1 hz2 rfl (by decide) _ _ _ rfl (hown.alloc _) ⟨wr.heap.size, 0, none⟩ 1 1 [.int .i64 (0)] rfl rfl (cells_newN _ _ _ _ (by simp)) (by simp [Value.oneCell']) (by unfold maxLen; omega) (by omega) (by simp only [World.size_alloc]; omega) ?_; intro v2 w2 hown3 hg2 _)
            go_roundw
            case rel => exact ⟨_, by omega, by go_num, HSR.out.next (show ((0) : Int) = startF C _ by unfold startF; rw [HRT.out]; rfl) hown3 hg2⟩
            case measure => simp [intOf]; omega
      · have hkn : k = n5 := by omega
        have d1 : decide (k < n5) = false := decide_eq_false hlt
        clear hlt
        subst hkn
        obtain ⟨go, cap, rfl, hgo1, hgo2⟩ := own_form_pos hown (by omega)
        have hown' : OwnI wr w5.heap.size go k cap ((List.range k).map (startF C)) := hown
        have hsnd := start_snd k C
        have HOWN := Lib.hid hown'
        have HSND := Lib.hid hsnd
        have HBS := Lib.hid hBw
        clear hown hown' hsnd hBw HSR hws
        go_wp2_with fail
        go_loopg [12] (negs ((List.range k).map (startF C)) + 1) (fun g b wr => PassL k C w5 go cap g b wr)
        case atStart => exact ⟨true, _, rfl, HOWN.out, HSND.out, (fun h => by cases h), by simp, HBS.out⟩
        case round =>
          as_aux_lemma =>
            clear HOWN HSND HBS
            obtain ⟨ch, ys0, rfl, hown, hsnd, hcl, hgk, hBw⟩ := hrel
            have HOWN := Lib.hid hown
            have HSND := Lib.hid hsnd
            have HGK := Lib.hid hgk
            have HBS := Lib.hid hBw
            clear hown hsnd hgk hBw
            cases ch
            · have HCL : Hid (ClosedD k C (gF ys0)) := hcl rfl
              clear hcl
              go_wp2_with fail
              go_ret2
              refine ⟨HBW.out.trans (HBS.out.mono HBW.out.size), .inl ⟨⟨HP.out, HS.out, goodD HAM.out HSND.out.sound HCL.out⟩, _, gF ys0, rfl, ?_, HSND.out.sound, HCL.out⟩⟩
              obtain ⟨p', c', h1, h2, h3, h4, h5⟩ := HOWN.out.row (F := gF ys0) (fun j hj => rfl)
              exact ⟨p', c', h1, h2, h3, h4, fun b off e => ⟨Nat.le_trans HBW.out.size (h5 b off e).1, (h5 b off e).2⟩⟩
            · go_wp2_with fail
              go_loopg [12, 13] k (fun g b i wr => PlaceL k C w5 go cap (negs ys0) g b i wr)
              case atStart => exact ⟨false, 0, ys0, rfl, rfl, Nat.zero_le _, by omega, ⟨HOWN.out, HSND.out, Nat.le_refl _, (fun h => by cases h), HBS.out⟩, fun _ x hx => absurd hx (by omega)⟩
              case round =>
                as_aux_lemma =>
                  obtain ⟨bb, j, ys, rfl, rfl, hj, hgj, hPR, hclj⟩ := hrel
                  have HPR := Lib.hid hPR
                  have HCLJ := Lib.hid hclj
                  clear hPR hclj
                  by_cases hjk : j < k
                  · have d2 : decide (j < k) = true := decide_eq_true hjk
                    have g0 : (0 : Int) ≤ (j : Int) := by omega
                    have g1 : (j : Int) < (k : Int) := by omega
                    have cy := HPR.out.own.cell hjk
                    obtain ⟨d, hd⟩ : ∃ d, ys.getD j 0 = d := ⟨_, rfl⟩
                    have HDD : Hid (gF ys j = d) := hd
                    rw [hd] at cy
                    clear hd
                    by_cases hneg : d < 0
                    · have d3 : decide (d < 0) = true := decide_eq_true hneg
                      go_wp2_with fail
                      go_roundg (gk - 1)
                      case measure => omega
                      case rel => exact ⟨bb, j + 1, ys, rfl, by go_num, by omega, by omega, HPR.out, fun e x hx h0 => (by
                          rcases Nat.lt_or_ge x j with h | h
                          · exact HCLJ.out e x h h0
                          · obtain rfl : x = j := by omega
                            rw [HDD.out] at h0; omega)⟩
                    · have d3 : decide (d < 0) = false := decide_eq_false hneg
                      have hBS := HPR.out.bel
                      obtain ⟨bb', off, rfl, hlt0, e0, e1, e2⟩ := HC5.out.at_ hBS hjk
                      obtain ⟨b2, off2, rfl, hlt2, v0⟩ := row_int HR5.out hBS hjk
                      obtain ⟨i, hi'⟩ : ∃ i, C j = i := ⟨_, rfl⟩
                      have HI := Lib.hid hi'
                      have hmay : mayB i = true := by rw [← hi']; exact HAM.out j hjk
                      have hgd := grows_bd hmay
                      have hnd := needs_bd hmay
                      have htp := target_pos hmay
                      have hmb := may_bounds hmay
                      rw [hi'] at e0 e1 e2
                      have hreach := HPR.out.snd.sound.1 j hjk (by rw [HDD.out]; omega)
                      have hd24 := reach_le hreach
                      rw [HDD.out] at hd24
                      obtain ⟨o, ho⟩ : ∃ o, ownV k C j = o := ⟨_, rfl⟩
                      have HO := Lib.hid ho
                      rw [ho] at v0
                      obtain ⟨gr, hgr⟩ : ∃ gr, growsV i = gr := ⟨_, rfl⟩
                      obtain ⟨nd, hnd'⟩ : ∃ nd, needsV i = nd := ⟨_, rfl⟩
                      obtain ⟨tv, htv⟩ : ∃ tv, targetV i = tv := ⟨_, rfl⟩
                      rw [hgr] at hgd
                      rw [hnd'] at hnd
                      rw [htv] at htp
                      have HGR := Lib.hid hgr
                      have HND := Lib.hid hnd'
                      have HTV := Lib.hid htv
                      have HTL := Lib.hid htp.1
                      have hgo5 := HPR.out.own.base_le
                      have hws := hBS.size
                      obtain ⟨m1, m2, m3, m4, m5, m6⟩ := hmb
                      obtain ⟨hg1, hg2⟩ := hgd
                      obtain ⟨hn1, hn2⟩ := hnd
                      have ht1 := htp.2.1
                      have ht2 := htp.2.2
                      have y1 : -1000000 ≤ i.a := by omega
                      have y2 : i.a ≤ 1000000 := by omega
                      have z1 : -1000000 ≤ i.b := by omega
                      have z2 : i.b ≤ 1000000 := by omega
                      have HMAY := Lib.hid hmay
                      have hwr : IntKind.i64.wrap (d + gr) = d + gr := by rw [IntKind.wrap_i64]; omega
                      have HCH : Hid (chkD k C j (gF ys j) = (decide (nd ≤ d) && decide (d + gr ≤ 24) && (if i.op = 19 then d == 1 && decide (0 ≤ o) else true))) := by
                        show _ = _; unfold chkD; rw [HDD.out, HI.out, HGR.out, HND.out, HO.out]
                      clear hi' ho hgr hnd' htv htp hmay hreach m1 m2 m3 m4 m5 m6
                      go_wp2_with fail
                      obtain ⟨w6, hw6⟩ : ∃ w6, wr.alloc (.cells #[.int .i64 i.op, .int .i64 i.a, .int .i64 i.b] 37) = w6 := ⟨_, rfl⟩
                      have hb6 : Below wr.heap.size wr w6 := by rw [← hw6]; exact (Below.refl _ _).alloc (Nat.le_refl _) _
                      have t0 : w6.cell? ⟨wr.heap.size, 0, none⟩ = some (.int .i64 i.op) := by rw [← hw6]; simp [go_sem]
                      have t1 : w6.cell? ⟨wr.heap.size, 1, none⟩ = some (.int .i64 i.a) := by rw [← hw6]; simp [go_sem]
                      have t2 : w6.cell? ⟨wr.heap.size, 2, none⟩ = some (.int .i64 i.b) := by rw [← hw6]; simp [go_sem]
                      have c6 := below_cell hb6 cy
                      have v6 := below_cell hb6 v0
                      have hz6 : wr.heap.size < w6.heap.size := cell_lt t0
                      rw [hw6]
                      clear hw6 e0 e1 e2 cy v0
                      go_cut [15] (fun v wx => v = .int .i64 (d + gr) ∧ Below w6.heap.size w6 wx)
                      case first =>
                        as_aux_lemma =>
                          go_region_held3 (fun w' => w'.cell? ⟨go, j, none⟩ = some (.int .i64 d) ∧ w'.cell? ⟨wr.heap.size, 0, none⟩ = some (.int .i64 i.op) ∧ w'.cell? ⟨wr.heap.size, 1, none⟩ = some (.int .i64 i.a) ∧ w'.cell? ⟨wr.heap.size, 2, none⟩ = some (.int .i64 i.b) ∧ w'.cell? ⟨b2, off2 + j, none⟩ = some (.int .i64 o)) (first | assumption | (simp [go_sem]; done) | (simp [go_sem, *]; done)) (first | (go_at_call 27; (with_reducible refine (rgrows_any _ _ _ _ z1 z2).mono ?_); rw [show growsV ⟨i.op, i.a, i.b⟩ = gr from HGR.out]; rintro e w7 ⟨rfl, hb7⟩; have hb7' := (show Below w6.heap.size w6 _ by (repeat' (first | (with_reducible exact Below.refl _ _) | (with_reducible assumption) | (with_reducible refine below_drewN ?_ _) | (with_reducible refine Below.alloc ?_ ?_ _) | (with_reducible refine Below.drew ?_) | (with_reducible refine Below.setCell ?_ ?_ _) | go_size))).trans (hb7.mono (by go_size)); have j0 := below_cell hb7' c6; have j1 := below_cell hb7' t0; have j2 := below_cell hb7' t1; have j3 := below_cell hb7' t2; have j4 := below_cell hb7' v6; have HB7 := Lib.hid hb7'))
                          go_wp2_with fail
                          go_meet
                          exact ⟨by go_num, (show Below w6.heap.size w6 _ by first | exact HB7.out | (repeat' (first | (with_reducible exact Below.refl _ _) | (with_reducible assumption) | (with_reducible refine below_drewN ?_ _) | (with_reducible refine Below.alloc ?_ ?_ _) | (with_reducible refine Below.drew ?_) | (with_reducible refine Below.setCell ?_ ?_ _) | go_size)))⟩
                      case rest =>
                        as_aux_lemma =>
                          obtain ⟨rfl, hbx⟩ := hcut
                          rename World => w7
                          have hb7 := hb6.trans (hbx.mono (Nat.le_of_lt hz6))
                          have c7 := below_cell hbx c6
                          have s0 := below_cell hbx t0
                          have s1 := below_cell hbx t1
                          have s2 := below_cell hbx t2
                          have v7 := below_cell hbx v6
                          clear c6 t0 t1 t2 v6
                          have hz7 : wr.heap.size < w7.heap.size := cell_lt s0
                          clear hb6 hz6 hbx
                          obtain ⟨e1, he1⟩ : ∃ e1, (decide (d < nd) || decide (24 < d + gr)) = e1 := ⟨_, rfl⟩
                          have HE1 := Lib.hid he1
                          clear he1
                          go_wp2_with fail
                          go_cut [91] (fun v wx => v = .bool e1 ∧ Below w7.heap.size w7 wx)
                          case first =>
                            as_aux_lemma =>
                              by_cases f1 : d < nd
                              · have f1' : decide (d < nd) = true := decide_eq_true f1
                                have F : Hid (e1 = true) := by show _ = _; rw [← HE1.out, f1']; rfl
                                first | (go_region_with (go_at_call 28; (with_reducible refine (rneeds_any _ _ _ _ z1 z2).mono ?_); rw [show needsV ⟨i.op, i.a, i.b⟩ = nd from HND.out]; rintro e w8 ⟨rfl, hb8⟩; have hb8' := (show Below w7.heap.size w7 _ by (repeat' (first | (with_reducible exact Below.refl _ _) | (with_reducible assumption) | (with_reducible refine below_drewN ?_ _) | (with_reducible refine Below.alloc ?_ ?_ _) | (with_reducible refine Below.drew ?_) | (with_reducible refine Below.setCell ?_ ?_ _) | go_size))).trans (hb8.mono (by go_size)); have j0 := below_cell hb8' c7; have j1 := below_cell hb8' s0; have j2 := below_cell hb8' s1; have j3 := below_cell hb8' s2; have j4 := below_cell hb8' v7; have HB8 := Lib.hid hb8')) | fail
                                all_goals (go_wp2_with fail; go_meet; exact ⟨by rw [F.out], (show Below w7.heap.size w7 _ by first | exact HB8.out | (repeat' (first | (with_reducible exact Below.refl _ _) | (with_reducible assumption) | (with_reducible refine below_drewN ?_ _) | (with_reducible refine Below.alloc ?_ ?_ _) | (with_reducible refine Below.drew ?_) | (with_reducible refine Below.setCell ?_ ?_ _) | go_size)))⟩)
                              · have f1' : decide (d < nd) = false := decide_eq_false f1
                                by_cases f2 : 24 < d + gr
                                · have f2' : decide (24 < d + gr) = true := decide_eq_true f2
                                  have F : Hid (e1 = true) := by show _ = _; rw [← HE1.out, f1', f2']; rfl
                                  first | (go_region_held3 (fun w' => w'.cell? ⟨go, j, none⟩ = some (.int .i64 d) ∧ w'.cell? ⟨wr.heap.size, 0, none⟩ = some (.int .i64 i.op) ∧ w'.cell? ⟨wr.heap.size, 1, none⟩ = some (.int .i64 i.a) ∧ w'.cell? ⟨wr.heap.size, 2, none⟩ = some (.int .i64 i.b) ∧ w'.cell? ⟨b2, off2 + j, none⟩ = some (.int .i64 o)) (first | assumption | (simp [go_sem]; done) | (simp [go_sem, *]; done)) (first | (go_at_call 28; (with_reducible refine (rneeds_any _ _ _ _ z1 z2).mono ?_); rw [show needsV ⟨i.op, i.a, i.b⟩ = nd from HND.out]; rintro e w8 ⟨rfl, hb8⟩; have hb8' := (show Below w7.heap.size w7 _ by (repeat' (first | (with_reducible exact Below.refl _ _) | (with_reducible assumption) | (with_reducible refine below_drewN ?_ _) | (with_reducible refine Below.alloc ?_ ?_ _) | (with_reducible refine Below.drew ?_) | (with_reducible refine Below.setCell ?_ ?_ _) | go_size))).trans (hb8.mono (by go_size)); have j0 := below_cell hb8' c7; have j1 := below_cell hb8' s0; have j2 := below_cell hb8' s1; have j3 := below_cell hb8' s2; have j4 := below_cell hb8' v7; have HB8 := Lib.hid hb8'))) | fail
                                  go_wp2_with fail
                                  go_meet
                                  exact ⟨by rw [F.out], (show Below w7.heap.size w7 _ by first | exact HB8.out | (repeat' (first | (with_reducible exact Below.refl _ _) | (with_reducible assumption) | (with_reducible refine below_drewN ?_ _) | (with_reducible refine Below.alloc ?_ ?_ _) | (with_reducible refine Below.drew ?_) | (with_reducible refine Below.setCell ?_ ?_ _) | go_size)))⟩
                                · have f2' : decide (24 < d + gr) = false := decide_eq_false f2
                                  have F : Hid (e1 = false) := by show _ = _; rw [← HE1.out, f1', f2']; rfl
                                  first | (go_region_held3 (fun w' => w'.cell? ⟨go, j, none⟩ = some (.int .i64 d) ∧ w'.cell? ⟨wr.heap.size, 0, none⟩ = some (.int .i64 i.op) ∧ w'.cell? ⟨wr.heap.size, 1, none⟩ = some (.int .i64 i.a) ∧ w'.cell? ⟨wr.heap.size, 2, none⟩ = some (.int .i64 i.b) ∧ w'.cell? ⟨b2, off2 + j, none⟩ = some (.int .i64 o)) (first | assumption | (simp [go_sem]; done) | (simp [go_sem, *]; done)) (first | (go_at_call 28; (with_reducible refine (rneeds_any _ _ _ _ z1 z2).mono ?_); rw [show needsV ⟨i.op, i.a, i.b⟩ = nd from HND.out]; rintro e w8 ⟨rfl, hb8⟩; have hb8' := (show Below w7.heap.size w7 _ by (repeat' (first | (with_reducible exact Below.refl _ _) | (with_reducible assumption) | (with_reducible refine below_drewN ?_ _) | (with_reducible refine Below.alloc ?_ ?_ _) | (with_reducible refine Below.drew ?_) | (with_reducible refine Below.setCell ?_ ?_ _) | go_size))).trans (hb8.mono (by go_size)); have j0 := below_cell hb8' c7; have j1 := below_cell hb8' s0; have j2 := below_cell hb8' s1; have j3 := below_cell hb8' s2; have j4 := below_cell hb8' v7; have HB8 := Lib.hid hb8'))) | fail
                                  go_wp2_with fail
                                  go_meet
                                  exact ⟨by rw [F.out], (show Below w7.heap.size w7 _ by first | exact HB8.out | (repeat' (first | (with_reducible exact Below.refl _ _) | (with_reducible assumption) | (with_reducible refine below_drewN ?_ _) | (with_reducible refine Below.alloc ?_ ?_ _) | (with_reducible refine Below.drew ?_) | (with_reducible refine Below.setCell ?_ ?_ _) | go_size)))⟩
                          case rest =>
                            as_aux_lemma =>
                              obtain ⟨rfl, hbx⟩ := hcut
                              rename World => w8
                              have hb8 := hb7.trans (hbx.mono (Nat.le_of_lt hz7))
                              have c8 := below_cell hbx c7
                              have r0 := below_cell hbx s0
                              have r1 := below_cell hbx s1
                              have r2 := below_cell hbx s2
                              have v8 := below_cell hbx v7
                              clear c7 s0 s1 s2 v7
                              have hz8 : wr.heap.size < w8.heap.size := cell_lt r0
                              clear hb7 hz7 hbx
                              cases e1
                              rotate_left
                              · go_wp2_with fail
                                go_ret2
                                exact ⟨(HBW.out.trans ((hBS.trans (hb8.mono hws)).mono HBW.out.size)), .inr ⟨fun h => h.2.2 (snd_bad HPR.out.snd hjk (by rw [HDD.out]; omega) (by rw [HCH.out]; exact chk_left HE1.out)), rfl⟩⟩
                              obtain ⟨n1, n2⟩ := chk_left_no HE1.out
                              obtain ⟨e2, he2⟩ : ∃ e2, ((i.op == 19) && ((d != 1) || decide (o < 0))) = e2 := ⟨_, rfl⟩
                              have HE2 := Lib.hid he2
                              clear he2
                              go_upto_region 28 with (fail)
                              go_cut [108] (fun v wx => v = .bool e2 ∧ w8 = wx)
                              case first =>
                                as_aux_lemma =>
                                  cases e19 : i.op == 19
                                  · have F : Hid (e2 = false) := by show _ = _; rw [← HE2.out, e19]; rfl
                                    go_wp2_with fail
                                    go_meet
                                    exact ⟨by rw [F.out], rfl⟩
                                  · cases e3 : d != 1
                                    · cases e4 : decide (o < 0)
                                      · have F : Hid (e2 = false) := by show _ = _; rw [← HE2.out, e19, e3, e4]; rfl
                                        have e4' : ¬ o < 0 := of_decide_eq_false e4
                                        go_wp2_with fail
                                        go_meet
                                        exact ⟨by rw [F.out], rfl⟩
                                      · have F : Hid (e2 = true) := by show _ = _; rw [← HE2.out, e19, e3, e4]; rfl
                                        have e4' : o < 0 := of_decide_eq_true e4
                                        go_wp2_with fail
                                        go_meet
                                        exact ⟨by rw [F.out], rfl⟩
                                    · have F : Hid (e2 = true) := by show _ = _; rw [← HE2.out, e19, e3]; rfl
                                      go_wp2_with fail
                                      go_meet
                                      exact ⟨by rw [F.out], rfl⟩
                              case rest =>
                                as_aux_lemma =>
                                  obtain ⟨rfl, rfl⟩ := hcut
                                  cases e2
                                  rotate_left
                                  · go_wp2_with fail
                                    go_ret2
                                    exact ⟨(HBW.out.trans ((hBS.trans (hb8.mono hws)).mono HBW.out.size)), .inr ⟨fun h => h.2.2 (snd_bad HPR.out.snd hjk (by rw [HDD.out]; omega) (by rw [HCH.out]; exact chk_right HE2.out)), rfl⟩⟩
                                  have hck : chkD k C j (gF ys j) = true := by rw [HCH.out]; exact chk_yes n1 n2 HE2.out
                                  have HCK := Lib.hid hck
                                  clear hck
                                  obtain ⟨nb, hnb⟩ : ∃ nb, ((i.op != 16) && ((i.op != 19) && (i.op != 20))) = nb := ⟨_, rfl⟩
                                  have HNB := Lib.hid hnb
                                  have HNA : Hid (nextA C j = if nb then [(j : Int) + 1] else []) := by show _ = _; rw [← hnb]; unfold nextA; rw [HI.out]; exact next_if _ _
                                  clear hnb
                                  go_upto_region 31 with (fail)
                                  go_cut [121] (fun v wx => v = .bool nb ∧ w8 = wx)
                                  case first =>
                                    as_aux_lemma =>
                                      cases x1 : i.op != 16
                                      · have F : Hid (nb = false) := by show _ = _; rw [← HNB.out, x1]; rfl
                                        go_wp2_with fail
                                        go_meet
                                        exact ⟨by rw [F.out], rfl⟩
                                      · cases x2 : i.op != 19
                                        · have F : Hid (nb = false) := by show _ = _; rw [← HNB.out, x1, x2]; rfl
                                          go_wp2_with fail
                                          go_meet
                                          exact ⟨by rw [F.out], rfl⟩
                                        · obtain ⟨x3', x3⟩ : ∃ x3', (i.op != 20) = x3' := ⟨_, rfl⟩
                                          have F : Hid (nb = x3') := by show _ = _; rw [← HNB.out, x1, x2, x3]; rfl
                                          go_wp2_with fail
                                          go_meet
                                          exact ⟨by rw [F.out], rfl⟩
                                  case rest =>
                                    as_aux_lemma =>
                                      obtain ⟨rfl, rfl⟩ := hcut
                                      go_upto_if 121 with (fail)
                                      go_cut [16] (fun v wx => wx.ownsRow w8.heap.size 3 1 v (nextA C j).length ((nextA C j).map (Value.int .i64)) ∧ Below w8.heap.size w8 wx)
                                      case first =>
                                        as_aux_lemma =>
                                          cases nb
                                          · have HN : Hid (nextA C j = []) := HNA.out
                                            go_wp2_with fail
                                            go_meet
                                            exact ⟨by rw [HN.out]; exact World.ownsRow_nil _ _ _ _, Below.refl _ _⟩
                                          · have HN : Hid (nextA C j = [(j : Int) + 1]) := HNA.out
                                            have hnil := World.ownsRow_nil w8 w8.heap.size 3 1
                                            have HNIL := Lib.hid hnil
                                            clear hnil
                                            go_wp2_with (at_builtin; refine wpList_append_own _ rfl _ _ 29 rfl w8.heap.size 3 i0 (.int .i64 0) 1 8 Try.underlying29 hi hz0 hz1 hz2 rfl (by decide) _ _ _ rfl (HNIL.out.alloc _) ⟨_, 0, none⟩ 1 1 [.int .i64 ((j : Int) + 1)] rfl rfl (cells_newN _ _ _ _ (by simp)) (by simp [Value.oneCell']) (by unfold maxLen; omega) (by omega) (by simp only [World.size_alloc]; omega) ?_; intro v2 w2 hown3 hg2 _)
                                            go_meet
                                            exact ⟨by rw [HN.out]; exact hown3, ((Below.refl _ _).alloc (Nat.le_refl _) _).trans (below_of_append (HNIL.out.alloc _) hg2 (by simp only [World.size_alloc]; omega))⟩
                                      case rest =>
                                        as_aux_lemma =>
                                          obtain ⟨hna, hbx⟩ := hcut
                                          rename World => w9
                                          have HNAR := Lib.hid hna
                                          have hb9 := hb8.trans (hbx.mono (Nat.le_of_lt hz8))
                                          have HB89 := Lib.hid hbx
                                          have c9 := below_cell hbx c8
                                          have q0 := below_cell hbx r0
                                          have q1 := below_cell hbx r1
                                          have q2 := below_cell hbx r2
                                          have v9 := below_cell hbx v8
                                          clear c8 r0 r1 r2 v8
                                          have hz9 : wr.heap.size < w9.heap.size := cell_lt q0
                                          have hz89 := hbx.size
                                          obtain ⟨Aa, ca, rfl⟩ := own_form hna
                                          clear hbx hna hb8 HNA
                                          go_wp2_with fail
                                          (with_reducible refine (rtarget_any _ _ _ _ y1 y2 z1 z2).mono ?_)
                                          rw [show targetV ⟨i.op, i.a, i.b⟩ = tv from HTV.out]
                                          rintro e w10 ⟨rfl, hb10⟩
                                          have hna10 := ownsRow_below HNAR.out hb10
                                          have HN10 := Lib.hid hna10
                                          clear hna10
                                          go_upto_if 130 with (fail)
                                          go_cut [16] (fun v wx => wx.ownsRow w8.heap.size 3 1 v (nextA C j ++ nextB C j).length ((nextA C j ++ nextB C j).map (Value.int .i64)) ∧ Below w8.heap.size w10 wx)
                                          case first =>
                                            as_aux_lemma =>
                                              by_cases htv : 0 ≤ tv
                                              · have htv' : decide (0 ≤ tv) = true := decide_eq_true htv
                                                have HN : Hid (nextB C j = [tv]) := by show _ = _; unfold nextB; rw [HI.out, HTV.out, if_pos htv]
                                                have hla : (nextA C j).length ≤ 1 := next_len _ _
                                                have hz10 := hb10.size
                                                go_wp2_with (at_builtin; refine wpList_append_own _ rfl _ _ 29 rfl w8.heap.size 3 i0 (.int .i64 0) 1 8 Try.underlying29 hi hz0 hz1 hz2 rfl (by decide) _ _ _ rfl (HN10.out.alloc _) ⟨_, 0, none⟩ 1 1 [.int .i64 (tv)] rfl rfl (cells_newN _ _ _ _ (by simp)) (by simp [Value.oneCell']) (by unfold maxLen; omega) (by omega) (by simp only [World.size_alloc]; omega) ?_; intro v2 w2 hown3 hg2 _)
                                                go_meet
                                                exact ⟨by rw [HN.out, List.length_append, List.map_append]; exact hown3, ((Below.refl _ _).alloc (by omega) _).trans (below_of_append (HN10.out.alloc _) hg2 (by simp only [World.size_alloc]; omega))⟩
                                              · have htv' : decide (0 ≤ tv) = false := decide_eq_false htv
                                                have HN : Hid (nextB C j = []) := by show _ = _; unfold nextB; rw [HI.out, HTV.out, if_neg htv]
                                                go_wp2_with fail
                                                go_meet
                                                exact ⟨by rw [HN.out, List.append_nil]; exact HN10.out, Below.refl _ _⟩
                                          case rest =>
                                            as_aux_lemma =>
                                              obtain ⟨hnr, hbx⟩ := hcut
                                              rename World => w11
                                              have hb11 : Below wr.heap.size wr w11 := (hb9.trans (hb10.mono (Nat.le_of_lt hz9))).trans (hbx.mono (Nat.le_of_lt hz8))
                                              have HSU : Hid (succD C j = nextA C j ++ nextB C j) := succ_next (by rw [HI.out]; exact HMAY.out)
                                              have hnat : ∀ (x : Nat) (hx : x < (nextA C j ++ nextB C j).length), ∃ qn : Nat, (nextA C j ++ nextB C j)[x] = (qn : Int) ∧ qn ≤ 100401 := fun x hx => by
                                                obtain ⟨qn, h1, h2⟩ := next_nat (by rw [HI.out]; exact HMAY.out) hx
                                                exact ⟨qn, h1, by omega⟩
                                              obtain ⟨L, hL⟩ : ∃ L, nextA C j ++ nextB C j = L := ⟨_, rfl⟩
                                              have hL2 : L.length ≤ 2 := by rw [← hL]; exact next_len2 C j
                                              rw [hL] at hnr HSU
                                              have HNAT : Hid (∀ (x : Nat) (hx : x < L.length), ∃ qn : Nat, L[x] = (qn : Int) ∧ qn ≤ 100401) := by rw [← hL]; exact hnat
                                              have HNR := Lib.hid hnr
                                              have HB11 := Lib.hid hb11
                                              have hw8 : wr.heap.size ≤ w8.heap.size := by omega
                                              obtain ⟨An, cn, rfl⟩ := own_form hnr
                                              clear hL hnat hnr hbx hb10 HN10 HNAR hb9 hz89 HB89 c9 q0 q1 q2 v9 hb11
                                              go_wp2_with fail
                                              obtain ⟨gp, hgp1, hgp2⟩ : ∃ gp, gp < gk ∧ k - (j + 1) ≤ gp := ⟨gk - 1, by omega, by omega⟩
                                              have hst : NextL k C w5 go cap (negs ys0) w8.heap.size j d bb ys L (.slice An L.length cn) L.length (.bool bb) (.int .i64 (0 : Nat)) w11 := ⟨bb, 0, ys, rfl, rfl, Nat.zero_le _, by omega, ⟨HPR.out.own.below HB11.out, HPR.out.snd, HPR.out.le, HPR.out.lt, hBS.trans (HB11.out.mono hws)⟩, HDD.out, fun e => ⟨e, rfl⟩, fun y hy hyx => absurd hyx (by omega), HNR.out⟩
                                              have HST := Lib.hid hst
                                              clear hst HB11 HNR
                                              go_loopg [12, 18] L.length (fun g b i wr => NextL k C w5 go cap (negs ys0) w8.heap.size j d bb ys L (.slice An L.length cn) g b i wr)
                                              case atStart => exact HST.out
                                              case round =>
                                                as_aux_lemma =>
                                                  clear HST hBS HPR hgj
                                                  obtain ⟨ch, x, ys', rfl, rfl, hx, hgx, hPR', hd', hkeep, hedge, hnr'⟩ := hrel
                                                  have HPR' := Lib.hid hPR'
                                                  have HD' : Hid (gF ys' j = gF ys j) := by show _ = _; rw [hd', HDD.out]
                                                  have HKEEP := Lib.hid hkeep
                                                  have HEDGE := Lib.hid hedge
                                                  have HNR' := Lib.hid hnr'
                                                  clear hPR' hd' hkeep hedge
                                                  by_cases hxl : x < L.length
                                                  · have d5 : decide (x < L.length) = true := decide_eq_true hxl
                                                    have x0 : (0 : Int) ≤ (x : Int) := by omega
                                                    have x1 : (x : Int) < (L.length : Int) := by omega
                                                    have hx1 : x + 1 ≤ L.length := by omega
                                                    have hx2 : L.length - (x + 1) ≤ gk - 1 := by omega
                                                    obtain ⟨qn, hq, hq2⟩ := HNAT.out x hxl
                                                    obtain ⟨gn, cn', hen, hgn1, hgn2⟩ := own_form_pos hnr' (by omega)
                                                    obtain ⟨rfl, rfl⟩ : An = some ⟨gn, 0, none⟩ ∧ cn = cn' := by cases hen; exact ⟨rfl, rfl⟩
                                                    have cx : wr.cell? ⟨gn, x, none⟩ = some (.int .i64 (qn : Int)) := by
                                                      rw [World.ownsRow.cellAt hnr' x (by simp; omega), List.getElem?_map, List.getElem?_eq_getElem hxl, hq]; rfl
                                                    have hmem : (qn : Int) ∈ succD C j := by rw [HSU.out, ← hq]; exact List.getElem_mem _
                                                    have hlast : ∀ (F : Nat → Int), EdgeOK k C F j (qn : Int) → (∀ (y : Nat) (hy : y < L.length), y < x → EdgeOK k C F j L[y]) → ∀ (y : Nat) (hy : y < L.length), y < x + 1 → EdgeOK k C F j L[y] := fun F h1 h2 y hy hyx => by
                                                      rcases Nat.lt_or_ge y x with h | h
                                                      · exact h2 y hy h
                                                      · obtain rfl : y = x := by omega
                                                        rw [hq]; exact h1
                                                    have HLAST := Lib.hid hlast
                                                    have hBS' := HPR'.out.bel
                                                    obtain ⟨b2', off2', heb, _, v0⟩ := row_int HR5.out hBS' hjk
                                                    obtain ⟨rfl, rfl⟩ : b2 = b2' ∧ off2 = off2' := by cases heb; exact ⟨rfl, rfl⟩
                                                    rw [HO.out] at v0
                                                    have hck' : chkD k C j (gF ys' j) = true := by rw [HD'.out]; exact HCK.out
                                                    have h0' : 0 ≤ gF ys' j := by rw [HD'.out, HDD.out]; omega
                                                    have haft : aftD C j (gF ys' j) = d + gr := by unfold aftD; rw [HD'.out, HDD.out, HI.out, HGR.out]
                                                    have hbadw := ref_bad HPR'.out.snd HAM.out hjk h0' hck' hmem
                                                    have hset := ref_set HPR'.out.snd HAM.out hjk h0' hck' hmem
                                                    have hstay := ref_stay HPR'.out.snd HAM.out hjk h0' hck' hmem
                                                    rw [haft] at hbadw hset hstay
                                                    have HBADW := Lib.hid hbadw
                                                    have HSET := Lib.hid hset
                                                    have HSTAY := Lib.hid hstay
                                                    clear hbadw hset hstay haft h0' hck' hmem hlast hq hnr' hen heb
                                                    have hgob := HPR'.out.own.base_le
                                                    have f0 : (0 : Int) ≤ (qn : Int) := by omega
                                                    by_cases hqk : qn < k
                                                    · have f1 : (qn : Int) < (k : Int) := by omega
                                                      have f2 : decide (k ≤ qn) = false := decide_eq_false (by omega)
                                                      have f3 : decide ((k : Int) ≤ (qn : Int)) = false := decide_eq_false (by omega)
                                                      obtain ⟨b2', off2', heb, _, vq⟩ := row_int HR5.out hBS' hqk
                                                      obtain ⟨rfl, rfl⟩ : b2 = b2' ∧ off2 = off2' := by cases heb; exact ⟨rfl, rfl⟩
                                                      clear heb
                                                      have cq := HPR'.out.own.cell hqk
                                                      have fq := HPR'.out.own.free qn
                                                      obtain ⟨oq, hoq⟩ : ∃ oq, ownV k C qn = oq := ⟨_, rfl⟩
                                                      obtain ⟨yv, hyv⟩ : ∃ yv, ys'.getD qn 0 = yv := ⟨_, rfl⟩
                                                      rw [hoq] at vq
                                                      rw [hyv] at cq
                                                      have HOQ := Lib.hid hoq
                                                      have HYV := Lib.hid hyv
                                                      clear hoq hyv
                                                      by_cases hoo : oq = o
                                                      · have f4 : (oq != o) = false := by simpa using hoo
                                                        have f5 : (oq == o) = true := by simpa using hoo
                                                        by_cases hyn : yv < 0
                                                        · have f6 : decide (0 ≤ yv) = false := decide_eq_false (by omega)
                                                          have f7 : decide (yv < 0) = true := decide_eq_true hyn
                                                          have HNW : Hid (¬ WrongD k C ys' j qn (d + gr)) := by
                                                            show ¬ _
                                                            unfold WrongD; rw [HOQ.out, HO.out, HYV.out]
                                                            rintro (h | h | h)
                                                            · omega
                                                            · exact h hoo
                                                            · omega
                                                          clear hoo
                                                          as_aux_lemma =>
                                                            go_wp2_with fail
                                                            go_quiet (fail)
                                                            as_aux_lemma =>
                                                              go_wp2_with fail
                                                              as_aux_lemma =>
                                                                go_roundg (gk - 1)
                                                                case measure => omega
                                                                case rel =>
                                                                  obtain ⟨s1, s2, s3, s4, s5⟩ := HSET.out HNW.out (by rw [HYV.out]; exact hyn)
                                                                  exact next_put HPR'.out hgob.1 (by omega) s1 s4 (by rw [s3, HD'.out, HDD.out]) (HLAST.out _ s2 (fun y hy hyx => s5 _ (HEDGE.out y hy hyx))) HNR'.out hx1 hx2 _ (by go_num)
                                                        · have f6 : decide (0 ≤ yv) = true := decide_eq_true (by omega)
                                                          have f7 : decide (yv < 0) = false := decide_eq_false hyn
                                                          by_cases hya : yv = d + gr
                                                          · have f8 : (yv != d + gr) = false := by simpa using hya
                                                            have HNW : Hid (¬ WrongD k C ys' j qn (d + gr)) := by
                                                              show ¬ _
                                                              unfold WrongD; rw [HOQ.out, HO.out, HYV.out]
                                                              rintro (h | h | h)
                                                              · omega
                                                              · exact h hoo
                                                              · exact h.2 hya
                                                            clear hoo hya
                                                            as_aux_lemma =>
                                                              go_wp2_with fail
                                                              go_quiet (fail)
                                                              go_wp2_with fail
                                                              go_roundg (gk - 1)
                                                              case measure => omega
                                                              case rel =>
                                                                exact next_stay HPR'.out (by rw [HD'.out, HDD.out]) HKEEP.out (HLAST.out _ (HSTAY.out HNW.out (by rw [HYV.out]; exact hyn)) HEDGE.out) HNR'.out hx1 hx2 _ (by go_num)
                                                          · have f8 : (yv != d + gr) = true := by simpa using hya
                                                            have HW : Hid (WrongD k C ys' j qn (d + gr)) := by
                                                              show WrongD _ _ _ _ _ _
                                                              unfold WrongD; rw [HYV.out]
                                                              exact .inr (.inr ⟨by omega, hya⟩)
                                                            clear hoo hya
                                                            as_aux_lemma =>
                                                              go_wp2_with fail
                                                              go_quiet (fail)
                                                              go_wp2_with fail
                                                              go_ret2
                                                              have hbb := HBW.out.trans (hBS'.mono HBW.out.size)
                                                              refine ⟨by (repeat' (first | (with_reducible exact Below.refl _ _) | (with_reducible assumption) | (with_reducible refine below_drewN ?_ _) | (with_reducible refine Below.alloc ?_ ?_ _) | (with_reducible refine Below.drew ?_) | (with_reducible refine Below.setCell ?_ ?_ _) | go_size)), .inr ⟨fun h => h.2.2 (HBADW.out ?_), rfl⟩⟩
                                                              exact HW.out
                                                      · have f4 : (oq != o) = true := by simpa using hoo
                                                        have f5 : (oq == o) = false := by simpa using hoo
                                                        have HW : Hid (WrongD k C ys' j qn (d + gr)) := by
                                                          show WrongD _ _ _ _ _ _
                                                          unfold WrongD; rw [HOQ.out, HO.out]
                                                          exact .inr (.inl hoo)
                                                        clear hoo
                                                        as_aux_lemma =>
                                                          go_wp2_with fail
                                                          go_quiet (fail)
                                                          go_wp2_with fail
                                                          go_ret2
                                                          have hbb := HBW.out.trans (hBS'.mono HBW.out.size)
                                                          refine ⟨by (repeat' (first | (with_reducible exact Below.refl _ _) | (with_reducible assumption) | (with_reducible refine below_drewN ?_ _) | (with_reducible refine Below.alloc ?_ ?_ _) | (with_reducible refine Below.drew ?_) | (with_reducible refine Below.setCell ?_ ?_ _) | go_size)), .inr ⟨fun h => h.2.2 (HBADW.out ?_), rfl⟩⟩
                                                          exact HW.out
                                                    · have f2 : decide (k ≤ qn) = true := decide_eq_true (by omega)
                                                      have f3 : decide ((k : Int) ≤ (qn : Int)) = true := decide_eq_true (by omega)
                                                      have HW : Hid (WrongD k C ys' j qn (d + gr)) := by
                                                        show WrongD _ _ _ _ _ _
                                                        exact .inl (by omega)
                                                      as_aux_lemma =>
                                                        go_wp2_with fail
                                                        go_quiet (fail)
                                                        go_wp2_with fail
                                                        go_ret2
                                                        have hbb := HBW.out.trans (hBS'.mono HBW.out.size)
                                                        refine ⟨by (repeat' (first | (with_reducible exact Below.refl _ _) | (with_reducible assumption) | (with_reducible refine below_drewN ?_ _) | (with_reducible refine Below.alloc ?_ ?_ _) | (with_reducible refine Below.drew ?_) | (with_reducible refine Below.setCell ?_ ?_ _) | go_size)), .inr ⟨fun h => h.2.2 (HBADW.out ?_), rfl⟩⟩
                                                        exact HW.out
                                                  · have hxn : x = L.length := by omega
                                                    have d5 : decide (x < L.length) = false := decide_eq_false hxl
                                                    have d6 : ¬ x < L.length := hxl
                                                    clear hxl
                                                    as_aux_lemma =>
                                                      go_wp2_with fail
                                                      go_roundg gp
                                                      case measure => exact hgp1
                                                      case rel =>
                                                        refine ⟨ch, j + 1, ys', rfl, by go_num, by omega, hgp2, HPR'.out, fun e y hy h0 => ?_⟩
                                                        obtain ⟨eb, ey⟩ := HKEEP.out e
                                                        rw [ey] at h0 ⊢
                                                        rcases Nat.lt_or_ge y j with h | h
                                                        · exact HCLJ.out eb y h h0
                                                        · obtain rfl : y = j := by omega
                                                          refine ⟨HCK.out, fun r hr => ?_⟩
                                                          rw [HSU.out] at hr
                                                          obtain ⟨z, hz, rfl⟩ := List.mem_iff_getElem.1 hr
                                                          have := HEDGE.out z hz (by omega)
                                                          rw [ey] at this
                                                          exact this
                  · have hjn : j = k := by omega
                    have d2 : decide (j < k) = false := decide_eq_false hjk
                    clear hjk
                    subst hjn
                    go_wp2_with fail
                    go_roundg (negs ys + (if bb then 1 else 0))
                    case measure => have h1 := HPR.out.le; have h2 := HPR.out.lt; have h3 := HGK.out; cases bb <;> simp at h2 h3 ⊢ <;> omega
                    case rel => exact ⟨bb, ys, rfl, HPR.out.own, HPR.out.snd, fun e p hp h0 => HCLJ.out e p hp h0, Nat.le_refl _, HPR.out.bel⟩
end Go.Proofs.Ytnjfjebmkajpbaa
