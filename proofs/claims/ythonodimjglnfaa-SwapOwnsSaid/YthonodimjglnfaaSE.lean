/- Chapter 04: what the reference's swaps come to. -/
import Derived.Test.YthonodimjglnfaaSC
import Derived.Test.YthonodimjglnfaaRM1
import Derived.Deep.RegionLaw
namespace Go.Proofs.Ythonodimjglnfaa
open Go.ChangeShapes Go.WideShapes Go.ChangeAt Go.RowKit Go.Deep Go.Joins Go.Maps
set_option linter.unusedVariables false
set_option linter.unusedSimpArgs false
/-- what a swap comes to, of the reference -/
def RwPost (w : World) (R : Nat → Prop) (r : Nat) (x : Hp × List Int × Int) (e : Ending) (w' : World) : Prop := ∃ v, e = .returned (.tuple #[v, .int .i64 x.2.2]) ∧ Ints w' w.heap.size v x.2.1 ∧ RPost R r x.1 w w'
theorem RPost.of_below {w : World} {R : Nat → Prop} {r : Nat} {m : Hp} {lv : Value} {fv : Nat → Value} (h : RM w R r m lv fv) {w' : World} (hb : Below w.heap.size w w') : RPost R r m w w' := ⟨R, lv, fv, h.below hb, Turns.of_below hb, fun k q => .inl q⟩
theorem RPost.later {w w1 w' : World} {R : Nat → Prop} {r : Nat} {m : Hp} (hb : Below w.heap.size w w1) (h : RPost R r m w1 w') : RPost R r m w w' := by
  obtain ⟨R', lv', fv', h1, h2, h3⟩ := h
  exact ⟨R', lv', fv', h1, (Turns.of_below hb).trans h2, fun k q => (h3 k q).imp id (fun z => Nat.le_trans hb.size z)⟩
theorem RwPost.later {w w1 w' : World} {R : Nat → Prop} {r : Nat} {x : Hp × List Int × Int} {e : Ending} (hb : Below w.heap.size w w1) (h : RwPost w1 R r x e w') : RwPost w R r x e w' := by
  obtain ⟨v, e1, hi, hP⟩ := h
  exact ⟨v, e1, ownsRow_mono hi hb.size, hP.later hb⟩
theorem rw_no {w : World} {R : Nat → Prop} {r : Nat} {m : Hp} {lv : Value} {fv : Nat → Value} (h : RM w R r m lv fv) {w' : World} (hb : Below w.heap.size w w') : RwPost w R r (m, [], 1) (.returned (.tuple #[.slice none 0 0, .int .i64 1])) w' := ⟨_, rfl, World.ownsRow_nil _ _ _ _, RPost.of_below h hb⟩
theorem RPost.turns {w w' : World} {R : Nat → Prop} {r : Nat} {m : Hp} (h : RPost R r m w w') : Turns R w w' := by obtain ⟨_, _, _, _, h, _⟩ := h; exact h
theorem ownsRow_turns {w w' : World} {T : Nat → Prop} {base n size : Nat} {e : TypeId} {v : Value} {xs : List Value} (h : w.ownsRow base e size v n xs) (ht : Turns T w w') (hT : ∀ k, T k → k < base) : w'.ownsRow base e size v n xs :=
  ownsRow_same h ht.size (fun k hk => by
    obtain ⟨h1, h2⟩ := World.ownsRow.lt h k hk
    exact ht.block k h2 (fun q => absurd (hT k q) (by omega)))
theorem rturn_any' {w : World} {R : Nat → Prop} {r : Nat} {m : Hp} {lv : Value} {fv : Nat → Value} (h : RM w R r m lv fv) {A B : Option Addr} {fr tl : List Int} {nf nt ca cb : Nat} (hnf : fr.length = nf) (hnt : tl.length = nt) (hA : Nums w A fr) (hB : Nums w B tl) (hla : nf ≤ ca) (hll : nf ≤ 1000000000) :
    Calls Try.prog 73 #[.pointer (some ⟨r, 0, none⟩), .slice A nf ca, .slice B nt cb] w fun e w' => e = .returned (.int .i64 (turnV m fr tl).2) ∧ RPost R r (turnV m fr tl).1 w w' := by
  subst hnf; subst hnt; exact rturn_any h hA hB hla hll
set_option maxRecDepth 100000 in
set_option maxHeartbeats 16000000 in
theorem rsturn_any {w : World} {R : Nat → Prop} {r : Nat} {m : Hp} {lv : Value} {fv : Nat → Value} (h : RM w R r m lv fv) {C D E : Option Addr} {fr tl rs : List Int} {nf nr cc cd ce : Nat} (hF : Off w R C nf cc fr) (hT : Off w R D nf cd tl) (hR : Off w R E nr ce rs) (bf : nf ≤ 1000000) (br : nr ≤ 1000000) :
    Calls Try.prog 56 #[.pointer (some ⟨r, 0, none⟩), .slice C nf cc, .slice D nf cd, .slice E nr ce] w (RwPost w R r (swV m fr tl rs)) := by
  obtain ⟨i0, hi, hz0, hz1, hz2⟩ := info_parts infoI
  have HM := Lib.hid h
  have HF := Lib.hid hF
  have HT := Lib.hid hT
  have HR := Lib.hid hR
  clear h hF hT hR
  go_enter Try.func56, Try.ntmps56
  go_wp2_with fail
  go_loopw [10, 11] (fun v i wr => ∃ (v0 : Value) (k : Nat), v0 = v ∧ k ≤ nr ∧ i = .int .i64 k ∧ wr.ownsRow w.heap.size 3 1 v0 k (((rs.take k).map (sbV fr tl)).map (Value.int .i64)) ∧ (rs.take k).all (mayV m.L) = true ∧ Below w.heap.size w wr) (fun _ i _ => nr - (intOf i).toNat)
  case atStart => exact ⟨_, 0, rfl, Nat.zero_le _, rfl, World.ownsRow_nil _ _ _ _, rfl, Below.refl _ _⟩
  case round =>
    obtain ⟨v0, k, hv0, hk, rfl, hown, hall, hbw⟩ := hrel
    subst hv0
    have HOWN := Lib.hid hown
    have HALL := Lib.hid hall
    have HBW := Lib.hid hbw
    by_cases hlt : k < nr
    · have d1 : decide (k < nr) = true := decide_eq_true hlt
      have hkl : k < rs.length := by rw [HR.out.len]; exact hlt
      obtain ⟨g, off, rfl, _, hc⟩ := (HR.out.below hbw).nums k hkl
      obtain ⟨x, hx⟩ : ∃ x, rs[k] = x := ⟨_, rfl⟩
      have HX := Lib.hid hx
      rw [hx] at hc
      have g0 : (0 : Int) ≤ (k : Int) := by omega
      have g1 : (k : Int) < (nr : Int) := by omega
      have hmy := rmay_any (HM.out.below hbw) x
      cases hv : mayV m.L x
      · have HV := Lib.hid hv
        have HMY := Lib.hid hmy
        have HSW : Hid (swV m fr tl rs = (m, [], 1)) := Lib.hid (by
          have : rs.all (mayV m.L) = false := all_take_no hkl (by rw [hx]; exact hv)
          unfold swV; rw [this]; rfl)
        clear hx hmy hv hown hall hbw
        go_wp2_with (go_at_call 63; (with_reducible refine HMY.out.mono ?_); rw [HV.out]; rintro e w2 ⟨rfl, hw2⟩; replace hw2 := hw2.symm; subst hw2)
        go_returns
        rw [HSW.out]
        exact rw_no HM.out HBW.out
      · have HV := Lib.hid hv
        have HMY := Lib.hid hmy
        have hix := at_of (c := cc) (HF.out.below hbw).nums HF.out.len (Nat.le_trans bf (by decide)) x
        cases hf : findN fr x with
        | none =>
          have HSB : Hid (sbV fr tl x = x) := Lib.hid (sbV_none (findN_none.1 hf))
          rw [show findV fr x = -1 by unfold findV; rw [hf]] at hix
          have HIX := Lib.hid hix
          clear hx hmy hv hown hall hbw hix hf
          go_wp2_with (first | (go_at_call 63; (with_reducible refine HMY.out.mono ?_); rw [HV.out]; rintro e w2 ⟨rfl, hw2⟩; replace hw2 := hw2.symm; subst hw2) | (go_at_call 45; (with_reducible refine HIX.out.mono ?_); rintro e w6 ⟨rfl, hw6⟩; replace hw6 := hw6.symm; subst hw6) | (at_builtin; refine wpList_append_own _ rfl _ _ 28 rfl w.heap.size 3 i0 (.int .i64 0) 1 8 Try.underlying28 hi hz0 hz1 hz2 rfl (by decide) _ _ _ rfl (HOWN.out.alloc _) ⟨wr.heap.size, 0, none⟩ 1 1 [.int .i64 x] rfl rfl (cells_newN _ _ _ _ (by simp)) (by simp [Value.oneCell']) (by unfold maxLen; omega) (by omega) (by have := HBW.out.size; simp only [World.size_alloc]; omega) ?_; intro v2 w3 hown3 hg2 _))
          go_roundw
          case rel =>
            have hz2 := HBW.out.size
            refine ⟨_, k + 1, rfl, by omega, by go_num, ?_, all_take_succ hkl (by rw [HX.out]; exact HV.out) HALL.out, (HBW.out.alloc hz2 _).trans (below_of_append (HOWN.out.alloc (.cells #[.int .i64 x] 3)) hg2 (by simp only [World.size_alloc]; omega))⟩
            rw [List.take_succ_eq_append_getElem hkl, HX.out, List.map_append, List.map_append]
            simp only [List.map_cons, List.map_nil]
            rw [HSB.out]
            exact hown3
          case measure => simp [intOf]; omega
        | some j =>
          obtain ⟨hjl, hje, -⟩ := findN_some hf
          have hjt : j < tl.length := by rw [HT.out.len, ← HF.out.len]; exact hjl
          obtain ⟨tg, toff, rfl, _, htc⟩ := (HT.out.below hbw).nums j hjt
          obtain ⟨y, hy⟩ : ∃ y, tl[j] = y := ⟨_, rfl⟩
          rw [hy] at htc
          have HSB : Hid (sbV fr tl x = y) := Lib.hid (by rw [sbV_some hf, List.getD_eq_getElem?_getD, List.getElem?_eq_getElem hjt]; exact hy)
          rw [show findV fr x = (j : Int) by unfold findV; rw [hf]] at hix
          have HIX := Lib.hid hix
          have hjn : j < nf := by rw [← HT.out.len]; exact hjt
          have g2 : (0 : Int) ≤ (j : Int) := by omega
          have g3 : (j : Int) < (nf : Int) := by omega
          clear hx hmy hv hown hall hbw hix hf hjl hje hjt hy
          go_wp2_with (first | (go_at_call 63; (with_reducible refine HMY.out.mono ?_); rw [HV.out]; rintro e w2 ⟨rfl, hw2⟩; replace hw2 := hw2.symm; subst hw2) | (go_at_call 45; (with_reducible refine HIX.out.mono ?_); rintro e w6 ⟨rfl, hw6⟩; replace hw6 := hw6.symm; subst hw6) | (at_builtin; refine wpList_append_own _ rfl _ _ 28 rfl w.heap.size 3 i0 (.int .i64 0) 1 8 Try.underlying28 hi hz0 hz1 hz2 rfl (by decide) _ _ _ rfl (HOWN.out.alloc _) ⟨wr.heap.size, 0, none⟩ 1 1 [.int .i64 y] rfl rfl (cells_newN _ _ _ _ (by simp)) (by simp [Value.oneCell']) (by unfold maxLen; omega) (by omega) (by have := HBW.out.size; simp only [World.size_alloc]; omega) ?_; intro v2 w3 hown3 hg2 _))
          go_roundw
          case rel =>
            have hz2 := HBW.out.size
            refine ⟨_, k + 1, rfl, by omega, by go_num, ?_, all_take_succ hkl (by rw [HX.out]; exact HV.out) HALL.out, (HBW.out.alloc hz2 _).trans (below_of_append (HOWN.out.alloc (.cells #[.int .i64 y] 3)) hg2 (by simp only [World.size_alloc]; omega))⟩
            rw [List.take_succ_eq_append_getElem hkl, HX.out, List.map_append, List.map_append]
            simp only [List.map_cons, List.map_nil]
            rw [HSB.out]
            exact hown3
          case measure => simp [intOf]; omega
    · have hkn : k = nr := by omega
      have d1 : decide (k < nr) = false := decide_eq_false hlt
      have hal : rs.all (mayV m.L) = true := by have := hall; rw [hkn, ← HR.out.len, List.take_length] at this; exact this
      obtain ⟨mm, er, hm⟩ : ∃ mm er, turnV m fr tl = (mm, er) := ⟨_, _, rfl⟩
      have HTM := Lib.hid hm
      have HOK : Hid (Ints wr w.heap.size v0 (rs.map (sbV fr tl))) := Lib.hid (by
        have ho := hown
        rw [hkn, ← HR.out.len, List.take_length] at ho
        unfold Ints
        rw [List.length_map]
        exact ho)
      have TRN : Hid (∀ w', RPost R r mm wr w' → RPost R r mm w w') := Lib.hid (fun w' q => q.later hbw)
      have HLT : Hid (∀ k, R k → k < w.heap.size) := Lib.hid HM.out.lt
      by_cases he : er = 0
      · have HSW : Hid (swV m fr tl rs = (mm, rs.map (sbV fr tl), 0)) := Lib.hid (by unfold swV; rw [hal, if_pos rfl, hm, if_pos he, he])
        subst he
        clear hlt hown hall hbw hal hm hkn
        go_wp2_with (go_at_call 73; (with_reducible refine (rturn_any' (HM.out.below HBW.out) HF.out.len HT.out.len (HF.out.below HBW.out).nums (HT.out.below HBW.out).nums HF.out.le (Nat.le_trans bf (by decide))).mono ?_); rw [HTM.out]; rintro e w4 ⟨rfl, hrp⟩; have HRP := Lib.hid hrp; clear hrp)
        go_returns
        rw [HSW.out]
        exact ⟨_, rfl, ownsRow_turns HOK.out HRP.out.turns HLT.out, TRN.out _ HRP.out⟩
      · have HSW : Hid (swV m fr tl rs = (mm, [], er)) := Lib.hid (by unfold swV; rw [hal, if_pos rfl, hm, if_neg he])
        have d0 : (er == 0) = false := by simpa using he
        clear hlt hown hall hbw hal hm hkn
        go_wp2_with (go_at_call 73; (with_reducible refine (rturn_any' (HM.out.below HBW.out) HF.out.len HT.out.len (HF.out.below HBW.out).nums (HT.out.below HBW.out).nums HF.out.le (Nat.le_trans bf (by decide))).mono ?_); rw [HTM.out]; rintro e w4 ⟨rfl, hrp⟩; have HRP := Lib.hid hrp; clear hrp)
        go_returns
        rw [HSW.out]
        exact ⟨_, rfl, World.ownsRow_nil _ _ _ _, TRN.out _ HRP.out⟩
end Go.Proofs.Ythonodimjglnfaa
