/- Chapter 18: what the instructions of a stroke of the plan come to is what the stroke comes to. -/
import Derived.Test.YtjiidjcehhdnbaaFW7
import Derived.Test.YtjiidjcehhdnbaaFW11
import Derived.Test.YtjiidjcehhdnbaaFW15
import Derived.Test.YtjiidjcehhdnbaaFW20
import Derived.Test.YtjiidjcehhdnbaaFW21
import Derived.Test.YtjiidjcehhdnbaaFW22
import Derived.Test.YtjiidjcehhdnbaaFW23
import Derived.Test.YtjiidjcehhdnbaaFW25
namespace Go.Proofs.Ytjiidjcehhdnbaa
open Go.ChangeShapes Go.WideShapes Go.ChangeAt Go.RowKit Go.Deep Go.Joins
set_option linter.unusedVariables false
set_option linter.unusedSimpArgs false
section
variable {w0 w : World} {LA : Option Addr} {ln lc : Nat} {CA : Option Addr} {cn cc : Nat} {L : Nat → LitR} {C : Nat → InsR} {s : ByteArray} {x0 x1 x2 : Int} {TA : Option Addr} {tn tc : Nat} {TF : Nat → Int} {FA : Option Addr} {fn fc : Nat} {FF : Nat → Int} {self : Int}

theorem stroke_more {p k n : Int} (h : strokeV ln L cn C p = (k, p, n)) (hk : (k == 0) = false) (h5 : (k == 5) = false) :
    isOp ln L cn C p = true ∧ (((insAt cn C (p + 1)).op = 10 ∧ (insAt cn C (p + 2)).op = 12 ∧ k = 4) ∨ ((k == 4) = false ∧ isOp ln L cn C (p + 1) = true)) := by
  cases O : isOp ln L cn C p
  · simp [strokeV, O] at h; simp [← h.1] at hk
  · refine ⟨rfl, ?_⟩
    cases g1 : ((insAt cn C (p + 1)).op == 10 && (insAt cn C (p + 2)).op == 12)
    · cases T : letterV (selV ln L cn C (p + 1) 0)
      · cases O1 : isOp ln L cn C (p + 1)
        · simp [strokeV, O, g1, T, O1] at h; simp [← h.1] at hk
        · have hs : strokeS (selV ln L cn C (p + 2) 1) ((insAt cn C (p + 3)).op == 17) p = (k, p, n) := by simpa [strokeV, O, g1, T, O1] using h
          refine .inr ⟨?_, rfl⟩
          unfold strokeS at hs
          generalize (selV ln L cn C (p + 2) 1).toList = u at hs
          generalize ((insAt cn C (p + 3)).op == 17) = b at hs
          generalize (u == [43]) = c1 at hs
          generalize (u == [45]) = c2 at hs
          generalize (u == [42]) = c3 at hs
          generalize (u == [60] || u == [61]) = c4 at hs
          have key : k = 1 ∨ k = 2 ∨ k = 3 ∨ k = 0 := by
            cases c1 <;> cases c2 <;> cases c3 <;> cases c4 <;> cases b <;> simp at hs <;> omega
          rcases key with rfl | rfl | rfl | rfl
          · rfl
          · rfl
          · rfl
          · cases hk
      · simp [strokeV, O, g1, T] at h; simp [← h.1] at h5
    · simp only [Bool.and_eq_true] at g1
      simp [strokeV, O, g1.1, g1.2] at h
      exact .inl ⟨by simpa using g1.1, by simpa using g1.2, h.1.symm⟩
theorem sel_more {q : Int} {u : List UInt8} (h : (selV ln L cn C q 1).toList = u) (hu : u ≠ []) : ∃ la : Nat, la < ln ∧ insAt cn C q = ⟨14, la, 1⟩ ∧ (L la).text = selV ln L cn C q 1 := by
  unfold selV at h ⊢
  split at h
  · next hc =>
    rw [if_pos hc]
    obtain ⟨h1, h2, h3⟩ := hc
    have hin : 0 ≤ (insAt cn C q).a ∧ (insAt cn C q).a < ln := by
      by_cases hh : 0 ≤ (insAt cn C q).a ∧ (insAt cn C q).a < ln
      · exact hh
      · rw [show litAt ln L (insAt cn C q).a = noLit from if_neg hh] at h3; cases h3
    refine ⟨(insAt cn C q).a.toNat, by omega, ?_, by rw [show litAt ln L (insAt cn C q).a = L (insAt cn C q).a.toNat from if_pos hin]⟩
    generalize insAt cn C q = i at h1 h2 hin ⊢
    obtain ⟨o, a, b⟩ := i
    simp only at h1 h2 hin ⊢
    rw [h1, h2, Int.toNat_of_nonneg hin.1]
  · rw [ByteArray.toList_eq] at h; exact absurd h.symm hu
theorem opnd_false {p : Int} (h : isOp ln L cn C p = false) : opndV ln L cn C self tn TF fn FF p = (0, false) := by simp [opndV, h]
theorem opnd_true {p : Int} (h : isOp ln L cn C p = true) : opndV ln L cn C self tn TF fn FF p = ((opndV ln L cn C self tn TF fn FF p).1, true) := by
  have := opndV_2 (ln := ln) (L := L) (cn := cn) (C := C) self tn TF fn FF p
  rw [h] at this
  rw [← this]
theorem isOp_no {p o : Int} (h : (insAt cn C p).op = o) (k : o = 10 ∨ o = 12 ∨ o = 14 ∨ o = 17) : isOp ln L cn C p = false := by
  unfold isOp
  rw [h]
  rcases k with rfl | rfl | rfl | rfl <;> rfl
theorem apply_none {kind p n sk sa sn : Int} (hs : strokeV ln L cn C p = (sk, sa, sn)) (h : kind = 0 ∨ kind = 5 ∨ ¬ (sk = kind ∧ sa = p ∧ sn = n)) : applyV ln L cn C self tn TF fn FF kind p n = noEff := by
  have key : (kind == 0 || kind == 5 || neqB sk sa sn kind p n) = true := by
    rcases h with rfl | rfl | h
    · rfl
    · simp
    · have : neqB sk sa sn kind p n = true := by
        unfold neqB
        cases e : (sk == kind && sa == p && sn == n)
        · rfl
        · simp only [Bool.and_eq_true, beq_iff_eq] at e; exact absurd ⟨e.1.1, e.1.2, e.2⟩ h
      rw [this, Bool.or_true]
  unfold applyV
  rw [hs]
  simp only [key, cond_true]
theorem apply_push (kind p n : Int) : (applyV ln L cn C self tn TF fn FF kind p n).push.length ≤ 1 := by
  unfold applyV opEff
  simp only [cond_eq_ite]
  repeat' split
  all_goals (simp [noEff])
theorem own_row1b {X : World} {base : Nat} {v : Value} {l : List Int} (h : X.ownsRow base 3 1 v l.length (l.map (.int .i64))) :
    ∃ A cap, v = .slice A l.length cap ∧ Row X A l.length 1 (fun i _ => .int .i64 (l.getD i 0)) ∧ l.length ≤ cap ∧ cap ≤ maxLen ∧ ∀ b off, A = some ⟨b, off, none⟩ → base ≤ b := by
  have h' := h
  rcases h'.2 with ⟨rfl, h0⟩ | ⟨g, cap, cur, rfl, hg, hh, hn, hm, _⟩
  · exact ⟨none, 0, by rw [h0], fun hp => absurd hp (by omega), by omega, by unfold maxLen; omega, fun _ _ e => by cases e⟩
  · obtain ⟨A, c, e, r, x, y⟩ := own_row1 h
    cases e
    exact ⟨_, _, rfl, r, x, y, fun b off e => by cases e; exact hg⟩
theorem Row.setCell {X : World} {A : Option Addr} {n size : Nat} {f : Nat → Nat → Value} (h : Row X A n size f) {b o : Nat} (v : Value) (hne : ∀ b' off, A = some ⟨b', off, none⟩ → b' ≠ b) : Row (X.setCell ⟨b, o, none⟩ v) A n size f := fun hn => by
  obtain ⟨b', off, e, hlt, hc⟩ := h hn
  exact ⟨b', off, e, by simpa using hlt, fun i hi j hj => by rw [World.cell?_setCell_other _ _ _ _ (fun e' => hne b' off e (by have := congrArg Addr.block e'; exact this.symm))]; exact hc i hi j hj⟩
theorem ins_q {i : Int} {k : Nat} (e : i = k) (h : k < cn) : insAt cn C i = C k := by
  subst e
  exact if_pos ⟨by omega, by omega⟩
theorem res_A {u : ByteArray} {x y r p : Int} {kk : Bool} {j : InsR} (hu : (u.toList == [43]) = true ∨ ((u.toList == [43]) = false ∧ (u.toList == [45]) = true) ∨ ((u.toList == [43]) = false ∧ (u.toList == [45]) = false ∧ (u.toList == [42]) = true))
    (hr : resV u x y = (r, kk)) : opEff u x y 1 p 3 j = bif kk then ⟨p + 3, [r], -1, 0, true⟩ else noEff := by
  rcases hu with u1 | ⟨u1, u2⟩ | ⟨u1, u2, u3⟩
  · simp only [resV, u1, cond_true] at hr; simp only [opEff, u1, hr, cond_true]
  · simp only [resV, u1, u2, cond_true, cond_false] at hr; simp only [opEff, u1, u2, hr, cond_true, cond_false]
  · simp only [resV, u1, u2, u3, cond_true, cond_false] at hr; simp only [opEff, u1, u2, u3, hr, cond_true, cond_false]
theorem res_B {u : ByteArray} {x y : Int} (u1 : (u.toList == [43]) = false) (u2 : (u.toList == [45]) = false) (u3 : (u.toList == [42]) = false) (u4 : (u.toList == [60]) = true ∨ ((u.toList == [60]) = false ∧ (u.toList == [61]) = true)) :
    ∃ cm : Bool, resV u x y = (bif cm then 2 else 4, true) ∧ (∀ (p : Int) (j : InsR), opEff u x y 2 p 3 j = ⟨p + 3, [bif cm then 2 else 4], -1, 0, true⟩) ∧ ∀ (p : Int) (j : InsR), opEff u x y 3 p 4 j = bif cm then ⟨p + 4, [], -1, 0, true⟩ else ⟨j.a + 256 * j.b, [], -1, 0, true⟩ := by
  rcases u4 with u4 | ⟨u4, u5⟩
  · exact ⟨decide (x < y), by simp only [resV, u1, u2, u3, u4, cond_true, cond_false], fun p j => by simp only [opEff, u1, u2, u3, u4, cond_true, cond_false]; rfl, fun p j => by simp only [opEff, u1, u2, u3, u4, cond_true, cond_false]; rfl⟩
  · exact ⟨x == y, by simp only [resV, u1, u2, u3, u4, u5, cond_true, cond_false, Bool.true_and], fun p j => by simp only [opEff, u1, u2, u3, u4, cond_true, cond_false]; rfl, fun p j => by simp only [opEff, u1, u2, u3, u4, cond_true, cond_false]; rfl⟩
theorem done_any (hM : IsM w0 LA ln CA cn L C) (hG : okV cn C) (hT : Words w0 TA tn TF) (hF : Words w0 FA fn FF) (hB : Below w0.heap.size w0 w) (k p n : Int)
    (hs : strokeV ln L cn C p = (k, p, n)) (hk : (k == 0) = false) (h5 : (k == 5) = false) :
    Calls Try.prog 17 #[.agg #[.string s, .int .i64 x0, .int .i64 x1, .int .i64 x2, .slice LA ln lc, .slice CA cn cc], .int .i64 p, .int .i64 n, .int .i64 self, .slice TA tn tc, .slice FA fn fc] w (DonePost w (applyV ln L cn C self tn TF fn FF k p n)) := by
  obtain ⟨f0, f1, f2, f3, f4, f5⟩ := stroke_facts hs hk h5
  obtain ⟨O, m5⟩ := stroke_more hs hk h5
  obtain ⟨q, rfl⟩ := Int.eq_ofNat_of_zero_le f0
  have hne : neqB k q n k q n = false := by simp [neqB]
  have ha := opnd_true (self := self) (tn := tn) (TF := TF) (fn := fn) (FF := FF) O
  rcases m5 with ⟨e1, e2, rfl⟩ | ⟨m4, O1⟩
  · obtain rfl : n = 3 := by
      rcases f5 with ⟨_, h⟩ | ⟨h, _⟩
      · exact h
      · cases h
    have E : applyV ln L cn C self tn TF fn FF 4 q 3 = ⟨q + 3, [], (C (q + 1)).a, (opndV ln L cn C self tn TF fn FF q).1, true⟩ := by
      rw [← ins_q (C := C) (cn := cn) (i := (q : Int) + 1) (k := q + 1) rfl (by omega)]
      simp [applyV, hs, hne]
    rw [E]
    have i1 := ins_q (C := C) (cn := cn) (i := (q : Int) + 1) (k := q + 1) rfl (by omega)
    have i2 := ins_q (C := C) (cn := cn) (i := (q : Int) + 2) (k := q + 2) rfl (by omega)
    exact done_move hM hT hF hB q (by omega) _ ha _ _ rfl rfl (by rw [← i1]; exact e1) (by rw [← i2]; exact e2) 0 (opnd_false (isOp_no e1 (by decide))) 0 (opnd_false (isOp_no e2 (by decide)))
  · rcases f5 with ⟨rfl, _⟩ | ⟨_, f5⟩
    · cases m4
    have hb := opnd_true (self := self) (tn := tn) (TF := TF) (fn := fn) (FF := FF) O1
    have hun : ∃ u, (selV ln L cn C ((q : Int) + 2) 1).toList = u ∧ u ≠ [] := by
      refine ⟨_, rfl, fun h0 => ?_⟩
      rw [h0] at f5
      rcases f5 with ⟨h, _⟩ | ⟨⟨_, _, _, h⟩, _⟩
      · rcases h with h | ⟨_, h⟩ | ⟨_, _, h⟩ <;> cases h
      · rcases h with h | ⟨_, h⟩ <;> cases h
    obtain ⟨u', hu', hne'⟩ := hun
    obtain ⟨la, hla, e2, hu⟩ := sel_more hu' hne'
    have ho2 := opnd_false (self := self) (tn := tn) (TF := TF) (fn := fn) (FF := FF) (isOp_no (ln := ln) (L := L) (o := 14) (by rw [e2]) (by decide))
    have hj2 : C (q + 2) = ⟨14, la, 1⟩ := by rw [← ins_q (C := C) (cn := cn) (i := (q : Int) + 2) (k := q + 2) rfl (by omega)]; exact e2
    obtain ⟨a, hA⟩ : ∃ a, (opndV ln L cn C self tn TF fn FF q).1 = a := ⟨_, rfl⟩
    obtain ⟨b, hBb⟩ : ∃ b, (opndV ln L cn C self tn TF fn FF ((q : Int) + 1)).1 = b := ⟨_, rfl⟩
    obtain ⟨u, hU⟩ : ∃ u, selV ln L cn C ((q : Int) + 2) 1 = u := ⟨_, rfl⟩
    rw [hA] at ha
    rw [hBb] at hb
    rw [hU] at hu f5
    cases sa : isSmallV a
    · have E : applyV ln L cn C self tn TF fn FF k q n = noEff := by simp [applyV, hk, h5, hs, hne, m4, hA, sa]
      rw [E]
      rcases (show n = 3 ∨ n = 4 by omega) with rfl | rfl
      · exact done_nota3 hM hT hF hB q a b ha hb _ ho2 la hla hj2 u hu sa (by omega)
      · exact done_nota4 hM hT hF hB q a b ha hb _ ho2 la hla hj2 u hu sa (by omega)
    · cases sb : isSmallV b
      · have E : applyV ln L cn C self tn TF fn FF k q n = noEff := by simp [applyV, hk, h5, hs, hne, m4, hA, hBb, sa, sb]
        rw [E]
        rcases (show n = 3 ∨ n = 4 by omega) with rfl | rfl
        · exact done_notb3 hM hT hF hB q a b ha hb _ ho2 la hla hj2 u hu sa sb (by omega)
        · exact done_notb4 hM hT hF hB q a b ha hb _ ho2 la hla hj2 u hu sa sb (by omega)
      · have E : applyV ln L cn C self tn TF fn FF k q n = opEff u (valueV a) (valueV b) k q n (insAt cn C ((q : Int) + 3)) := by simp [applyV, hk, h5, hs, hne, m4, hA, hBb, hU, sa, sb]
        rw [E]
        rcases f5 with ⟨hA', rfl, rfl⟩ | ⟨⟨u1, u2, u3, u4⟩, f7⟩
        · obtain ⟨⟨r, kk⟩, hr⟩ : ∃ t, resV u (valueV a) (valueV b) = t := ⟨_, rfl⟩
          rw [res_A hA' hr]
          cases kk
          · exact done_no3 hM hT hF hB q a b ha hb _ ho2 la hla hj2 u hu r sa sb hr (by omega)
          · exact done_ok3 hM hT hF hB q a b ha hb _ ho2 la hla hj2 u hu r sa sb hr (by omega)
        · obtain ⟨cm, hr, E2, E3⟩ := res_B (x := valueV a) (y := valueV b) u1 u2 u3 u4
          rcases f7 with ⟨rfl, rfl⟩ | ⟨rfl, rfl, e17⟩
          · rw [E2]
            exact done_ok3 hM hT hF hB q a b ha hb _ ho2 la hla hj2 u hu _ sa sb hr (by omega)
          · rw [E3]
            have i3 := ins_q (C := C) (cn := cn) (i := (q : Int) + 3) (k := q + 3) rfl (by omega)
            have hg := hG (q + 3) (by omega)
            have ho3 := opnd_false (self := self) (tn := tn) (TF := TF) (fn := fn) (FF := FF) (isOp_no (ln := ln) (L := L) e17 (by decide))
            rw [i3] at e17 ⊢
            obtain ⟨⟨o, ta, tb⟩, hc⟩ : ∃ i, C (q + 3) = i := ⟨_, rfl⟩
            rw [hc] at e17 hg ⊢
            have e' : o = 17 := e17
            subst e'
            cases cm
            · exact done_jump hM hT hF hB q a b ha hb _ ho2 la hla hj2 u hu _ sa sb hr rfl _ ho3 ta tb hc hg.1 hg.2.1 hg.2.2.1 hg.2.2.2 (by omega)
            · exact done_stay hM hT hF hB q a b ha hb _ ho2 la hla hj2 u hu _ sa sb hr rfl _ ho3 ta tb hc hg.1 hg.2.1 hg.2.2.1 hg.2.2.2 (by omega)
end
end Go.Proofs.Ytjiidjcehhdnbaa
