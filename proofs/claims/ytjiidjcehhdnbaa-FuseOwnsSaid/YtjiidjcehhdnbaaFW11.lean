/- Contract of package fuse: what any stroke comes to. -/
import Derived.Test.YtjiidjcehhdnbaaFW9a
import Derived.Test.YtjiidjcehhdnbaaFW9b
import Derived.Test.YtjiidjcehhdnbaaFW9c
import Derived.Test.YtjiidjcehhdnbaaFW10
namespace Go.Proofs.Ytjiidjcehhdnbaa
open Go.ChangeShapes Go.WideShapes Go.ChangeAt Go.RowKit
set_option linter.unusedVariables false
set_option linter.unusedSimpArgs false

/-- what a stroke of two small integers comes to -/
def opEff (u : ByteArray) (x y kind at_ n : Int) (j : InsR) : Eff :=
  bif u.toList == [43] then (bif (smallV (x + y)).2 then ⟨at_ + n, [(smallV (x + y)).1], -1, 0, true⟩ else noEff)
  else bif u.toList == [45] then (bif (smallV (x - y)).2 then ⟨at_ + n, [(smallV (x - y)).1], -1, 0, true⟩ else noEff)
  else bif u.toList == [42] then (bif (smallV (x * y)).2 then ⟨at_ + n, [(smallV (x * y)).1], -1, 0, true⟩ else noEff)
  else bif kind == 3 then (bif (bif u.toList == [60] then decide (x < y) else x == y) then ⟨at_ + n, [], -1, 0, true⟩ else ⟨j.a + 256 * j.b, [], -1, 0, true⟩)
  else ⟨at_ + n, [bif (bif u.toList == [60] then decide (x < y) else x == y) then 2 else 4], -1, 0, true⟩
def applyV (ln : Nat) (L : Nat → LitR) (cn : Nat) (C : Nat → InsR) (self : Int) (tn : Nat) (TF : Nat → Int) (fn : Nat) (FF : Nat → Int) (kind at_ n : Int) : Eff :=
  bif kind == 0 || kind == 5 || neqB (strokeV ln L cn C at_).1 (strokeV ln L cn C at_).2.1 (strokeV ln L cn C at_).2.2 kind at_ n then noEff
  else bif kind == 4 then ⟨at_ + n, [], (insAt cn C (at_ + 1)).a, (opndV ln L cn C self tn TF fn FF at_).1, true⟩
  else bif !isSmallV (opndV ln L cn C self tn TF fn FF at_).1 || !isSmallV (opndV ln L cn C self tn TF fn FF (at_ + 1)).1 then noEff
  else opEff (selV ln L cn C (at_ + 2) 1) (valueV (opndV ln L cn C self tn TF fn FF at_).1) (valueV (opndV ln L cn C self tn TF fn FF (at_ + 1)).1) kind at_ n (insAt cn C (at_ + 3))

/-- of a stroke that begins at a place: what it is -/
theorem stroke_facts {ln : Nat} {L : Nat → LitR} {cn : Nat} {C : Nat → InsR} {p k n : Int} (h : strokeV ln L cn C p = (k, p, n)) (hk : (k == 0) = false) (h5 : (k == 5) = false) :
    0 ≤ p ∧ p < cn ∧ 3 ≤ n ∧ n ≤ 4 ∧ p + n ≤ cn ∧ ((k = 4 ∧ n = 3) ∨ ((k == 4) = false ∧
      (((((selV ln L cn C (p + 2) 1).toList == [43]) = true ∨ (((selV ln L cn C (p + 2) 1).toList == [43]) = false ∧ ((selV ln L cn C (p + 2) 1).toList == [45]) = true) ∨ (((selV ln L cn C (p + 2) 1).toList == [43]) = false ∧ ((selV ln L cn C (p + 2) 1).toList == [45]) = false ∧ ((selV ln L cn C (p + 2) 1).toList == [42]) = true)) ∧ k = 1 ∧ n = 3) ∨
       ((((selV ln L cn C (p + 2) 1).toList == [43]) = false ∧ ((selV ln L cn C (p + 2) 1).toList == [45]) = false ∧ ((selV ln L cn C (p + 2) 1).toList == [42]) = false ∧ (((selV ln L cn C (p + 2) 1).toList == [60]) = true ∨ (((selV ln L cn C (p + 2) 1).toList == [60]) = false ∧ ((selV ln L cn C (p + 2) 1).toList == [61]) = true))) ∧
        ((k = 2 ∧ n = 3) ∨ (k = 3 ∧ n = 4 ∧ (insAt cn C (p + 3)).op = 17)))))) := by
  have inr : ∀ q : Int, ¬ (insAt cn C q).op = 0 → 0 ≤ q ∧ q < cn := fun q hq => by
    by_cases hh : 0 ≤ q ∧ q < cn
    · exact hh
    · exact absurd (by rw [show insAt cn C q = noIns from if_neg hh]; rfl) hq
  have selin : ∀ (q a : Int) (c : UInt8) (t : List UInt8), (selV ln L cn C q a).toList = c :: t → 0 ≤ q ∧ q < cn := fun q a c t hs => by
    refine inr q fun h0 => ?_
    unfold selV at hs
    rw [if_neg (by rw [h0]; omega), ByteArray.toList_eq] at hs
    cases hs
  cases O : isOp ln L cn C p
  · simp [strokeV, O] at h; simp [← h.1] at hk
  · obtain ⟨i0, i1⟩ := isOp_in p O
    cases g1 : ((insAt cn C (p + 1)).op == 10 && (insAt cn C (p + 2)).op == 12)
    · cases T : letterV (selV ln L cn C (p + 1) 0)
      · cases O1 : isOp ln L cn C (p + 1)
        · simp [strokeV, O, g1, T, O1] at h; simp [← h.1] at hk
        · have hs : strokeS (selV ln L cn C (p + 2) 1) ((insAt cn C (p + 3)).op == 17) p = (k, p, n) := by simpa [strokeV, O, g1, T, O1] using h
          unfold strokeS at hs
          cases u43 : (selV ln L cn C (p + 2) 1).toList == [43]
          · cases u45 : (selV ln L cn C (p + 2) 1).toList == [45]
            · cases u42 : (selV ln L cn C (p + 2) 1).toList == [42]
              · cases u60 : (selV ln L cn C (p + 2) 1).toList == [60]
                · cases u61 : (selV ln L cn C (p + 2) 1).toList == [61]
                  · simp [u43, u45, u42, u60, u61] at hs; simp [← hs.1] at hk
                  · have hin := selin _ _ _ _ (by simpa using u61)
                    cases k17 : (insAt cn C (p + 3)).op == 17
                    · simp [u43, u45, u42, u60, u61, k17] at hs
                      obtain ⟨rfl, rfl⟩ := hs
                      refine ⟨i0, i1, by omega, by omega, by omega, .inr ⟨by decide, .inr ⟨⟨rfl, rfl, rfl, .inr ⟨rfl, rfl⟩⟩, .inl ⟨rfl, rfl⟩⟩⟩⟩
                    · simp [u43, u45, u42, u60, u61, k17] at hs
                      obtain ⟨rfl, rfl⟩ := hs
                      have k17' : (insAt cn C (p + 3)).op = 17 := by simpa using k17
                      have hin3 := inr (p + 3) (by omega)
                      refine ⟨i0, i1, by omega, by omega, by omega, .inr ⟨by decide, .inr ⟨⟨rfl, rfl, rfl, .inr ⟨rfl, rfl⟩⟩, .inr ⟨rfl, rfl, k17'⟩⟩⟩⟩
                · have hin := selin _ _ _ _ (by simpa using u60)
                  cases k17 : (insAt cn C (p + 3)).op == 17
                  · simp [u43, u45, u42, u60, k17] at hs
                    obtain ⟨rfl, rfl⟩ := hs
                    refine ⟨i0, i1, by omega, by omega, by omega, .inr ⟨by decide, .inr ⟨⟨rfl, rfl, rfl, .inl rfl⟩, .inl ⟨rfl, rfl⟩⟩⟩⟩
                  · simp [u43, u45, u42, u60, k17] at hs
                    obtain ⟨rfl, rfl⟩ := hs
                    have k17' : (insAt cn C (p + 3)).op = 17 := by simpa using k17
                    have hin3 := inr (p + 3) (by omega)
                    refine ⟨i0, i1, by omega, by omega, by omega, .inr ⟨by decide, .inr ⟨⟨rfl, rfl, rfl, .inl rfl⟩, .inr ⟨rfl, rfl, k17'⟩⟩⟩⟩
              · have hin := selin _ _ _ _ (by simpa using u42)
                simp [u43, u45, u42] at hs
                obtain ⟨rfl, rfl⟩ := hs
                exact ⟨i0, i1, by omega, by omega, by omega, .inr ⟨by decide, .inl ⟨.inr (.inr ⟨rfl, rfl, rfl⟩), rfl, rfl⟩⟩⟩
            · have hin := selin _ _ _ _ (by simpa using u45)
              simp [u43, u45] at hs
              obtain ⟨rfl, rfl⟩ := hs
              exact ⟨i0, i1, by omega, by omega, by omega, .inr ⟨by decide, .inl ⟨.inr (.inl ⟨rfl, rfl⟩), rfl, rfl⟩⟩⟩
          · have hin := selin _ _ _ _ (by simpa using u43)
            simp [u43] at hs
            obtain ⟨rfl, rfl⟩ := hs
            exact ⟨i0, i1, by omega, by omega, by omega, .inr ⟨by decide, .inl ⟨.inl rfl, rfl, rfl⟩⟩⟩
      · simp [strokeV, O, g1, T] at h; simp [← h.1] at h5
    · simp only [Bool.and_eq_true] at g1
      have e2 : (insAt cn C (p + 2)).op = 12 := by simpa using g1.2
      have hin := inr (p + 2) (by omega)
      simp [strokeV, O, g1.1, g1.2] at h
      obtain ⟨rfl, rfl⟩ := h
      exact ⟨i0, i1, by omega, by omega, by omega, .inl ⟨rfl, rfl⟩⟩


section
variable {w0 w : World} {LA : Option Addr} {ln lc : Nat} {CA : Option Addr} {cn cc : Nat} {L : Nat → LitR} {C : Nat → InsR} {s : ByteArray} {x0 x1 x2 : Int} {TA : Option Addr} {tn tc : Nat} {TF : Nat → Int} {FA : Option Addr} {fn fc : Nat} {FF : Nat → Int} {self : Int}
def AppPost (w : World) (v : Eff) (e : Ending) (w' : World) : Prop :=
  ∃ PV, e = .returned (.tuple #[.agg #[.int .i64 v.dst, PV, .int .i64 v.temp, .int .i64 v.val], .bool v.ok]) ∧ w'.ownsRow w.heap.size 3 1 PV v.push.length (v.push.map (.int .i64)) ∧ Below w.heap.size w w'
theorem app_any (hM : IsM w0 LA ln CA cn L C) (hG : okV cn C) (hT : Words w0 TA tn TF) (hF : Words w0 FA fn FF) (hB : Below w0.heap.size w0 w) (kind at_ n : Int) :
    Calls Try.prog 16 #[.agg #[.string s, .int .i64 x0, .int .i64 x1, .int .i64 x2, .slice LA ln lc, .slice CA cn cc], .agg #[.int .i64 kind, .int .i64 at_, .int .i64 n], .agg #[.int .i64 self, .slice TA tn tc, .slice FA fn fc]] w (AppPost w (applyV ln L cn C self tn TF fn FF kind at_ n)) := by
  cases g0 : kind == 0
  · cases g5 : kind == 5
    · obtain ⟨⟨sk, sa, sn⟩, hs⟩ : ∃ t, strokeV ln L cn C at_ = t := ⟨_, rfl⟩
      cases hne : neqB sk sa sn kind at_ n
      · obtain ⟨rfl, rfl, rfl⟩ : sk = kind ∧ sa = at_ ∧ sn = n := by
          unfold neqB at hne; simpa [and_assoc] using hne
        have hn := hM.cn_le
        have hne' : neqB sk sa sn sk sa sn = false := hne
        obtain ⟨f0, f1, f2, f3, f4, f5⟩ := stroke_facts hs g0 g5
        have h0 : -1 ≤ sa := by omega
        have h1 : sa ≤ 1000 := by omega
        have h2 : 2 ≤ sn := by omega
        obtain ⟨⟨a, ia⟩, ha⟩ : ∃ t, opndV ln L cn C self tn TF fn FF sa = t := ⟨_, rfl⟩
        obtain ⟨⟨b, ib⟩, hb⟩ : ∃ t, opndV ln L cn C self tn TF fn FF (sa + 1) = t := ⟨_, rfl⟩
        rcases f5 with ⟨rfl, rfl⟩ | ⟨m4, f5⟩
        · have E : applyV ln L cn C self tn TF fn FF 4 sa 3 = ⟨sa + 3, [], (insAt cn C (sa + 1)).a, a, true⟩ := by simp [applyV, g0, g5, hs, hne', ha]
          rw [E]; exact app_move hM hT hF hB 4 sa 3 g0 g5 hs h0 h1 h2 f3 a b ia ib ha hb rfl _ rfl
        · cases sa' : isSmallV a
          · have E : applyV ln L cn C self tn TF fn FF sk sa sn = noEff := by simp [applyV, g0, g5, hs, hne', ha, hb, m4, sa']
            rw [E]; exact app_nota hM hT hF hB sk sa sn g0 g5 hs h0 h1 h2 f3 a b ia ib ha hb m4 sa'
          · cases sb : isSmallV b
            · have E : applyV ln L cn C self tn TF fn FF sk sa sn = noEff := by simp [applyV, g0, g5, hs, hne', ha, hb, m4, sa', sb]
              rw [E]; exact app_notb hM hT hF hB sk sa sn g0 g5 hs h0 h1 h2 f3 a b ia ib ha hb m4 sa' sb
            · have E : applyV ln L cn C self tn TF fn FF sk sa sn = opEff (selV ln L cn C (sa + 2) 1) (valueV a) (valueV b) sk sa sn (insAt cn C (sa + 3)) := by simp [applyV, g0, g5, hs, hne', ha, hb, m4, sa', sb]
              rw [E]
              rcases f5 with ⟨f6, rfl, rfl⟩ | ⟨⟨u43, u45, u42, f6⟩, f7⟩
              · rcases f6 with u43 | ⟨u43, u45⟩ | ⟨u43, u45, u42⟩
                · obtain ⟨⟨v, is⟩, hw⟩ : ∃ t, smallV (valueV a + valueV b) = t := ⟨_, rfl⟩
                  cases is
                  · rw [show opEff (selV ln L cn C (sa + 2) 1) (valueV a) (valueV b) 1 sa 3 (insAt cn C (sa + 3)) = noEff by simp [opEff, u43, hw]]
                    exact app_plus_no hM hT hF hB 1 sa 3 g0 g5 hs h0 h1 h2 f3 a b ia ib ha hb m4 sa' sb u43 v hw
                  · rw [show opEff (selV ln L cn C (sa + 2) 1) (valueV a) (valueV b) 1 sa 3 (insAt cn C (sa + 3)) = ⟨sa + 3, [v], -1, 0, true⟩ by simp [opEff, u43, hw]]
                    exact app_plus hM hT hF hB 1 sa 3 g0 g5 hs h0 h1 h2 f3 a b ia ib ha hb m4 sa' sb u43 v hw rfl
                · obtain ⟨⟨v, is⟩, hw⟩ : ∃ t, smallV (valueV a - valueV b) = t := ⟨_, rfl⟩
                  cases is
                  · rw [show opEff (selV ln L cn C (sa + 2) 1) (valueV a) (valueV b) 1 sa 3 (insAt cn C (sa + 3)) = noEff by simp [opEff, u43, u45, hw]]
                    exact app_minus_no hM hT hF hB 1 sa 3 g0 g5 hs h0 h1 h2 f3 a b ia ib ha hb m4 sa' sb u43 u45 v hw
                  · rw [show opEff (selV ln L cn C (sa + 2) 1) (valueV a) (valueV b) 1 sa 3 (insAt cn C (sa + 3)) = ⟨sa + 3, [v], -1, 0, true⟩ by simp [opEff, u43, u45, hw]]
                    exact app_minus hM hT hF hB 1 sa 3 g0 g5 hs h0 h1 h2 f3 a b ia ib ha hb m4 sa' sb u43 u45 v hw rfl
                · obtain ⟨⟨v, is⟩, hw⟩ : ∃ t, smallV (valueV a * valueV b) = t := ⟨_, rfl⟩
                  cases is
                  · rw [show opEff (selV ln L cn C (sa + 2) 1) (valueV a) (valueV b) 1 sa 3 (insAt cn C (sa + 3)) = noEff by simp [opEff, u43, u45, u42, hw]]
                    exact app_times_no hM hT hF hB 1 sa 3 g0 g5 hs h0 h1 h2 f3 a b ia ib ha hb m4 sa' sb u43 u45 u42 v hw
                  · rw [show opEff (selV ln L cn C (sa + 2) 1) (valueV a) (valueV b) 1 sa 3 (insAt cn C (sa + 3)) = ⟨sa + 3, [v], -1, 0, true⟩ by simp [opEff, u43, u45, u42, hw]]
                    exact app_times hM hT hF hB 1 sa 3 g0 g5 hs h0 h1 h2 f3 a b ia ib ha hb m4 sa' sb u43 u45 u42 v hw rfl
              · have hj : ∀ (_ : (insAt cn C (sa + 3)).op = 17), ∃ ta tb, insAt cn C (sa + 3) = ⟨17, ta, tb⟩ ∧ -100000 ≤ ta ∧ ta ≤ 100000 ∧ -100000 ≤ tb ∧ tb ≤ 100000 := fun e => by
                  have hin : 0 ≤ sa + 3 ∧ sa + 3 < cn := by
                    by_cases hh : 0 ≤ sa + 3 ∧ sa + 3 < cn
                    · exact hh
                    · rw [show insAt cn C (sa + 3) = noIns from if_neg hh] at e; cases e
                  have hg := hG (sa + 3).toNat (by omega)
                  rw [show insAt cn C (sa + 3) = C (sa + 3).toNat from if_pos hin] at e ⊢
                  obtain ⟨⟨o, ta, tb⟩, hc⟩ : ∃ i, C (sa + 3).toNat = i := ⟨_, rfl⟩
                  rw [hc] at e hg ⊢
                  have e' : o = 17 := e
                  subst e'
                  exact ⟨ta, tb, rfl, hg.1, hg.2.1, hg.2.2.1, hg.2.2.2⟩
                rcases f6 with u60 | ⟨u60, u61⟩
                · cases dd : decide (valueV a < valueV b)
                  · rcases f7 with ⟨rfl, rfl⟩ | ⟨rfl, rfl, e17⟩
                    · rw [show opEff (selV ln L cn C (sa + 2) 1) (valueV a) (valueV b) 2 sa 3 (insAt cn C (sa + 3)) = ⟨sa + 3, [4], -1, 0, true⟩ by simp only [opEff, u43, u45, u42, u60, dd]; rfl]
                      exact app_less_false hM hT hF hB 2 sa 3 g0 g5 hs h0 h1 h2 f3 a b ia ib ha hb m4 sa' sb u43 u45 u42 u60 dd rfl
                    · obtain ⟨ta, tb, hi, q1, q2, q3, q4⟩ := hj e17
                      rw [hi, show opEff (selV ln L cn C (sa + 2) 1) (valueV a) (valueV b) 3 sa 4 ⟨17, ta, tb⟩ = ⟨ta + 256 * tb, [], -1, 0, true⟩ by simp only [opEff, u43, u45, u42, u60, dd]; rfl]
                      exact app_less_jump hM hT hF hB 3 sa 4 g0 g5 hs h0 h1 h2 f3 a b ia ib ha hb m4 sa' sb u43 u45 u42 u60 dd rfl ta tb hi q1 q2 q3 q4
                  · rcases f7 with ⟨rfl, rfl⟩ | ⟨rfl, rfl, e17⟩
                    · rw [show opEff (selV ln L cn C (sa + 2) 1) (valueV a) (valueV b) 2 sa 3 (insAt cn C (sa + 3)) = ⟨sa + 3, [2], -1, 0, true⟩ by simp only [opEff, u43, u45, u42, u60, dd]; rfl]
                      exact app_less_true hM hT hF hB 2 sa 3 g0 g5 hs h0 h1 h2 f3 a b ia ib ha hb m4 sa' sb u43 u45 u42 u60 dd rfl
                    · rw [show opEff (selV ln L cn C (sa + 2) 1) (valueV a) (valueV b) 3 sa 4 (insAt cn C (sa + 3)) = ⟨sa + 4, [], -1, 0, true⟩ by simp only [opEff, u43, u45, u42, u60, dd]; rfl]
                      exact app_less_stay hM hT hF hB 3 sa 4 g0 g5 hs h0 h1 h2 f3 a b ia ib ha hb m4 sa' sb u43 u45 u42 u60 dd rfl
                · cases dd : valueV a == valueV b
                  · rcases f7 with ⟨rfl, rfl⟩ | ⟨rfl, rfl, e17⟩
                    · rw [show opEff (selV ln L cn C (sa + 2) 1) (valueV a) (valueV b) 2 sa 3 (insAt cn C (sa + 3)) = ⟨sa + 3, [4], -1, 0, true⟩ by simp only [opEff, u43, u45, u42, u60, dd]; rfl]
                      exact app_same_false hM hT hF hB 2 sa 3 g0 g5 hs h0 h1 h2 f3 a b ia ib ha hb m4 sa' sb u43 u45 u42 u60 u61 dd rfl
                    · obtain ⟨ta, tb, hi, q1, q2, q3, q4⟩ := hj e17
                      rw [hi, show opEff (selV ln L cn C (sa + 2) 1) (valueV a) (valueV b) 3 sa 4 ⟨17, ta, tb⟩ = ⟨ta + 256 * tb, [], -1, 0, true⟩ by simp only [opEff, u43, u45, u42, u60, dd]; rfl]
                      exact app_same_jump hM hT hF hB 3 sa 4 g0 g5 hs h0 h1 h2 f3 a b ia ib ha hb m4 sa' sb u43 u45 u42 u60 u61 dd rfl ta tb hi q1 q2 q3 q4
                  · rcases f7 with ⟨rfl, rfl⟩ | ⟨rfl, rfl, e17⟩
                    · rw [show opEff (selV ln L cn C (sa + 2) 1) (valueV a) (valueV b) 2 sa 3 (insAt cn C (sa + 3)) = ⟨sa + 3, [2], -1, 0, true⟩ by simp only [opEff, u43, u45, u42, u60, dd]; rfl]
                      exact app_same_true hM hT hF hB 2 sa 3 g0 g5 hs h0 h1 h2 f3 a b ia ib ha hb m4 sa' sb u43 u45 u42 u60 u61 dd rfl
                    · rw [show opEff (selV ln L cn C (sa + 2) 1) (valueV a) (valueV b) 3 sa 4 (insAt cn C (sa + 3)) = ⟨sa + 4, [], -1, 0, true⟩ by simp only [opEff, u43, u45, u42, u60, dd]; rfl]
                      exact app_same_stay hM hT hF hB 3 sa 4 g0 g5 hs h0 h1 h2 f3 a b ia ib ha hb m4 sa' sb u43 u45 u42 u60 u61 dd rfl
      · have E : applyV ln L cn C self tn TF fn FF kind at_ n = noEff := by simp [applyV, g0, g5, hs, hne]
        rw [E]; exact app_forged hM hB kind at_ n g0 g5 sk sa sn hs hne
    · have E : applyV ln L cn C self tn TF fn FF kind at_ n = noEff := by simp [applyV, g5]
      rw [E]; exact app_zero hM hB kind at_ n (.inr ⟨g0, g5⟩)
  · have E : applyV ln L cn C self tn TF fn FF kind at_ n = noEff := by simp [applyV, g0]
    rw [E]; exact app_zero hM hB kind at_ n (.inl g0)
end
end Go.Proofs.Ytjiidjcehhdnbaa
