/- Chapter 05: what reads in the reference: its state, byte. -/
import Derived.Test.YtfinpgkehjbcpaaIK
import Derived.BigQuiet
import Derived.Test.YtfinpgkehjbcpaaJRead
namespace Go.Proofs.Ytfinpgkehjbcpaa
open Go.ChangeShapes Go.WideShapes Go.ChangeAt Go.RowKit Go.Deep Go.Joins Go.Maps
set_option linter.unusedVariables false
set_option linter.unusedSimpArgs false
/-- what reads in the reference: bytes, a place; was something wrong? -/
def RT (w : World) (rb bb : Nat) (σ : RdS) : Prop := ∃ (A : Option Addr) (c : Nat) (L : List Int) (k : Nat), w.heap[rb]? = some (.cells #[.slice A L.length c, .int .i64 (k : Int), .bool σ.isNone] 89 (0, 0)) ∧ k ≤ L.length ∧ L.length ≤ 900000000 ∧ Bytes w A L ∧ IsB L ∧ ((∀ b off, A = some ⟨b, off, none⟩ → b = bb) ∧ bb ≠ rb) ∧ (∀ l', σ = some l' → l' = L.drop k)
section
variable {w w' : World} {rb bb : Nat} {σ : RdS}
theorem RT.turns (h : RT w rb bb σ) {T : Nat → Prop} (ht : Turns T w w') (hd : ¬ T rb) (hb : ¬ T bb) : RT w' rb bb σ := by
  obtain ⟨A, c, L, k, h1, h2, h3, h4, h5, h6, h7⟩ := h
  refine ⟨A, c, L, k, (ht.block rb ?_ hd).trans h1, h2, h3, h4.turns ht (fun b off e => by rw [h6.1 b off e]; exact hb), h5, h6, h7⟩
  rcases Nat.lt_or_ge rb w.heap.size with q | q
  · exact q
  · rw [Array.getElem?_eq_none q] at h1; cases h1
theorem RT.lt (h : RT w rb bb σ) : rb < w.heap.size := by
  obtain ⟨A, c, L, k, h1, _⟩ := h
  rcases Nat.lt_or_ge rb w.heap.size with q | q
  · exact q
  · rw [Array.getElem?_eq_none q] at h1; cases h1
theorem RT.below (h : RT w rb bb σ) (hb : Below w.heap.size w w') : RT w' rb bb σ := by
  have hl := h.lt
  obtain ⟨A, c, L, k, h1, h2, h3, h4, h5, h6, h7⟩ := h
  exact ⟨A, c, L, k, (hb.block rb hl).trans h1, h2, h3, h4.below hb, h5, h6, h7⟩
theorem RT.free (h : RT w rb bb σ) (k : Nat) : w.frozen? ⟨rb, k, none⟩ = false := by
  obtain ⟨A, c, L, j, h1, _⟩ := h
  simp [World.frozen?, h1]
theorem RT.c2 (h : RT w rb bb σ) : w.cell? ⟨rb, 2, none⟩ = some (.bool σ.isNone) := by
  obtain ⟨A, c, L, j, h1, _⟩ := h
  simp [World.cell?, h1]
/-- something is wrong -/
theorem RT.spoil (h : RT w rb bb σ) : RT (w.setCell ⟨rb, 2, none⟩ (.bool true)) rb bb none ∧ Turns (rset rb) w (w.setCell ⟨rb, 2, none⟩ (.bool true)) := by
  have ht : Turns (rset rb) w (w.setCell ⟨rb, 2, none⟩ (.bool true)) := (Turns.refl _ _).setCell _ _ rfl
  obtain ⟨A, c, L, k, h1, h2, h3, h4, h5, h6, h7⟩ := h
  exact ⟨⟨A, c, L, k, by rw [heap_setCell_same w rb 2 _ _ _ h1]; rfl, h2, h3, h4.turns ht (fun b off e q => h6.2 ((h6.1 b off e).symm.trans q)), h5, h6, fun l' e => by cases e⟩, ht⟩
theorem RT.same (h : RT w rb bb σ) : RT (w.setCell ⟨rb, 2, none⟩ (.bool σ.isNone)) rb bb σ ∧ Turns (rset rb) w (w.setCell ⟨rb, 2, none⟩ (.bool σ.isNone)) := by
  have ht : Turns (rset rb) w (w.setCell ⟨rb, 2, none⟩ (.bool σ.isNone)) := (Turns.refl _ _).setCell _ _ rfl
  obtain ⟨A, c, L, k, h1, h2, h3, h4, h5, h6, h7⟩ := h
  exact ⟨⟨A, c, L, k, by rw [heap_setCell_same w rb 2 _ _ _ h1]; rfl, h2, h3, h4.turns ht (fun b off e q => h6.2 ((h6.1 b off e).symm.trans q)), h5, h6, h7⟩, ht⟩
theorem RT.isB {l : List Int} (h : RT w rb bb (some l)) : IsB l := by
  obtain ⟨A, c, L, k, h1, h2, h3, h4, h5, h6, h7⟩ := h
  rw [h7 l rfl]; exact fun x hx => h5 x (List.mem_of_mem_drop hx)
end
set_option maxRecDepth 100000 in
set_option maxHeartbeats 16000000 in
theorem qbyte_any {w : World} {rb bb : Nat} {σ : RdS} (h : RT w rb bb σ) : Calls Try.prog 89 #[.pointer (some ⟨rb, 0, none⟩)] w fun e w' => ∃ x : Int, e = .returned (.int .i64 x) ∧ (∀ l, σ = some l → x = (byteR σ).1) ∧ RT w' rb bb (byteR σ).2 ∧ Turns (rset rb) w w' ∧ (0 ≤ x ∧ x ≤ 255) := by
  have f2 := h.free 2
  have f1 := h.free 1
  have hbd : Below w.heap.size w w.drew := Below.drew (Below.refl _ _)
  have hd := h.below hbd
  have HP : Hid (RT (w.drew.setCell ⟨rb, 2, none⟩ (.bool true)) rb bb none ∧ Turns (rset rb) w (w.drew.setCell ⟨rb, 2, none⟩ (.bool true))) := Lib.hid ⟨hd.spoil.1, (Turns.of_below hbd).trans hd.spoil.2⟩
  clear hd
  obtain ⟨A, c, L, k, h1, h2, h3, h4, h5, h6, h7⟩ := h
  have c2 : w.cell? ⟨rb, 2, none⟩ = some (.bool σ.isNone) := by simp [World.cell?, h1]
  have c1 : w.cell? ⟨rb, 1, none⟩ = some (.int .i64 (k : Int)) := by simp [World.cell?, h1]
  have c0 : w.cell? ⟨rb, 0, none⟩ = some (.slice A L.length c) := by simp [World.cell?, h1]
  by_cases hk : k < L.length
  · obtain ⟨b, off, rfl, hlt, hc⟩ := h4 k hk
    obtain ⟨x, hxe⟩ : ∃ x, L[k] = x := ⟨_, rfl⟩
    have hx := h5 x (by rw [← hxe]; exact List.getElem_mem _)
    rw [hxe] at hc
    have HBV : Hid ((byteR σ).2 = (σ.map (fun _ => L.drop (k + 1))) ∧ ∀ l, σ = some l → x = (byteR σ).1) := Lib.hid (by
      cases σ with
      | none => exact ⟨rfl, fun l e => by cases e⟩
      | some l' =>
        rw [h7 l' rfl, List.drop_eq_getElem_cons hk, hxe]
        exact ⟨rfl, fun l e => rfl⟩)
    have hne : b ≠ rb := fun e => h6.2 (((h6.1 b off rfl).symm).trans e)
    obtain ⟨W1, hW1⟩ : ∃ W1, W1 = w.drew.setCell ⟨rb, 1, none⟩ (.int .i64 ((k : Int) + 1)) := ⟨_, rfl⟩
    have ht : Turns (rset rb) w W1 := by rw [hW1]; exact (Turns.of_below hbd).setCell _ _ rfl
    have hn1 : W1.heap[rb]? = some (.cells #[.slice (some ⟨b, off, none⟩) L.length c, .int .i64 ((k + 1 : Nat) : Int), .bool σ.isNone] 89 (0, 0)) := by
      rw [hW1, heap_setCell_same w.drew rb 1 _ _ _ h1]; rfl
    have HNEW : Hid (RT W1.drew rb bb (byteR σ).2 ∧ Turns (rset rb) w W1.drew) := Lib.hid (by
      suffices hq : RT W1 rb bb (byteR σ).2 ∧ Turns (rset rb) w W1 from ⟨hq.1.below (Below.drew (Below.refl _ _)), hq.2.trans (Turns.of_below (Below.drew (Below.refl _ _)))⟩
      refine ⟨⟨_, c, L, k + 1, ?_, by omega, h3, h4.turns ht (fun b' off' e q => h6.2 ((h6.1 b' off' e).symm.trans q)), h5, h6, fun l' e => ?_⟩, ht⟩
      · rw [HBV.out.1, hn1]
        cases σ <;> rfl
      · rw [HBV.out.1] at e
        cases σ with
        | none => cases e
        | some l0 => cases e; rfl)
    have n0 : W1.cell? ⟨rb, 0, none⟩ = some (.slice (some ⟨b, off, none⟩) L.length c) := by simp [World.cell?, hn1]
    have n1 : W1.cell? ⟨rb, 1, none⟩ = some (.int .i64 ((k + 1 : Nat) : Int)) := by simp [World.cell?, hn1]
    have n2 : (w.setCell ⟨rb, 1, none⟩ (.int .i64 ((k : Int) + 1))).cell? ⟨b, off + k, none⟩ = some (.int .u8 x) := by
      have := Below.heap_setCell w ⟨rb, 1, none⟩ (.int .i64 ((k : Int) + 1)) b hne
      unfold World.cell? at hc ⊢
      rw [this]; exact hc
    have e3 : IntKind.i64.wrap x = x := IntWalk.i64_in _ ⟨by omega, by omega⟩
    obtain ⟨n, hn⟩ : ∃ n, L.length = n := ⟨_, rfl⟩
    rw [hn] at c0 n0 h3 hk
    have d1 : decide ((n : Int) ≤ (k : Int)) = false := decide_eq_false (by omega)
    have d1' : ¬ ((n : Int) ≤ (k : Int)) := by omega
    have s1 : ((k + 1 : Nat) : Int) - 1 = (k : Int) := by omega
    clear h1 h4 h5 h6 h7 h2 hn hxe hc hn1 ht
    go_enter Try.func89, Try.ntmps89
    subst hW1
    go_wp2_with fail
    go_region
    go_wp2_with fail
    go_region
    go_wp2_with fail
    go_ret
    exact ⟨x, rfl, HBV.out.2, HNEW.out.1, HNEW.out.2, hx⟩
  · have HE : Hid (byteR σ = (0, none)) := Lib.hid (by
      cases σ with
      | none => rfl
      | some l' => rw [h7 l' rfl, List.drop_eq_nil_of_le (by omega)]; rfl)
    rw [HE.out]
    obtain ⟨n, hn⟩ : ∃ n, L.length = n := ⟨_, rfl⟩
    rw [hn] at c0 h3 hk
    have d1 : decide ((n : Int) ≤ (k : Int)) = true := decide_eq_true (by omega)
    have d1' : ((n : Int) ≤ (k : Int)) := by omega
    clear h1 h4 h5 h6 h7 h2 hn HE
    go_enter Try.func89, Try.ntmps89
    go_wp2_with fail
    go_region
    go_wp2_with fail
    go_ret
    exact ⟨0, rfl, fun _ e => rfl, HP.out.1, HP.out.2, by omega⟩
end Go.Proofs.Ytfinpgkehjbcpaa
/- Chapter 05: the reference reads a count. -/
namespace Go.Proofs.Ytfinpgkehjbcpaa
open Go.ChangeShapes Go.WideShapes Go.ChangeAt Go.RowKit Go.Deep Go.Joins Go.Maps
set_option linter.unusedVariables false
set_option linter.unusedSimpArgs false
set_option maxRecDepth 100000 in
set_option maxHeartbeats 16000000 in
theorem qcount_some {w : World} {rb bb : Nat} {l : List Int} (h : RT w rb bb (some l)) (most : Nat) (hm : most ≤ 9223372036854775807) : Calls Try.prog 52 #[.pointer (some ⟨rb, 0, none⟩), .int .i64 most] w fun e w' => e = .returned (.int .i64 ((cntR most (some l)).1 : Int)) ∧ RT w' rb bb (cntR most (some l)).2 ∧ Turns (rset rb) w w' := by
  have HH := Lib.hid h
  clear h
  go_enter Try.func52, Try.ntmps52
  go_wp2_with fail
  go_loopw [5, 6, 7] (fun u s i wr => ∃ (k n : Nat) (Q : Int), u = .int .i64 n ∧ s = .int .i64 Q ∧ i = .int .i64 k ∧ n < 2 ^ (7 * k) ∧ k ≤ 9 ∧ ((k ≤ 8 ∧ Q = ((2 ^ (7 * k) : Nat) : Int) ∧ ∃ lk, (RT wr rb bb (some lk) ∧ Turns (rset rb) w wr) ∧ decC 9 l = (decC (9 - k) lk).map (fun p => (n + 2 ^ (7 * k) * p.1, p.2))) ∨ (k = 9 ∧ (∃ σ9, RT wr rb bb σ9) ∧ Turns (rset rb) w wr ∧ decC 9 l = none))) (fun _ _ i _ => 9 - (intOf i).toNat)
  case atStart => exact ⟨0, 0, 1, rfl, rfl, rfl, by decide, by omega, .inl ⟨by omega, rfl, l, ⟨HH.out, Turns.refl _ _⟩, by simp⟩⟩
  case round =>
    obtain ⟨k, n, Q, rfl, rfl, rfl, hn, hk9, hcase⟩ := hrel
    obtain ⟨P, hP⟩ : ∃ P, 2 ^ (7 * k) = P := ⟨_, rfl⟩
    have HPE := Lib.hid hP
    rcases hcase with ⟨hk8, hQ, lk, hr, hd⟩ | ⟨rfl, ⟨σ9, hr⟩, htr, hd⟩
    · have HPB : Hid (P ≤ 72057594037927936) := Lib.hid (by rw [← hP]; exact (Nat.pow_le_pow_right (n := 2) (by decide) (show 7 * k ≤ 56 by omega)))
      rw [hP] at hn hQ
      subst hQ
      have hP72 := HPB.out
      have hn63 : n < 72057594037927936 := by have := HPB.out; omega
      have HR := Lib.hid hr
      have HD := Lib.hid hd
      have HNP := Lib.hid hn
      have d9 : decide ((k : Int) < 9) = true := decide_eq_true (by omega)
      have hib := hr.1.isB
      clear hr hd hn hP
      cases lk with
      | nil =>
        have HBY : Hid (byteR (some []) = (0, none)) := Lib.hid rfl
        have HV : Hid (cntR most (some l) = (0, none)) := Lib.hid (cntR_no (by rw [HD.out, decC_nil]; rfl))
        clear HD hib
        go_wp2_with (first | (go_at_call 89; (with_reducible refine (qbyte_any HR.out.1).mono ?_); rw [HBY.out]; rintro e w2 ⟨xq, rfl, hxq, hr2, ht2, hxb⟩; clear hxq; replace HR := Lib.hid (And.intro hr2 (HR.out.2.trans ht2)); have k1 := hr2.c2; have f2 := hr2.free 2; have HSP := Lib.hid (And.intro hr2.spoil.1 (HR.out.2.trans hr2.spoil.2)); simp only [Option.isNone] at k1; clear hr2 ht2))
        go_ret
        exact ⟨by rw [HV.out]; rfl, by rw [HV.out]; exact HSP.out.1, HSP.out.2⟩
      | cons x lk =>
        have HBY : Hid (byteR (some (x :: lk)) = (x, some lk)) := Lib.hid rfl
        have hxb0 := hib x (by simp)
        have hx0 := hxb0.1
        have hx1 := hxb0.2
        clear hib hxb0
        by_cases hx : x < 128
        · skip
          have dx : decide (x < 128) = true := decide_eq_true hx
          obtain ⟨r, hrx⟩ : ∃ r : Nat, x = (r : Int) := ⟨x.toNat, by omega⟩
          subst hrx
          have hr128 : r < 128 := by omega
          have a1 : ((r : Int)).tmod 128 = ((r : Nat) : Int) := by rw [Int.tmod_eq_emod_of_nonneg (by omega)]; omega
          obtain ⟨t, ht⟩ : ∃ t, r * P = t := ⟨_, rfl⟩
          have htb : t ≤ 127 * 72057594037927936 := by rw [← ht]; exact Nat.mul_le_mul (by omega) HPB.out
          have e1 : ((r : Int) * (P : Int)) = (t : Int) := by rw [← ht]; simp
          have s1 : wrap64 ((r : Int) * (P : Int)) = (t : Int) := by
            rw [e1]
            exact IntWalk.wrap64_in (t : Int) ⟨by omega, by omega⟩
          obtain ⟨n', hn'⟩ : ∃ n', n + t = n' := ⟨_, rfl⟩
          have HNQ : Hid ((n : Int) + (t : Int) = (n' : Int)) := Lib.hid (by omega)
          have HN' : Hid (n + r * P = n') := Lib.hid (by rw [ht]; exact hn')

          by_cases hok : 0 < r ∨ k = 0
          · have HD2 : Hid (decC 9 l = some (n', lk)) := Lib.hid (by
              rw [HD.out, show 9 - k = 8 - k + 1 by omega, decC_last hx (by omega)]
              show some (_, _) = _
              rw [← HN'.out, Int.toNat_natCast, HPE.out, Nat.mul_comm])
            have dz : (decide ((r : Int) = 0) = true ∧ decide ((0 : Int) < (k : Int)) = false) ∨ decide ((r : Int) = 0) = false := by
              rcases hok with q | q
              · exact .inr (decide_eq_false (by omega))
              · rcases Nat.eq_zero_or_pos r with q2 | q2
                · exact .inl ⟨decide_eq_true (by omega), decide_eq_false (by omega)⟩
                · exact .inr (decide_eq_false (by omega))
            have dz1 : (decide ((r : Int) = 0) = true ∧ decide ((0 : Int) < (k : Int)) = false ∧ ¬ ((0 : Int) < (k : Int)) ∧ ((r : Int) == 0) = true) ∨ (decide ((r : Int) = 0) = false ∧ ((r : Int) == 0) = false) := by
              rcases dz with ⟨q, q2⟩ | q
              · exact .inl ⟨q, q2, of_decide_eq_false q2, by simpa using q⟩
              · exact .inr ⟨q, by simpa using q⟩
            by_cases hms : n' ≤ most
            · have d1 : decide ((most : Int) < (n : Int) + (t : Int)) = false := decide_eq_false (by omega)
              have d1' : ¬ ((most : Int) < (n : Int) + (t : Int)) := by omega
              have HV : Hid (cntR most (some l) = (n', some lk)) := Lib.hid (cntR_some HD2.out hms)
              clear HD ht hn' hk9 hm hok dz
              rcases dz1 with ⟨z1, z2, z3, z4⟩ | ⟨z1, z4⟩
              · skip
                go_wp2_with (first | (go_at_call 89; (with_reducible refine (qbyte_any HR.out.1).mono ?_); rw [HBY.out]; rintro e w2 ⟨xq, rfl, hxq, hr2, ht2, hxb⟩; replace hxq := (hxq _ rfl).symm; subst hxq; replace HR := Lib.hid (And.intro hr2 (HR.out.2.trans ht2)); have k1 := hr2.c2; have f2 := hr2.free 2; have HSP := Lib.hid (And.intro hr2.spoil.1 (HR.out.2.trans hr2.spoil.2)); simp only [Option.isNone] at k1; clear hr2 ht2 hxb))
                go_ret
                exact ⟨by rw [HV.out]; show _ = Ending.returned (.int .i64 (n' : Int)); rw [← HNQ.out]; rfl, by rw [HV.out]; exact HR.out.1, HR.out.2⟩
              · skip
                go_wp2_with (first | (go_at_call 89; (with_reducible refine (qbyte_any HR.out.1).mono ?_); rw [HBY.out]; rintro e w2 ⟨xq, rfl, hxq, hr2, ht2, hxb⟩; replace hxq := (hxq _ rfl).symm; subst hxq; replace HR := Lib.hid (And.intro hr2 (HR.out.2.trans ht2)); have k1 := hr2.c2; have f2 := hr2.free 2; have HSP := Lib.hid (And.intro hr2.spoil.1 (HR.out.2.trans hr2.spoil.2)); simp only [Option.isNone] at k1; clear hr2 ht2 hxb))
                go_ret
                exact ⟨by rw [HV.out]; show _ = Ending.returned (.int .i64 (n' : Int)); rw [← HNQ.out]; rfl, by rw [HV.out]; exact HR.out.1, HR.out.2⟩
            · have d1 : decide ((most : Int) < (n : Int) + (t : Int)) = true := decide_eq_true (by omega)
              have d1' : ((most : Int) < (n : Int) + (t : Int)) := by omega
              have HV : Hid (cntR most (some l) = (0, none)) := Lib.hid (cntR_over HD2.out hms)
              clear HD ht hn' hk9 hm hok dz
              rcases dz1 with ⟨z1, z2, z3, z4⟩ | ⟨z1, z4⟩
              · skip
                go_wp2_with (first | (go_at_call 89; (with_reducible refine (qbyte_any HR.out.1).mono ?_); rw [HBY.out]; rintro e w2 ⟨xq, rfl, hxq, hr2, ht2, hxb⟩; replace hxq := (hxq _ rfl).symm; subst hxq; replace HR := Lib.hid (And.intro hr2 (HR.out.2.trans ht2)); have k1 := hr2.c2; have f2 := hr2.free 2; have HSP := Lib.hid (And.intro hr2.spoil.1 (HR.out.2.trans hr2.spoil.2)); simp only [Option.isNone] at k1; clear hr2 ht2 hxb))
                go_ret
                exact ⟨by rw [HV.out]; rfl, by rw [HV.out]; exact HSP.out.1, HSP.out.2⟩
              · skip
                go_wp2_with (first | (go_at_call 89; (with_reducible refine (qbyte_any HR.out.1).mono ?_); rw [HBY.out]; rintro e w2 ⟨xq, rfl, hxq, hr2, ht2, hxb⟩; replace hxq := (hxq _ rfl).symm; subst hxq; replace HR := Lib.hid (And.intro hr2 (HR.out.2.trans ht2)); have k1 := hr2.c2; have f2 := hr2.free 2; have HSP := Lib.hid (And.intro hr2.spoil.1 (HR.out.2.trans hr2.spoil.2)); simp only [Option.isNone] at k1; clear hr2 ht2 hxb))
                go_ret
                exact ⟨by rw [HV.out]; rfl, by rw [HV.out]; exact HSP.out.1, HSP.out.2⟩
          · have HV : Hid (cntR most (some l) = (0, none)) := Lib.hid (cntR_no (by
              rw [HD.out, show 9 - k = 8 - k + 1 by omega, decC_zero hx (by omega)]; rfl))
            have z1 : decide ((r : Int) = 0) = true := decide_eq_true (by omega)
            have z4 : ((r : Int) == 0) = true := by simpa using z1
            have z2 : decide ((0 : Int) < (k : Int)) = true := decide_eq_true (by omega)
            have z3 : ((0 : Int) < (k : Int)) := by omega
            clear HD ht hn' hk9 hm hok
            go_wp2_with (first | (go_at_call 89; (with_reducible refine (qbyte_any HR.out.1).mono ?_); rw [HBY.out]; rintro e w2 ⟨xq, rfl, hxq, hr2, ht2, hxb⟩; replace hxq := (hxq _ rfl).symm; subst hxq; replace HR := Lib.hid (And.intro hr2 (HR.out.2.trans ht2)); have k1 := hr2.c2; have f2 := hr2.free 2; have HSP := Lib.hid (And.intro hr2.spoil.1 (HR.out.2.trans hr2.spoil.2)); simp only [Option.isNone] at k1; clear hr2 ht2 hxb))
            go_ret
            exact ⟨by rw [HV.out]; rfl, by rw [HV.out]; exact HSP.out.1, HSP.out.2⟩
        · skip
          have dx : decide (x < 128) = false := decide_eq_false hx
          obtain ⟨r, hrx⟩ : ∃ r : Nat, x = (r : Int) + 128 := ⟨(x - 128).toNat, by omega⟩
          subst hrx
          have hr128 : r < 128 := by omega
          have a1 : (((r : Int) + 128)).tmod 128 = ((r : Nat) : Int) := by rw [Int.tmod_eq_emod_of_nonneg (by omega)]; omega
          obtain ⟨t, ht⟩ : ∃ t, r * P = t := ⟨_, rfl⟩
          have htb : t ≤ 127 * 72057594037927936 := by rw [← ht]; exact Nat.mul_le_mul (by omega) HPB.out
          have e1 : ((r : Int) * (P : Int)) = (t : Int) := by rw [← ht]; simp
          have s1 : wrap64 ((r : Int) * (P : Int)) = (t : Int) := by
            rw [e1]
            exact IntWalk.wrap64_in (t : Int) ⟨by omega, by omega⟩
          obtain ⟨n', hn'⟩ : ∃ n', n + t = n' := ⟨_, rfl⟩
          have HNQ : Hid ((n : Int) + (t : Int) = (n' : Int)) := Lib.hid (by omega)
          have HN' : Hid (n + r * P = n') := Lib.hid (by rw [ht]; exact hn')

          have z1 : decide ((r : Int) + 128 = 0) = false := decide_eq_false (by omega)
          have z4 : ((r : Int) + 128 == 0) = false := by simpa using z1
          have HD2 : Hid (decC 9 l = (decC (9 - (k + 1)) lk).map (fun p => (n' + 2 ^ (7 * (k + 1)) * p.1, p.2))) := Lib.hid (by
            rw [HD.out, show 9 - k = 9 - (k + 1) + 1 by omega, decC_more hx, Option.map_map]
            congr 1
            funext p
            show (_, _) = (_, _)
            congr 1
            rw [HPE.out, show 7 * (k + 1) = 7 * k + 7 by omega, Nat.pow_add, HPE.out, ← HN'.out, show ((r : Int) + 128 - 128).toNat = r by omega, Nat.mul_add, Nat.mul_comm P r, Nat.mul_assoc, show (2 : Nat) ^ 7 = 128 by decide]
            omega)
          have HNN : Hid (n' < 2 ^ (7 * (k + 1))) := Lib.hid (by
            rw [show 7 * (k + 1) = 7 * k + 7 by omega, Nat.pow_add, HPE.out, ← HN'.out]
            have := HNP.out
            have h2 : r * P ≤ 127 * P := Nat.mul_le_mul (by omega) (Nat.le_refl _)
            omega)
          by_cases h8 : k < 8
          · have hp8 : P * 128 ≤ 72057594037927936 := by rw [← HPE.out, show (128 : Nat) = 2 ^ 7 by decide, ← Nat.pow_add]; exact (Nat.pow_le_pow_right (n := 2) (by decide) (show 7 * k + 7 ≤ 56 by omega))
            have HPN : Hid (((P : Int) * 128) = ((2 ^ (7 * (k + 1)) : Nat) : Int)) := Lib.hid (by
              rw [show 7 * (k + 1) = 7 * k + 7 by omega, Nat.pow_add, HPE.out]; simp)
            clear HD ht hn' hm
            go_wp2_with (first | (go_at_call 89; (with_reducible refine (qbyte_any HR.out.1).mono ?_); rw [HBY.out]; rintro e w2 ⟨xq, rfl, hxq, hr2, ht2, hxb⟩; replace hxq := (hxq _ rfl).symm; subst hxq; replace HR := Lib.hid (And.intro hr2 (HR.out.2.trans ht2)); have k1 := hr2.c2; have f2 := hr2.free 2; have HSP := Lib.hid (And.intro hr2.spoil.1 (HR.out.2.trans hr2.spoil.2)); simp only [Option.isNone] at k1; clear hr2 ht2 hxb))
            go_roundw
            case rel => exact ⟨k + 1, n', _, by (first | (rw [← HNQ.out]; done) | (rw [← HNQ.out]; rfl)), rfl, by go_num, HNN.out, by omega, .inl ⟨by omega, HPN.out, lk, HR.out, HD2.out⟩⟩
            case measure => simp [intOf]; omega
          · obtain rfl : k = 8 := by omega
            have hpp : P = 72057594037927936 := by rw [← HPE.out]
            subst hpp
            have HD3 : Hid (decC 9 l = none) := Lib.hid (by rw [HD2.out]; rfl)
            clear HD ht hn' hm
            go_wp2_with (first | (go_at_call 89; (with_reducible refine (qbyte_any HR.out.1).mono ?_); rw [HBY.out]; rintro e w2 ⟨xq, rfl, hxq, hr2, ht2, hxb⟩; replace hxq := (hxq _ rfl).symm; subst hxq; replace HR := Lib.hid (And.intro hr2 (HR.out.2.trans ht2)); have k1 := hr2.c2; have f2 := hr2.free 2; have HSP := Lib.hid (And.intro hr2.spoil.1 (HR.out.2.trans hr2.spoil.2)); simp only [Option.isNone] at k1; clear hr2 ht2 hxb))
            go_roundw
            case rel => exact ⟨9, n', _, (congrArg (Value.int IntKind.i64) (show (n : Int) + (r : Int) * 72057594037927936 = (n' : Int) from by have := HNQ.out; omega)), rfl, by go_num, HNN.out, by omega, .inr ⟨rfl, ⟨_, HR.out.1⟩, HR.out.2, HD3.out⟩⟩
            case measure => simp [intOf]
    · have HV : Hid (cntR most (some l) = (0, none)) := Lib.hid (cntR_no hd)
      have k1 := hr.c2
      have f2 := hr.free 2
      have HSP := Lib.hid (And.intro hr.spoil.1 (htr.trans hr.spoil.2))
      clear hr hd hP hn
      go_wp2_with (first | (go_at_call 89; (with_reducible refine (qbyte_any HR.out.1).mono ?_); rw [HBY.out]; rintro e w2 ⟨xq, rfl, hxq, hr2, ht2, hxb⟩; replace hxq := (hxq _ rfl).symm; subst hxq; replace HR := Lib.hid (And.intro hr2 (HR.out.2.trans ht2)); have k1 := hr2.c2; have f2 := hr2.free 2; have HSP := Lib.hid (And.intro hr2.spoil.1 (HR.out.2.trans hr2.spoil.2)); simp only [Option.isNone] at k1; clear hr2 ht2 hxb))
      go_ret
      exact ⟨by rw [HV.out]; rfl, by rw [HV.out]; exact HSP.out.1, HSP.out.2⟩
set_option maxRecDepth 100000 in
set_option maxHeartbeats 16000000 in
theorem qcount_none {w : World} {rb bb : Nat} (h : RT w rb bb none) (most : Nat) (hm : most ≤ 9223372036854775807) : Calls Try.prog 52 #[.pointer (some ⟨rb, 0, none⟩), .int .i64 most] w fun e w' => e = .returned (.int .i64 0) ∧ RT w' rb bb none ∧ Turns (rset rb) w w' := by
  have HR : Hid (RT w rb bb none ∧ Turns (rset rb) w w) := Lib.hid ⟨h, Turns.refl _ _⟩
  have HBY : Hid (byteR none = (0, none)) := Lib.hid rfl
  clear h
  go_enter Try.func52, Try.ntmps52
  go_wp2_with fail
  refine wp_loop_rounds 1 ?_
  rw [rounds_succ]
  go_wp2_with (first | (go_at_call 89; (with_reducible refine (qbyte_any HR.out.1).mono ?_); rw [HBY.out]; rintro e w2 ⟨xq, rfl, hxq, hr2, ht2, hxb⟩; clear hxq; replace HR := Lib.hid (And.intro hr2 (HR.out.2.trans ht2)); have k1 := hr2.c2; have f2 := hr2.free 2; have HSP := Lib.hid (And.intro hr2.spoil.1 (HR.out.2.trans hr2.spoil.2)); simp only [Option.isNone] at k1; clear hr2 ht2))
  go_ret
  exact ⟨rfl, HSP.out⟩
theorem qcount_any {w : World} {rb bb : Nat} {σ : RdS} (h : RT w rb bb σ) (most : Nat) (hm : most ≤ 9223372036854775807) : Calls Try.prog 52 #[.pointer (some ⟨rb, 0, none⟩), .int .i64 most] w fun e w' => e = .returned (.int .i64 ((cntR most σ).1 : Int)) ∧ RT w' rb bb (cntR most σ).2 ∧ Turns (rset rb) w w' := by
  cases σ with
  | none => exact qcount_none h most hm
  | some l => exact qcount_some h most hm
theorem qcount_lit {w : World} {rb bb : Nat} {σ : RdS} (h : RT w rb bb σ) (most : Nat) (x : Int) (hx : x = (most : Int)) (hm : most ≤ 9223372036854775807) : Calls Try.prog 52 #[.pointer (some ⟨rb, 0, none⟩), .int .i64 x] w fun e w' => e = .returned (.int .i64 ((cntR most σ).1 : Int)) ∧ RT w' rb bb (cntR most σ).2 ∧ Turns (rset rb) w w' := by
  subst hx; exact qcount_any h most hm
end Go.Proofs.Ytfinpgkehjbcpaa
/- Chapter 05: the reference reads a word. -/
namespace Go.Proofs.Ytfinpgkehjbcpaa
open Go.ChangeShapes Go.WideShapes Go.ChangeAt Go.RowKit Go.Deep Go.Joins Go.Maps
set_option linter.unusedVariables false
set_option linter.unusedSimpArgs false
set_option maxRecDepth 100000 in
set_option maxHeartbeats 16000000 in
theorem qword_any {w : World} {rb bb n pc : Nat} {σ : RdS} {PA : Option Addr} {ps : List Int} (h : RT w rb bb σ) (hp : Nums w PA ps) (hn : ps.length = n) (hn1 : n ≤ 100000000) (hne : ∀ b off, PA = some ⟨b, off, none⟩ → ¬ rset rb b) (hpi : ∀ x, x ∈ ps → InI x) : Calls Try.prog 54 #[.pointer (some ⟨rb, 0, none⟩), .slice PA n pc] w fun e w' => e = .returned (.int .i64 (realP ps ((wrdN n σ).1 : Int))) ∧ RT w' rb bb (wrdN n σ).2 ∧ Turns (rset rb) w w' := by
  have HR : Hid (RT w rb bb σ ∧ Turns (rset rb) w w) := Lib.hid ⟨h, Turns.refl _ _⟩
  have HN := Lib.hid hp
  have HNE := Lib.hid hne
  have HPI := Lib.hid hpi
  have HL := Lib.hid hn
  have hle := cntR_le 4611686018427387904 σ
  obtain ⟨c, s1, hcv⟩ : ∃ c s1, cntR 4611686018427387904 σ = (c, s1) := ⟨_, _, rfl⟩
  rw [hcv] at hle
  have HCV := Lib.hid hcv
  have hle' : c ≤ 4611686018427387904 := hle
  clear h hle hp hne hpi hn
  by_cases hlo : c < 3
  · rw [wrdN_low hcv hlo, realP_low hlo]
    have d1 : decide ((c : Int) < 3) = true := decide_eq_true (by omega)
    have d1' : ((c : Int) < 3) := by omega
    clear hcv
    go_enter Try.func54, Try.ntmps54
    go_wp2_with (first | (go_at_call 52; (with_reducible refine (qcount_lit HR.out.1 4611686018427387904 4611686018427387904 rfl (by omega)).mono ?_); rw [HCV.out]; rintro e w2 ⟨rfl, hr2, ht2⟩; have hnR2 := hr2.lt; have k2 := hr2.c2; have f2 := hr2.free 2; replace HN := Lib.hid (HN.out.turns ht2 (fun b off e q => HNE.out b off e q)); replace HR := Lib.hid (And.intro hr2 (HR.out.2.trans ht2)); clear hr2 ht2) | (go_at_call 90; (with_reducible refine (runfold_any q (by omega) _).mono ?_); rw [HUV.out]; rintro e w3 ⟨rfl, hw3⟩; replace hw3 := hw3.symm; subst hw3) | (go_at_call 91; (with_reducible refine (rsmall_any uv _).mono ?_); rw [HSV.out]; rintro e w3 ⟨rfl, hw3⟩; replace hw3 := hw3.symm; subst hw3))
    go_ret
    refine ⟨?_, HR.out⟩
    show _ = Ending.returned (.int .i64 (2 * (c : Int)))
    first | rfl | (congr 2; omega)
  · have d1 : decide ((c : Int) < 3) = false := decide_eq_false (by omega)
    have d1' : ¬ ((c : Int) < 3) := by omega
    have a2 : ((c : Int)).tmod 2 = ((c % 2 : Nat) : Int) := rfl
    by_cases hodd : c % 2 = 1
    · rw [wrdN_odd hcv (by omega) hodd, realP_odd (by omega) hodd]
      obtain ⟨q, hq⟩ : ∃ q, (c - 3) / 2 = q := ⟨_, rfl⟩
      obtain ⟨uv, huv⟩ : ∃ uv, unfV q = uv := ⟨_, rfl⟩
      obtain ⟨sv, sb, hsv⟩ : ∃ sv sb, smallV uv = (sv, sb) := ⟨_, _, rfl⟩
      rw [hq, huv, hsv]
      have HUV := Lib.hid huv
      have HSV := Lib.hid hsv
      rw [hodd] at a2
      have d2 : decide (((c : Int)).tmod 2 = 1) = true := by rw [a2]; rfl
      have b3 : ((c : Int) - 3).tdiv 2 = (q : Int) := by rw [Int.tdiv_eq_ediv_of_nonneg (by omega)]; omega
      have b4 : ((c : Int) - 3) / 2 = (q : Int) := by omega
      have hqb : q ≤ 4611686018427387904 := by omega
      clear hcv hq huv hsv
      cases s1 with
      | none =>
        rw [mustR_none]
        cases sb with
        | false =>
          go_enter Try.func54, Try.ntmps54
          go_wp2_with (first | (go_at_call 52; (with_reducible refine (qcount_lit HR.out.1 4611686018427387904 4611686018427387904 rfl (by omega)).mono ?_); rw [HCV.out]; rintro e w2 ⟨rfl, hr2, ht2⟩; have hnR2 := hr2.lt; have k2 := hr2.c2; have f2 := hr2.free 2; replace HN := Lib.hid (HN.out.turns ht2 (fun b off e q => HNE.out b off e q)); replace HR := Lib.hid (And.intro hr2 (HR.out.2.trans ht2)); clear hr2 ht2) | (go_at_call 90; (with_reducible refine (runfold_any q (by omega) _).mono ?_); rw [HUV.out]; rintro e w3 ⟨rfl, hw3⟩; replace hw3 := hw3.symm; subst hw3) | (go_at_call 91; (with_reducible refine (rsmall_any uv _).mono ?_); rw [HSV.out]; rintro e w3 ⟨rfl, hw3⟩; replace hw3 := hw3.symm; subst hw3))
          go_ret
          exact ⟨rfl, HR.out.1.same.1, HR.out.2.trans HR.out.1.same.2⟩
        | true =>
          go_enter Try.func54, Try.ntmps54
          go_wp2_with (first | (go_at_call 52; (with_reducible refine (qcount_lit HR.out.1 4611686018427387904 4611686018427387904 rfl (by omega)).mono ?_); rw [HCV.out]; rintro e w2 ⟨rfl, hr2, ht2⟩; have hnR2 := hr2.lt; have k2 := hr2.c2; have f2 := hr2.free 2; replace HN := Lib.hid (HN.out.turns ht2 (fun b off e q => HNE.out b off e q)); replace HR := Lib.hid (And.intro hr2 (HR.out.2.trans ht2)); clear hr2 ht2) | (go_at_call 90; (with_reducible refine (runfold_any q (by omega) _).mono ?_); rw [HUV.out]; rintro e w3 ⟨rfl, hw3⟩; replace hw3 := hw3.symm; subst hw3) | (go_at_call 91; (with_reducible refine (rsmall_any uv _).mono ?_); rw [HSV.out]; rintro e w3 ⟨rfl, hw3⟩; replace hw3 := hw3.symm; subst hw3))
          go_ret
          exact ⟨rfl, HR.out.1.same.1, HR.out.2.trans HR.out.1.same.2⟩
      | some l1 =>
        cases sb with
        | false =>
          go_enter Try.func54, Try.ntmps54
          go_wp2_with (first | (go_at_call 52; (with_reducible refine (qcount_lit HR.out.1 4611686018427387904 4611686018427387904 rfl (by omega)).mono ?_); rw [HCV.out]; rintro e w2 ⟨rfl, hr2, ht2⟩; have hnR2 := hr2.lt; have k2 := hr2.c2; have f2 := hr2.free 2; replace HN := Lib.hid (HN.out.turns ht2 (fun b off e q => HNE.out b off e q)); replace HR := Lib.hid (And.intro hr2 (HR.out.2.trans ht2)); clear hr2 ht2) | (go_at_call 90; (with_reducible refine (runfold_any q (by omega) _).mono ?_); rw [HUV.out]; rintro e w3 ⟨rfl, hw3⟩; replace hw3 := hw3.symm; subst hw3) | (go_at_call 91; (with_reducible refine (rsmall_any uv _).mono ?_); rw [HSV.out]; rintro e w3 ⟨rfl, hw3⟩; replace hw3 := hw3.symm; subst hw3))
          go_ret
          exact ⟨rfl, HR.out.1.spoil.1, HR.out.2.trans HR.out.1.spoil.2⟩
        | true =>
          go_enter Try.func54, Try.ntmps54
          go_wp2_with (first | (go_at_call 52; (with_reducible refine (qcount_lit HR.out.1 4611686018427387904 4611686018427387904 rfl (by omega)).mono ?_); rw [HCV.out]; rintro e w2 ⟨rfl, hr2, ht2⟩; have hnR2 := hr2.lt; have k2 := hr2.c2; have f2 := hr2.free 2; replace HN := Lib.hid (HN.out.turns ht2 (fun b off e q => HNE.out b off e q)); replace HR := Lib.hid (And.intro hr2 (HR.out.2.trans ht2)); clear hr2 ht2) | (go_at_call 90; (with_reducible refine (runfold_any q (by omega) _).mono ?_); rw [HUV.out]; rintro e w3 ⟨rfl, hw3⟩; replace hw3 := hw3.symm; subst hw3) | (go_at_call 91; (with_reducible refine (rsmall_any uv _).mono ?_); rw [HSV.out]; rintro e w3 ⟨rfl, hw3⟩; replace hw3 := hw3.symm; subst hw3))
          go_ret
          exact ⟨rfl, HR.out.1.same.1, HR.out.2.trans HR.out.1.same.2⟩
    · have hev : c % 2 = 0 := by omega
      obtain ⟨k, hk⟩ : ∃ k, c = 2 * k + 4 := ⟨(c - 4) / 2, by omega⟩
      rw [wrdN_even hcv hk]
      rw [hev] at a2
      have d2 : decide (((c : Int)).tmod 2 = 1) = false := by rw [a2]; rfl
      have b3 : ((c : Int) - 4).tdiv 2 = (k : Int) := by rw [Int.tdiv_eq_ediv_of_nonneg (by omega)]; omega
      have b4 : ((c : Int) - 4) / 2 = (k : Int) := by omega
      have HRE : Hid (realP ps (c : Int) = ps.getD k 0) := Lib.hid (by rw [hk]; exact realP_even)
      rw [HRE.out]
      clear hcv hk HRE
      by_cases hkn : k < n
      · have d3 : decide ((n : Int) ≤ (k : Int)) = false := decide_eq_false (by omega)
        have d3' : ¬ ((n : Int) ≤ (k : Int)) := by omega
        have hkl : k < ps.length := by rw [HL.out]; exact hkn
        obtain ⟨x, hx⟩ : ∃ x, ps[k] = x := ⟨_, rfl⟩
        have hxi := HPI.out x (by rw [← hx]; exact List.getElem_mem _)
        have HX : Hid (ps.getD k 0 = x) := Lib.hid (by rw [List.getD_eq_getElem?_getD, List.getElem?_eq_getElem hkl, ← hx]; rfl)
        have HX2 : Hid (∀ hh : k < ps.length, ps[k]'hh = x) := Lib.hid (fun _ => hx)
        obtain ⟨pb, poff, hpa, -, -⟩ := HN.out k hkl
        subst hpa
        rw [HX.out, decide_eq_true hkn]
        clear hx hkl HX
        go_enter Try.func54, Try.ntmps54
        go_upto_region 9 with (first | (go_at_call 52; (with_reducible refine (qcount_lit HR.out.1 4611686018427387904 4611686018427387904 rfl (by omega)).mono ?_); rw [HCV.out]; rintro e w2 ⟨rfl, hr2, ht2⟩; have hnR2 := hr2.lt; have k2 := hr2.c2; have f2 := hr2.free 2; replace HN := Lib.hid (HN.out.turns ht2 (fun b off e q => HNE.out b off e q)); replace HR := Lib.hid (And.intro hr2 (HR.out.2.trans ht2)); clear hr2 ht2) | (go_at_call 90; (with_reducible refine (runfold_any q (by omega) _).mono ?_); rw [HUV.out]; rintro e w3 ⟨rfl, hw3⟩; replace hw3 := hw3.symm; subst hw3) | (go_at_call 91; (with_reducible refine (rsmall_any uv _).mono ?_); rw [HSV.out]; rintro e w3 ⟨rfl, hw3⟩; replace hw3 := hw3.symm; subst hw3))
        have HC2 : Hid (w2.cell? ⟨pb, poff + k, none⟩ = some (.int .i64 x)) := Lib.hid (by
          obtain ⟨b, off, e, hlt, hc⟩ := HN.out k (by rw [HL.out]; exact hkn)
          cases e
          rw [HX2.out] at hc
          exact hc)
        have hc2 := HC2.out
        clear HC2
        go_wp2_with (first | (go_at_call 52; (with_reducible refine (qcount_lit HR.out.1 4611686018427387904 4611686018427387904 rfl (by omega)).mono ?_); rw [HCV.out]; rintro e w2 ⟨rfl, hr2, ht2⟩; have hnR2 := hr2.lt; have k2 := hr2.c2; have f2 := hr2.free 2; replace HN := Lib.hid (HN.out.turns ht2 (fun b off e q => HNE.out b off e q)); replace HR := Lib.hid (And.intro hr2 (HR.out.2.trans ht2)); clear hr2 ht2) | (go_at_call 90; (with_reducible refine (runfold_any q (by omega) _).mono ?_); rw [HUV.out]; rintro e w3 ⟨rfl, hw3⟩; replace hw3 := hw3.symm; subst hw3) | (go_at_call 91; (with_reducible refine (rsmall_any uv _).mono ?_); rw [HSV.out]; rintro e w3 ⟨rfl, hw3⟩; replace hw3 := hw3.symm; subst hw3))
        go_ret
        exact ⟨rfl, HR.out⟩
      · have d3 : decide ((n : Int) ≤ (k : Int)) = true := decide_eq_true (by omega)
        have d3' : ((n : Int) ≤ (k : Int)) := by omega
        rw [show ps.getD k 0 = 0 from by rw [List.getD_eq_getElem?_getD, List.getElem?_eq_none (by rw [HL.out]; omega)]; rfl, decide_eq_false hkn]
        go_enter Try.func54, Try.ntmps54
        go_wp2_with (first | (go_at_call 52; (with_reducible refine (qcount_lit HR.out.1 4611686018427387904 4611686018427387904 rfl (by omega)).mono ?_); rw [HCV.out]; rintro e w2 ⟨rfl, hr2, ht2⟩; have hnR2 := hr2.lt; have k2 := hr2.c2; have f2 := hr2.free 2; replace HN := Lib.hid (HN.out.turns ht2 (fun b off e q => HNE.out b off e q)); replace HR := Lib.hid (And.intro hr2 (HR.out.2.trans ht2)); clear hr2 ht2) | (go_at_call 90; (with_reducible refine (runfold_any q (by omega) _).mono ?_); rw [HUV.out]; rintro e w3 ⟨rfl, hw3⟩; replace hw3 := hw3.symm; subst hw3) | (go_at_call 91; (with_reducible refine (rsmall_any uv _).mono ?_); rw [HSV.out]; rintro e w3 ⟨rfl, hw3⟩; replace hw3 := hw3.symm; subst hw3))
        go_ret
        exact ⟨rfl, HR.out.1.spoil.1, HR.out.2.trans HR.out.1.spoil.2⟩
end Go.Proofs.Ytfinpgkehjbcpaa
