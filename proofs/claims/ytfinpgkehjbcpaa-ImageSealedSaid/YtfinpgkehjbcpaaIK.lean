/- Chapter 05: what reads: its state, byte, must. -/
import Derived.Test.YtfinpgkehjbcpaaIPlain3
import Derived.Test.YtfinpgkehjbcpaaIA
namespace Go.Proofs.Ytfinpgkehjbcpaa
open Go.ChangeShapes Go.WideShapes Go.ChangeAt Go.RowKit Go.Deep Go.Joins Go.Maps
set_option linter.unusedVariables false
set_option linter.unusedSimpArgs false
/-- what reads: its bytes; was something wrong? -/
def RS (w : World) (rb bb : Nat) (σ : RdS) : Prop := ∃ (A : Option Addr) (c : Nat) (l : List Int), w.heap[rb]? = some (.cells #[.slice A l.length c, .bool σ.isNone] 79 (0, 0)) ∧ l.length ≤ c ∧ c ≤ maxLen ∧ Bytes w A l ∧ IsB l ∧ ((∀ b off, A = some ⟨b, off, none⟩ → b = bb) ∧ bb ≠ rb) ∧ (∀ l', σ = some l' → l' = l)
def rset (rb : Nat) (k : Nat) : Prop := k = rb
section
variable {w w' : World} {rb bb : Nat} {σ : RdS}
theorem RS.turns (h : RS w rb bb σ) {T : Nat → Prop} (ht : Turns T w w') (hd : ¬ T rb) (hb : ¬ T bb) : RS w' rb bb σ := by
  obtain ⟨A, c, l, h1, h2, h3, h4, h5, h6, h7⟩ := h
  refine ⟨A, c, l, (ht.block rb ?_ hd).trans h1, h2, h3, h4.turns ht (fun b off e => by rw [h6.1 b off e]; exact hb), h5, h6, h7⟩
  rcases Nat.lt_or_ge rb w.heap.size with q | q
  · exact q
  · rw [Array.getElem?_eq_none q] at h1; cases h1
theorem RS.lt (h : RS w rb bb σ) : rb < w.heap.size := by
  obtain ⟨A, c, l, h1, _⟩ := h
  rcases Nat.lt_or_ge rb w.heap.size with q | q
  · exact q
  · rw [Array.getElem?_eq_none q] at h1; cases h1
theorem RS.below (h : RS w rb bb σ) (hb : Below w.heap.size w w') : RS w' rb bb σ := by
  have hl := h.lt
  obtain ⟨A, c, l, h1, h2, h3, h4, h5, h6, h7⟩ := h
  exact ⟨A, c, l, (hb.block rb hl).trans h1, h2, h3, h4.below hb, h5, h6, h7⟩
theorem RS.free (h : RS w rb bb σ) (k : Nat) : w.frozen? ⟨rb, k, none⟩ = false := by
  obtain ⟨A, c, l, h1, _⟩ := h
  simp [World.frozen?, h1]
theorem RS.c1 (h : RS w rb bb σ) : w.cell? ⟨rb, 1, none⟩ = some (.bool σ.isNone) := by
  obtain ⟨A, c, l, h1, _⟩ := h
  simp [World.cell?, h1]
/-- something is wrong -/
theorem RS.spoil (h : RS w rb bb σ) : RS (w.setCell ⟨rb, 1, none⟩ (.bool true)) rb bb none ∧ Turns (rset rb) w (w.setCell ⟨rb, 1, none⟩ (.bool true)) := by
  have ht : Turns (rset rb) w (w.setCell ⟨rb, 1, none⟩ (.bool true)) := (Turns.refl _ _).setCell _ _ rfl
  obtain ⟨A, c, l, h1, h2, h3, h4, h5, h6, h7⟩ := h
  exact ⟨⟨A, c, l, by rw [heap_setCell_same w rb 1 _ _ _ h1]; rfl, h2, h3, h4.turns ht (fun b off e q => h6.2 ((h6.1 b off e).symm.trans q)), h5, h6, fun l' e => by cases e⟩, ht⟩
theorem RS.same (h : RS w rb bb σ) : RS (w.setCell ⟨rb, 1, none⟩ (.bool σ.isNone)) rb bb σ ∧ Turns (rset rb) w (w.setCell ⟨rb, 1, none⟩ (.bool σ.isNone)) := by
  have ht : Turns (rset rb) w (w.setCell ⟨rb, 1, none⟩ (.bool σ.isNone)) := (Turns.refl _ _).setCell _ _ rfl
  obtain ⟨A, c, l, h1, h2, h3, h4, h5, h6, h7⟩ := h
  exact ⟨⟨A, c, l, by rw [heap_setCell_same w rb 1 _ _ _ h1]; rfl, h2, h3, h4.turns ht (fun b off e q => h6.2 ((h6.1 b off e).symm.trans q)), h5, h6, h7⟩, ht⟩
end
set_option maxRecDepth 100000 in
set_option maxHeartbeats 16000000 in
theorem must_any {w : World} {rb bb : Nat} {σ : RdS} (h : RS w rb bb σ) (b : Bool) : Calls Try.prog 47 #[.pointer (some ⟨rb, 0, none⟩), .bool b] w fun e w' => e = .returned (.tuple #[]) ∧ RS w' rb bb (mustR b σ) ∧ Turns (rset rb) w w' := by
  have c1 := h.c1
  have f1 := h.free 1
  have HS := Lib.hid h.same
  have HP := Lib.hid h.spoil
  clear h
  cases σ with
  | none =>
    have HE : Hid (mustR b none = none) := Lib.hid (by unfold mustR; split <;> rfl)
    rw [HE.out]
    clear HE
    cases b
    · go_enter Try.func47, Try.ntmps47
      go_wp2_with fail
      go_returns
      exact ⟨rfl, HP.out⟩
    · go_enter Try.func47, Try.ntmps47
      go_wp2_with fail
      go_returns
      exact ⟨rfl, HP.out⟩
  | some l =>
    cases b
    · have HE : Hid (mustR false (some l) = none) := Lib.hid rfl
      rw [HE.out]
      clear HE
      go_enter Try.func47, Try.ntmps47
      go_wp2_with fail
      go_returns
      exact ⟨rfl, HP.out⟩
    · have HE : Hid (mustR true (some l) = some l) := Lib.hid rfl
      rw [HE.out]
      clear HE
      go_enter Try.func47, Try.ntmps47
      go_wp2_with fail
      go_returns
      exact ⟨rfl, HS.out⟩
set_option maxRecDepth 100000 in
set_option maxHeartbeats 16000000 in
theorem byte_any {w : World} {rb bb : Nat} {σ : RdS} (h : RS w rb bb σ) : Calls Try.prog 81 #[.pointer (some ⟨rb, 0, none⟩)] w fun e w' => e = .returned (.int .i64 (byteR σ).1) ∧ RS w' rb bb (byteR σ).2 ∧ Turns (rset rb) w w' ∧ (0 ≤ (byteR σ).1 ∧ (byteR σ).1 ≤ 255) := by
  have f1 := h.free 1
  have f0 := h.free 0
  have HP := Lib.hid h.spoil
  obtain ⟨A, c, l, h1, h2, h3, h4, h5, h6, h7⟩ := h
  have c1 : w.cell? ⟨rb, 1, none⟩ = some (.bool σ.isNone) := by simp [World.cell?, h1]
  have c0 : w.cell? ⟨rb, 0, none⟩ = some (.slice A l.length c) := by simp [World.cell?, h1]
  cases l with
  | nil =>
    have HE : Hid (byteR σ = (0, none)) := Lib.hid (by
      cases σ with
      | none => rfl
      | some l' => rw [h7 l' rfl]; rfl)
    rw [HE.out]
    obtain ⟨sb, hsb⟩ : ∃ sb, σ.isNone = sb := ⟨_, rfl⟩
    rw [hsb] at c1
    clear h1 h4 h5 h6 h7 HE hsb
    go_enter Try.func81, Try.ntmps81
    go_wp2_with fail
    go_ret
    exact ⟨rfl, HP.out.1, HP.out.2, by omega⟩
  | cons x l =>
    cases σ with
    | none =>
      have HE : Hid (byteR none = (0, none)) := Lib.hid rfl
      rw [HE.out]
      obtain ⟨n, hn⟩ : ∃ n, l.length = n := ⟨_, rfl⟩
      rw [show (x :: l).length = n + 1 by simp [hn]] at c0
      simp only [Option.isNone] at c1
      clear h1 h2 h4 h5 h6 h7 HE hn
      go_enter Try.func81, Try.ntmps81
      go_wp2_with fail
      go_ret
      exact ⟨rfl, HP.out.1, HP.out.2, by omega⟩
    | some l' =>
      obtain rfl := h7 l' rfl
      have HE : Hid (byteR (some (x :: l)) = (x, some l)) := Lib.hid rfl
      rw [HE.out]
      have hx := h5 x (by simp)
      obtain ⟨b, off, rfl, hlt, hc⟩ := h4 0 (by simp)
      have hc0 : w.cell? ⟨b, off, none⟩ = some (.int .u8 x) := hc
      have e3 : IntKind.i64.wrap x = x := IntWalk.i64_in _ ⟨by omega, by omega⟩
      obtain ⟨n, hn⟩ : ∃ n, l.length = n := ⟨_, rfl⟩
      have hn2 : (x :: l).length = n + 1 := by simp [hn]
      rw [hn2] at c0 h2
      simp only [Option.isNone] at c1
      have HEAT : Hid (∀ A' c', l.length ≤ c' → c' ≤ maxLen → (∀ k (hk : k < l.length), A' = some ⟨b, off + 1, none⟩) → (∀ b' off', A' = some ⟨b', off', none⟩ → b' = b) → RS (w.setCell ⟨rb, 0, none⟩ (.slice A' l.length c')) rb bb (some l) ∧ Turns (rset rb) w (w.setCell ⟨rb, 0, none⟩ (.slice A' l.length c'))) := Lib.hid (fun A' c' q1 q2 q3 q4 => by
        have ht : Turns (rset rb) w (w.setCell ⟨rb, 0, none⟩ (.slice A' l.length c')) := (Turns.refl _ _).setCell _ _ rfl
        have hb : Bytes w A' l := fun k hk => by
          obtain ⟨b1, o1, e1, hl1, hc1⟩ := h4 (k + 1) (by simp; omega)
          cases e1
          exact ⟨b, off + 1, q3 k hk, hl1, by rw [show off + 1 + k = off + (k + 1) by omega]; simpa using hc1⟩
        refine ⟨⟨A', c', l, by rw [heap_setCell_same w rb 0 _ _ _ h1]; rfl, q1, q2, hb.turns ht (fun b' off' e q => ?_), fun y hy => h5 y (by simp [hy]), ?_, fun l' e => by cases e; rfl⟩, ht⟩
        · rw [q4 b' off' e, h6.1 b off rfl] at q; exact h6.2 q
        · exact ⟨fun b' off' e => by rw [q4 b' off' e]; exact h6.1 b off rfl, h6.2⟩)
      rw [hn] at HEAT
      clear h1 h4 h5 h6 h7 HE hn2 hc
      by_cases hc1 : c = 1
      · subst hc1
        obtain rfl : n = 0 := by omega
        go_enter Try.func81, Try.ntmps81
        go_wp2_with fail
        go_ret
        refine ⟨rfl, ?_⟩
        have hz := HEAT.out (some ⟨b, off, none⟩) 0 (by omega) (by omega) (fun k hk => absurd hk (by omega)) (fun _ _ e => by cases e; rfl)
        exact ⟨hz.1, hz.2, hx⟩
      · go_enter Try.func81, Try.ntmps81
        go_wp2_with fail
        go_ret
        have hz := HEAT.out (some ⟨b, off + 1, none⟩) (c - 1) (by omega) (by omega) (fun _ _ => rfl) (fun _ _ e => by cases e; rfl)
        exact ⟨rfl, hz.1, hz.2, hx⟩
end Go.Proofs.Ytfinpgkehjbcpaa
/- Chapter 05: a count is read. -/
namespace Go.Proofs.Ytfinpgkehjbcpaa
open Go.ChangeShapes Go.WideShapes Go.ChangeAt Go.RowKit Go.Deep Go.Joins Go.Maps
set_option linter.unusedVariables false
set_option linter.unusedSimpArgs false
theorem mustR_none (b : Bool) : mustR b none = none := by unfold mustR; split <;> rfl
theorem mustR_true (σ : RdS) : mustR true σ = σ := rfl
theorem mustR_false (σ : RdS) : mustR false σ = none := rfl
theorem RS.isB {w : World} {rb bb : Nat} {l : List Int} (h : RS w rb bb (some l)) : IsB l := by
  obtain ⟨A, c, l', h1, h2, h3, h4, h5, h6, h7⟩ := h
  rw [h7 l rfl]; exact h5
theorem cntR_some {m : Nat} {l l' : List Int} {n : Nat} (h : decC 9 l = some (n, l')) (hn : n ≤ m) : cntR m (some l) = (n, some l') := by
  show (match decC 9 l with | some (n, l') => if n ≤ m then (n, some l') else (0, none) | none => (0, none)) = _
  rw [h]; exact if_pos hn
theorem cntR_over {m : Nat} {l l' : List Int} {n : Nat} (h : decC 9 l = some (n, l')) (hn : ¬ n ≤ m) : cntR m (some l) = (0, none) := by
  show (match decC 9 l with | some (n, l') => if n ≤ m then (n, some l') else (0, none) | none => (0, none)) = _
  rw [h]; exact if_neg hn
theorem cntR_no {m : Nat} {l : List Int} (h : decC 9 l = none) : cntR m (some l) = (0, none) := by
  show (match decC 9 l with | some (n, l') => if n ≤ m then (n, some l') else (0, none) | none => (0, none)) = _
  rw [h]
theorem decC_nil (k : Nat) : decC k [] = none := by cases k <;> rfl
theorem decC_last {k : Nat} {x : Int} {l : List Int} (hx : x < 128) (h : 0 < x ∨ k = 8) : decC (k + 1) (x :: l) = some (x.toNat, l) := by
  unfold decC; rw [if_pos hx, if_pos h]
theorem decC_zero {k : Nat} {x : Int} {l : List Int} (hx : x < 128) (h : ¬ (0 < x ∨ k = 8)) : decC (k + 1) (x :: l) = none := by
  unfold decC; rw [if_pos hx, if_neg h]
theorem decC_more {k : Nat} {x : Int} {l : List Int} (hx : ¬ x < 128) : decC (k + 1) (x :: l) = (decC k l).map (fun p => ((x - 128).toNat + 128 * p.1, p.2)) := by
  conv => lhs; unfold decC
  rw [if_neg hx]
theorem or_seven {n x P : Nat} {i : Nat} (hP : 2 ^ (7 * i) = P) (hn : n < P) (hx : x < 128) (hi : i ≤ 8) : bits .or .i64 (n : Int) ((x * P : Nat) : Int) = ((n + x * P : Nat) : Int) := by
  have hp : P ≤ 72057594037927936 := by rw [← hP]; exact (Nat.pow_le_pow_right (n := 2) (by decide) (show 7 * i ≤ 56 by omega))
  have hb : x * P ≤ 127 * 72057594037927936 := Nat.mul_le_mul (by omega) hp
  have h1 : n ||| x * P = n + x * P := by
    have := Nat.two_pow_add_eq_or_of_lt (show n < 2 ^ (7 * i) by rw [hP]; exact hn) x
    rw [hP, Nat.mul_comm P x] at this
    rw [Nat.or_comm, ← this, Nat.add_comm]
  rw [or_nat]
  have e1 : ((n : Int) % 18446744073709551616).toNat = n := by omega
  have e2 : (((x * P : Nat) : Int) % 18446744073709551616).toNat = x * P := by omega
  rw [e1, e2, h1]
  exact IntWalk.i64_in _ ⟨by omega, by omega⟩
set_option maxRecDepth 100000 in
set_option maxHeartbeats 16000000 in
theorem count_some {w : World} {rb bb : Nat} {l : List Int} (h : RS w rb bb (some l)) (most : Nat) (hm : most ≤ 9223372036854775807) : Calls Try.prog 46 #[.pointer (some ⟨rb, 0, none⟩), .int .i64 most] w fun e w' => e = .returned (.int .i64 ((cntR most (some l)).1 : Int)) ∧ RS w' rb bb (cntR most (some l)).2 ∧ Turns (rset rb) w w' := by
  have HH := Lib.hid h
  clear h
  go_enter Try.func46, Try.ntmps46
  go_wp2_with fail
  go_loopw [5, 6] (fun u i wr => ∃ (k n : Nat), u = .int .i64 n ∧ i = .int .i64 k ∧ n < 2 ^ (7 * k) ∧ k ≤ 9 ∧ ((k ≤ 8 ∧ ∃ lk, (RS wr rb bb (some lk) ∧ Turns (rset rb) w wr) ∧ decC 9 l = (decC (9 - k) lk).map (fun p => (n + 2 ^ (7 * k) * p.1, p.2))) ∨ (k = 9 ∧ (RS wr rb bb none ∧ Turns (rset rb) w wr) ∧ decC 9 l = none))) (fun _ i _ => 9 - (intOf i).toNat)
  case atStart => exact ⟨0, 0, rfl, rfl, by decide, by omega, .inl ⟨by omega, l, ⟨HH.out, Turns.refl _ _⟩, by simp⟩⟩
  case round =>
    obtain ⟨k, n, rfl, rfl, hn, hk9, hcase⟩ := hrel
    obtain ⟨P, hP⟩ : ∃ P, 2 ^ (7 * k) = P := ⟨_, rfl⟩
    have HPE := Lib.hid hP
    rcases hcase with ⟨hk8, lk, hr, hd⟩ | ⟨rfl, hr, hd⟩
    · have HPB : Hid (P ≤ 72057594037927936) := Lib.hid (by rw [← hP]; exact (Nat.pow_le_pow_right (n := 2) (by decide) (show 7 * k ≤ 56 by omega)))
      rw [hP] at hn
      have hn63 : n < 72057594037927936 := by have := HPB.out; omega
      have HR := Lib.hid hr
      have HD := Lib.hid hd
      have HNP := Lib.hid hn
      have d9 : decide ((k : Int) < 9) = true := decide_eq_true (by omega)
      have hib := hr.1.isB
      clear hr hd hn hP
      cases lk with
      | nil =>
        have HBY : Hid (byteR (some []) = (0, none)) := Lib.hid rfl
        have HV : Hid (cntR most (some l) = (0, none)) := Lib.hid (cntR_no (by rw [HD.out, decC_nil]; rfl))
        obtain ⟨r, hr0⟩ : ∃ r : Nat, r = 0 := ⟨0, rfl⟩
        have a1 : bits .and .i64 0 127 = ((r : Nat) : Int) := by rw [and_127 (by omega) (by omega)]; omega
        obtain ⟨t, ht⟩ : ∃ t, r * P = t := ⟨_, rfl⟩
        have htb : t ≤ 127 * 72057594037927936 := by rw [← ht]; exact Nat.mul_le_mul (by omega) HPB.out
        have s1 : wrap64 ((r : Int) * 2 ^ (7 * k)) = (t : Int) := by
          have e : ((r : Int) * 2 ^ (7 * k)) = (t : Int) := by rw [← ht, ← HPE.out]; simp
          rw [e]
          exact IntWalk.wrap64_in (t : Int) ⟨by omega, by omega⟩
        obtain ⟨n', hn'⟩ : ∃ n', n + t = n' := ⟨_, rfl⟩
        have o1 : bits .or .i64 (n : Int) (t : Int) = (n' : Int) := by
          have := or_seven (x := r) HPE.out HNP.out (by omega) hk8
          rw [ht] at this
          rw [this, hn']
        have g1 : decide (0 ≤ (n' : Int)) = true := decide_eq_true (by omega)
        have g2 : (0 : Int) ≤ (n' : Int) := by omega
        have HN' : Hid (n + r * P = n') := Lib.hid (by rw [ht]; exact hn')
        clear HD ht hn' hib hr0
        go_wp2_with (first | (go_at_call 81; (with_reducible refine (byte_any HR.out.1).mono ?_); rw [HBY.out]; rintro e w2 ⟨rfl, hr2, ht2, _⟩; replace HR := Lib.hid (And.intro hr2 (HR.out.2.trans ht2)); have k1 := hr2.c1; simp only [Option.isNone] at k1; clear hr2 ht2) | (go_at_call 47; (with_reducible refine (must_any HR.out.1 _).mono ?_); (try simp only [mustR_none, mustR_true, mustR_false]); rintro e w3 ⟨rfl, hr3, ht3⟩; replace HR := Lib.hid (And.intro hr3 (HR.out.2.trans ht3)); have k1 := hr3.c1; (try simp only [Option.isNone] at k1); clear hr3 ht3))
        go_ret
        exact ⟨by rw [HV.out]; rfl, by rw [HV.out]; exact HR.out.1, HR.out.2⟩
      | cons x lk =>
        have HBY : Hid (byteR (some (x :: lk)) = (x, some lk)) := Lib.hid rfl
        have hxb := hib x (by simp)
        have hx0 := hxb.1
        have hx1 := hxb.2
        clear hib hxb
        by_cases hx : x < 128
        · skip
          have dx : decide (x < 128) = true := decide_eq_true hx
          obtain ⟨r, hrx⟩ : ∃ r : Nat, x = (r : Int) := ⟨x.toNat, by omega⟩
          subst hrx
          have hr128 : r < 128 := by omega
          have a1 : bits .and .i64 (r : Int) 127 = ((r : Nat) : Int) := by rw [and_127 (by omega) (by omega)]; omega
          obtain ⟨t, ht⟩ : ∃ t, r * P = t := ⟨_, rfl⟩
          have htb : t ≤ 127 * 72057594037927936 := by rw [← ht]; exact Nat.mul_le_mul (by omega) HPB.out
          have s1 : wrap64 ((r : Int) * 2 ^ (7 * k)) = (t : Int) := by
            have e : ((r : Int) * 2 ^ (7 * k)) = (t : Int) := by rw [← ht, ← HPE.out]; simp
            rw [e]
            exact IntWalk.wrap64_in (t : Int) ⟨by omega, by omega⟩
          obtain ⟨n', hn'⟩ : ∃ n', n + t = n' := ⟨_, rfl⟩
          have o1 : bits .or .i64 (n : Int) (t : Int) = (n' : Int) := by
            have := or_seven (x := r) HPE.out HNP.out (by omega) hk8
            rw [ht] at this
            rw [this, hn']
          have g1 : decide (0 ≤ (n' : Int)) = true := decide_eq_true (by omega)
          have g2 : (0 : Int) ≤ (n' : Int) := by omega
          have HN' : Hid (n + r * P = n') := Lib.hid (by rw [ht]; exact hn')

          by_cases hok : 0 < r ∨ k = 0
          · have HD2 : Hid (decC 9 l = some (n', lk)) := Lib.hid (by
              rw [HD.out, show 9 - k = 8 - k + 1 by omega, decC_last hx (by omega)]
              show some (_, _) = _
              rw [← HN'.out, Int.toNat_natCast, HPE.out, Nat.mul_comm])
            by_cases hms : n' ≤ most
            · have d1 : decide ((n' : Int) ≤ (most : Int)) = true := decide_eq_true (by omega)
              have d1' : ((n' : Int) ≤ (most : Int)) := by omega
              have HV : Hid (cntR most (some l) = (n', some lk)) := Lib.hid (cntR_some HD2.out hms)
              clear HD ht hn' hk9 hm
              by_cases h0 : 0 < r
              · have d2 : decide (0 < (r : Int)) = true := decide_eq_true (by omega)
                have d2' : (0 : Int) < (r : Int) := by omega
                go_wp2_with (first | (go_at_call 81; (with_reducible refine (byte_any HR.out.1).mono ?_); rw [HBY.out]; rintro e w2 ⟨rfl, hr2, ht2, _⟩; replace HR := Lib.hid (And.intro hr2 (HR.out.2.trans ht2)); have k1 := hr2.c1; simp only [Option.isNone] at k1; clear hr2 ht2) | (go_at_call 47; (with_reducible refine (must_any HR.out.1 _).mono ?_); (try simp only [mustR_none, mustR_true, mustR_false]); rintro e w3 ⟨rfl, hr3, ht3⟩; replace HR := Lib.hid (And.intro hr3 (HR.out.2.trans ht3)); have k1 := hr3.c1; (try simp only [Option.isNone] at k1); clear hr3 ht3))
                go_ret
                exact ⟨by rw [HV.out]; rfl, by rw [HV.out]; exact HR.out.1, HR.out.2⟩
              · have d2 : decide (0 < (r : Int)) = false := decide_eq_false (by omega)
                have d2' : ¬ ((0 : Int) < (r : Int)) := by omega
                have dk : ((k : Int) == 0) = true := by simp; omega
                have dk' : decide ((k : Int) = 0) = true := decide_eq_true (by omega)
                clear hok h0
                go_wp2_with (first | (go_at_call 81; (with_reducible refine (byte_any HR.out.1).mono ?_); rw [HBY.out]; rintro e w2 ⟨rfl, hr2, ht2, _⟩; replace HR := Lib.hid (And.intro hr2 (HR.out.2.trans ht2)); have k1 := hr2.c1; simp only [Option.isNone] at k1; clear hr2 ht2) | (go_at_call 47; (with_reducible refine (must_any HR.out.1 _).mono ?_); (try simp only [mustR_none, mustR_true, mustR_false]); rintro e w3 ⟨rfl, hr3, ht3⟩; replace HR := Lib.hid (And.intro hr3 (HR.out.2.trans ht3)); have k1 := hr3.c1; (try simp only [Option.isNone] at k1); clear hr3 ht3))
                go_ret
                exact ⟨by rw [HV.out]; rfl, by rw [HV.out]; exact HR.out.1, HR.out.2⟩
            · have d1 : decide ((n' : Int) ≤ (most : Int)) = false := decide_eq_false (by omega)
              have d1' : ¬ ((n' : Int) ≤ (most : Int)) := by omega
              have HV : Hid (cntR most (some l) = (0, none)) := Lib.hid (cntR_over HD2.out hms)
              clear HD ht hn' hk9 hm
              by_cases h0 : 0 < r
              · have d2 : decide (0 < (r : Int)) = true := decide_eq_true (by omega)
                have d2' : (0 : Int) < (r : Int) := by omega
                go_wp2_with (first | (go_at_call 81; (with_reducible refine (byte_any HR.out.1).mono ?_); rw [HBY.out]; rintro e w2 ⟨rfl, hr2, ht2, _⟩; replace HR := Lib.hid (And.intro hr2 (HR.out.2.trans ht2)); have k1 := hr2.c1; simp only [Option.isNone] at k1; clear hr2 ht2) | (go_at_call 47; (with_reducible refine (must_any HR.out.1 _).mono ?_); (try simp only [mustR_none, mustR_true, mustR_false]); rintro e w3 ⟨rfl, hr3, ht3⟩; replace HR := Lib.hid (And.intro hr3 (HR.out.2.trans ht3)); have k1 := hr3.c1; (try simp only [Option.isNone] at k1); clear hr3 ht3))
                go_ret
                exact ⟨by rw [HV.out]; rfl, by rw [HV.out]; exact HR.out.1, HR.out.2⟩
              · have d2 : decide (0 < (r : Int)) = false := decide_eq_false (by omega)
                have d2' : ¬ ((0 : Int) < (r : Int)) := by omega
                have dk : ((k : Int) == 0) = true := by simp; omega
                have dk' : decide ((k : Int) = 0) = true := decide_eq_true (by omega)
                clear hok h0
                go_wp2_with (first | (go_at_call 81; (with_reducible refine (byte_any HR.out.1).mono ?_); rw [HBY.out]; rintro e w2 ⟨rfl, hr2, ht2, _⟩; replace HR := Lib.hid (And.intro hr2 (HR.out.2.trans ht2)); have k1 := hr2.c1; simp only [Option.isNone] at k1; clear hr2 ht2) | (go_at_call 47; (with_reducible refine (must_any HR.out.1 _).mono ?_); (try simp only [mustR_none, mustR_true, mustR_false]); rintro e w3 ⟨rfl, hr3, ht3⟩; replace HR := Lib.hid (And.intro hr3 (HR.out.2.trans ht3)); have k1 := hr3.c1; (try simp only [Option.isNone] at k1); clear hr3 ht3))
                go_ret
                exact ⟨by rw [HV.out]; rfl, by rw [HV.out]; exact HR.out.1, HR.out.2⟩
          · have HV : Hid (cntR most (some l) = (0, none)) := Lib.hid (cntR_no (by
              rw [HD.out, show 9 - k = 8 - k + 1 by omega, decC_zero hx (by omega)]; rfl))
            have d2 : decide (0 < (r : Int)) = false := decide_eq_false (by omega)
            have d2' : ¬ ((0 : Int) < (r : Int)) := by omega
            have d3 : decide ((k : Int) = 0) = false := decide_eq_false (by omega)
            have d3' : ¬ ((k : Int) = 0) := by omega
            have d3'' : ((k : Int) == 0) = false := by simpa using d3'
            clear HD ht hn' hk9 hm hok
            go_wp2_with (first | (go_at_call 81; (with_reducible refine (byte_any HR.out.1).mono ?_); rw [HBY.out]; rintro e w2 ⟨rfl, hr2, ht2, _⟩; replace HR := Lib.hid (And.intro hr2 (HR.out.2.trans ht2)); have k1 := hr2.c1; simp only [Option.isNone] at k1; clear hr2 ht2) | (go_at_call 47; (with_reducible refine (must_any HR.out.1 _).mono ?_); (try simp only [mustR_none, mustR_true, mustR_false]); rintro e w3 ⟨rfl, hr3, ht3⟩; replace HR := Lib.hid (And.intro hr3 (HR.out.2.trans ht3)); have k1 := hr3.c1; (try simp only [Option.isNone] at k1); clear hr3 ht3))
            go_ret
            exact ⟨by rw [HV.out]; rfl, by rw [HV.out]; exact HR.out.1, HR.out.2⟩
        · skip
          have dx : decide (x < 128) = false := decide_eq_false hx
          obtain ⟨r, hrx⟩ : ∃ r : Nat, x = (r : Int) + 128 := ⟨(x - 128).toNat, by omega⟩
          subst hrx
          have hr128 : r < 128 := by omega
          have a1 : bits .and .i64 ((r : Int) + 128) 127 = ((r : Nat) : Int) := by rw [and_127 (by omega) (by omega)]; omega
          obtain ⟨t, ht⟩ : ∃ t, r * P = t := ⟨_, rfl⟩
          have htb : t ≤ 127 * 72057594037927936 := by rw [← ht]; exact Nat.mul_le_mul (by omega) HPB.out
          have s1 : wrap64 ((r : Int) * 2 ^ (7 * k)) = (t : Int) := by
            have e : ((r : Int) * 2 ^ (7 * k)) = (t : Int) := by rw [← ht, ← HPE.out]; simp
            rw [e]
            exact IntWalk.wrap64_in (t : Int) ⟨by omega, by omega⟩
          obtain ⟨n', hn'⟩ : ∃ n', n + t = n' := ⟨_, rfl⟩
          have o1 : bits .or .i64 (n : Int) (t : Int) = (n' : Int) := by
            have := or_seven (x := r) HPE.out HNP.out (by omega) hk8
            rw [ht] at this
            rw [this, hn']
          have g1 : decide (0 ≤ (n' : Int)) = true := decide_eq_true (by omega)
          have g2 : (0 : Int) ≤ (n' : Int) := by omega
          have HN' : Hid (n + r * P = n') := Lib.hid (by rw [ht]; exact hn')

          have HD2 : Hid (decC 9 l = (decC (9 - (k + 1)) lk).map (fun p => (n' + 2 ^ (7 * (k + 1)) * p.1, p.2))) := Lib.hid (by
            rw [HD.out, show 9 - k = 9 - (k + 1) + 1 by omega, decC_more hx, Option.map_map]
            congr 1
            funext p
            show (_, _) = (_, _)
            congr 1
            rw [HPE.out, show 7 * (k + 1) = 7 * k + 7 by omega, Nat.pow_add, HPE.out, ← HN'.out, show ((r : Int) + 128 - 128).toNat = r by omega, Nat.mul_add, Nat.mul_comm P r, Nat.mul_assoc, show (2 : Nat) ^ 7 = 128 by decide]
            omega)
          have HNN : Hid (n' < 2 ^ (7 * (k + 1))) := Lib.hid (by
            rw [show 7 * (k + 1) = 7 * k + 7 by omega, Nat.pow_add, HPE.out, ← HN'.out]
            have := HNP.out
            have h2 : r * P ≤ 127 * P := Nat.mul_le_mul (by omega) (Nat.le_refl _)
            omega)
          by_cases h8 : k < 8
          · have d8 : decide ((k : Int) < 8) = true := decide_eq_true (by omega)
            have d8' : ((k : Int) < 8) := by omega
            clear HD ht hn' hm
            go_wp2_with (first | (go_at_call 81; (with_reducible refine (byte_any HR.out.1).mono ?_); rw [HBY.out]; rintro e w2 ⟨rfl, hr2, ht2, _⟩; replace HR := Lib.hid (And.intro hr2 (HR.out.2.trans ht2)); have k1 := hr2.c1; simp only [Option.isNone] at k1; clear hr2 ht2) | (go_at_call 47; (with_reducible refine (must_any HR.out.1 _).mono ?_); (try simp only [mustR_none, mustR_true, mustR_false]); rintro e w3 ⟨rfl, hr3, ht3⟩; replace HR := Lib.hid (And.intro hr3 (HR.out.2.trans ht3)); have k1 := hr3.c1; (try simp only [Option.isNone] at k1); clear hr3 ht3))
            go_roundw
            case rel => exact ⟨k + 1, n', by first | rfl | (congr 1), by go_num, HNN.out, by omega, .inl ⟨by omega, lk, HR.out, HD2.out⟩⟩
            case measure => simp [intOf]; omega
          · have d8 : decide ((k : Int) < 8) = false := decide_eq_false (by omega)
            have d8' : ¬ ((k : Int) < 8) := by omega
            have HD3 : Hid (decC 9 l = none) := Lib.hid (by rw [HD2.out, show 9 - (k + 1) = 0 by omega]; rfl)
            clear HD ht hn' hm
            go_wp2_with (first | (go_at_call 81; (with_reducible refine (byte_any HR.out.1).mono ?_); rw [HBY.out]; rintro e w2 ⟨rfl, hr2, ht2, _⟩; replace HR := Lib.hid (And.intro hr2 (HR.out.2.trans ht2)); have k1 := hr2.c1; simp only [Option.isNone] at k1; clear hr2 ht2) | (go_at_call 47; (with_reducible refine (must_any HR.out.1 _).mono ?_); (try simp only [mustR_none, mustR_true, mustR_false]); rintro e w3 ⟨rfl, hr3, ht3⟩; replace HR := Lib.hid (And.intro hr3 (HR.out.2.trans ht3)); have k1 := hr3.c1; (try simp only [Option.isNone] at k1); clear hr3 ht3))
            go_roundw
            case rel => exact ⟨k + 1, n', by first | rfl | (congr 1), by go_num, HNN.out, by omega, .inr ⟨by omega, HR.out, HD3.out⟩⟩
            case measure => simp [intOf]; omega
    · have HV : Hid (cntR most (some l) = (0, none)) := Lib.hid (cntR_no hd)
      have HR := Lib.hid hr
      have k1 := hr.1.c1
      have hn63 : n < 9223372036854775808 := by
        have e : (2 : Nat) ^ (7 * 9) = 9223372036854775808 := by decide
        rw [e] at hn; exact hn
      simp only [Option.isNone] at k1
      clear hr hd hP hn
      go_wp2_with (first | (go_at_call 81; (with_reducible refine (byte_any HR.out.1).mono ?_); rw [HBY.out]; rintro e w2 ⟨rfl, hr2, ht2, _⟩; replace HR := Lib.hid (And.intro hr2 (HR.out.2.trans ht2)); have k1 := hr2.c1; simp only [Option.isNone] at k1; clear hr2 ht2) | (go_at_call 47; (with_reducible refine (must_any HR.out.1 _).mono ?_); (try simp only [mustR_none, mustR_true, mustR_false]); rintro e w3 ⟨rfl, hr3, ht3⟩; replace HR := Lib.hid (And.intro hr3 (HR.out.2.trans ht3)); have k1 := hr3.c1; (try simp only [Option.isNone] at k1); clear hr3 ht3))
      go_ret
      exact ⟨by rw [HV.out]; rfl, by rw [HV.out]; exact HR.out.1, HR.out.2⟩
set_option maxRecDepth 100000 in
set_option maxHeartbeats 16000000 in
theorem count_none {w : World} {rb bb : Nat} (h : RS w rb bb none) (most : Nat) (hm : most ≤ 9223372036854775807) : Calls Try.prog 46 #[.pointer (some ⟨rb, 0, none⟩), .int .i64 most] w fun e w' => e = .returned (.int .i64 0) ∧ RS w' rb bb none ∧ Turns (rset rb) w w' := by
  have HR : Hid (RS w rb bb none ∧ Turns (rset rb) w w) := Lib.hid ⟨h, Turns.refl _ _⟩
  have HBY : Hid (byteR none = (0, none)) := Lib.hid rfl
  clear h
  go_enter Try.func46, Try.ntmps46
  go_wp2_with fail
  refine wp_loop_rounds 1 ?_
  rw [rounds_succ]
  have a1 : bits .and .i64 0 127 = 0 := by rw [and_127 (by omega) (by omega)]; rfl
  have s1 : wrap64 0 = 0 := IntWalk.wrap64_in 0 ⟨by omega, by omega⟩
  have o1 : bits .or .i64 0 0 = 0 := by decide
  go_wp2_with (first | (go_at_call 81; (with_reducible refine (byte_any HR.out.1).mono ?_); rw [HBY.out]; rintro e w2 ⟨rfl, hr2, ht2, _⟩; replace HR := Lib.hid (And.intro hr2 (HR.out.2.trans ht2)); have k1 := hr2.c1; simp only [Option.isNone] at k1; clear hr2 ht2) | (go_at_call 47; (with_reducible refine (must_any HR.out.1 _).mono ?_); (try simp only [mustR_none, mustR_true, mustR_false]); rintro e w3 ⟨rfl, hr3, ht3⟩; replace HR := Lib.hid (And.intro hr3 (HR.out.2.trans ht3)); have k1 := hr3.c1; (try simp only [Option.isNone] at k1); clear hr3 ht3))
  go_ret
  exact ⟨rfl, HR.out⟩
theorem count_any' {w : World} {rb bb : Nat} {σ : RdS} (h : RS w rb bb σ) (most : Nat) (hm : most ≤ 9223372036854775807) : Calls Try.prog 46 #[.pointer (some ⟨rb, 0, none⟩), .int .i64 most] w fun e w' => e = .returned (.int .i64 ((cntR most σ).1 : Int)) ∧ RS w' rb bb (cntR most σ).2 ∧ Turns (rset rb) w w' := by
  cases σ with
  | none => exact count_none h most hm
  | some l => exact count_some h most hm
theorem count_lit {w : World} {rb bb : Nat} {σ : RdS} (h : RS w rb bb σ) (most : Nat) (x : Int) (hx : x = (most : Int)) (hm : most ≤ 9223372036854775807) : Calls Try.prog 46 #[.pointer (some ⟨rb, 0, none⟩), .int .i64 x] w fun e w' => e = .returned (.int .i64 ((cntR most σ).1 : Int)) ∧ RS w' rb bb (cntR most σ).2 ∧ Turns (rset rb) w w' := by
  subst hx; exact count_any' h most hm
end Go.Proofs.Ytfinpgkehjbcpaa
/- Chapter 05: a number, a word is read. -/
namespace Go.Proofs.Ytfinpgkehjbcpaa
open Go.ChangeShapes Go.WideShapes Go.ChangeAt Go.RowKit Go.Deep Go.Joins Go.Maps
set_option linter.unusedVariables false
set_option linter.unusedSimpArgs false
set_option maxRecDepth 100000 in
set_option maxHeartbeats 16000000 in
theorem number_any {w : World} {rb bb : Nat} {σ : RdS} (h : RS w rb bb σ) : Calls Try.prog 82 #[.pointer (some ⟨rb, 0, none⟩)] w fun e w' => e = .returned (.int .i64 (numR σ).1) ∧ RS w' rb bb (numR σ).2 ∧ Turns (rset rb) w w' := by
  have HR : Hid (RS w rb bb σ ∧ Turns (rset rb) w w) := Lib.hid ⟨h, Turns.refl _ _⟩
  have hle := cntR_le 4611686018427387903 σ
  obtain ⟨c, s1, hcv⟩ : ∃ c s1, cntR 4611686018427387903 σ = (c, s1) := ⟨_, _, rfl⟩
  rw [hcv] at hle
  have HCV := Lib.hid hcv
  have hle' : c ≤ 4611686018427387903 := hle
  clear h hcv hle
  have HV : Hid (numR σ = (unfV c, s1)) := Lib.hid (by unfold numR; rw [HCV.out])
  rw [HV.out]
  clear HV
  obtain ⟨uv, huv⟩ : ∃ uv, unfV c = uv := ⟨_, rfl⟩
  have HUV := Lib.hid huv
  rw [huv]
  clear huv
  go_enter Try.func82, Try.ntmps82
  go_wp2_with (first | (go_at_call 46; (with_reducible refine (count_lit HR.out.1 4611686018427387903 4611686018427387903 rfl (by omega)).mono ?_); rw [HCV.out]; rintro e w2 ⟨rfl, hr2, ht2⟩; replace HR := Lib.hid (And.intro hr2 (HR.out.2.trans ht2)); clear hr2 ht2) | (go_at_call 84; (with_reducible refine (unfolded_any c (by omega) _).mono ?_); rw [HUV.out]; rintro e w2 ⟨rfl, hw2⟩; replace hw2 := hw2.symm; subst hw2))
  go_ret
  exact ⟨rfl, HR.out⟩
set_option maxRecDepth 100000 in
set_option maxHeartbeats 16000000 in
theorem rword_any' {w : World} {rb bb : Nat} {σ : RdS} (h : RS w rb bb σ) : Calls Try.prog 49 #[.pointer (some ⟨rb, 0, none⟩)] w fun e w' => e = .returned (.int .i64 ((wrdR σ).1 : Int)) ∧ RS w' rb bb (wrdR σ).2 ∧ Turns (rset rb) w w' := by
  have HR : Hid (RS w rb bb σ ∧ Turns (rset rb) w w) := Lib.hid ⟨h, Turns.refl _ _⟩
  have hle := cntR_le 4611686018427387904 σ
  obtain ⟨c, s1, hcv⟩ : ∃ c s1, cntR 4611686018427387904 σ = (c, s1) := ⟨_, _, rfl⟩
  rw [hcv] at hle
  have HCV := Lib.hid hcv
  have hle' : c ≤ 4611686018427387904 := hle
  clear h hcv hle
  have a1 := and_1 (c : Int)
  have a2 : ((c : Int)).tmod 2 = ((c % 2 : Nat) : Int) := rfl
  by_cases hodd : 3 ≤ c ∧ c % 2 = 1
  · obtain ⟨q, hq⟩ : ∃ q, (c - 3) / 2 = q := ⟨_, rfl⟩
    obtain ⟨uv, huv⟩ : ∃ uv, unfV q = uv := ⟨_, rfl⟩
    obtain ⟨sv, sb, hsv⟩ : ∃ sv sb, smallV uv = (sv, sb) := ⟨_, _, rfl⟩
    have HV : Hid (wrdR σ = (c, mustR sb s1)) := Lib.hid (by
      unfold wrdR badS
      rw [HCV.out]
      simp only [hq, huv, hsv, hodd]
      simp)
    rw [HV.out]
    have HUV := Lib.hid huv
    have HSV := Lib.hid hsv
    have b1 : bits .and .i64 (c : Int) 1 = 1 := by rw [a1]; omega
    have b2 : decide ((3 : Int) ≤ (c : Int)) = true := decide_eq_true (by omega)
    have b2' : (3 : Int) ≤ (c : Int) := by omega
    have b3 : ((c : Int) - 3).tdiv 2 = (q : Int) := by rw [Int.tdiv_eq_ediv_of_nonneg (by omega)]; omega
    have b4 : ((c : Int) - 3) / 2 = (q : Int) := by omega
    have hqb : q ≤ 4611686018427387904 := by omega
    clear HV hq huv hsv hodd a1 a2
    go_enter Try.func49, Try.ntmps49
    go_wp2_with (first | (go_at_call 46; (with_reducible refine (count_lit HR.out.1 4611686018427387904 4611686018427387904 rfl (by omega)).mono ?_); rw [HCV.out]; rintro e w2 ⟨rfl, hr2, ht2⟩; replace HR := Lib.hid (And.intro hr2 (HR.out.2.trans ht2)); clear hr2 ht2) | (go_at_call 84; (with_reducible refine (unfolded_any q (by omega) _).mono ?_); rw [HUV.out]; rintro e w2 ⟨rfl, hw2⟩; replace hw2 := hw2.symm; subst hw2) | (go_at_call 83; (with_reducible refine (small_any uv _).mono ?_); rw [HSV.out]; rintro e w2 ⟨rfl, hw2⟩; replace hw2 := hw2.symm; subst hw2) | (go_at_call 47; (with_reducible refine (must_any HR.out.1 _).mono ?_); rintro e w3 ⟨rfl, hr3, ht3⟩; replace HR := Lib.hid (And.intro hr3 (HR.out.2.trans ht3)); clear hr3 ht3))
    go_ret
    exact ⟨rfl, HR.out⟩
  · have HV : Hid (wrdR σ = (c, s1)) := Lib.hid (by
      unfold wrdR badS
      rw [HCV.out]
      rw [show (decide (3 ≤ c) && decide (c % 2 = 1)) = false from by rw [← Bool.decide_and]; exact decide_eq_false hodd]
      rfl)
    rw [HV.out]
    clear HV
    by_cases h3 : 3 ≤ c
    · have b1 : bits .and .i64 (c : Int) 1 = 0 := by rw [a1]; omega
      have b2 : decide ((3 : Int) ≤ (c : Int)) = true := decide_eq_true (by omega)
      have b2' : (3 : Int) ≤ (c : Int) := by omega
      clear hodd a1 a2
      go_enter Try.func49, Try.ntmps49
      go_wp2_with (first | (go_at_call 46; (with_reducible refine (count_lit HR.out.1 4611686018427387904 4611686018427387904 rfl (by omega)).mono ?_); rw [HCV.out]; rintro e w2 ⟨rfl, hr2, ht2⟩; replace HR := Lib.hid (And.intro hr2 (HR.out.2.trans ht2)); clear hr2 ht2) | (go_at_call 84; (with_reducible refine (unfolded_any q (by omega) _).mono ?_); rw [HUV.out]; rintro e w2 ⟨rfl, hw2⟩; replace hw2 := hw2.symm; subst hw2) | (go_at_call 83; (with_reducible refine (small_any uv _).mono ?_); rw [HSV.out]; rintro e w2 ⟨rfl, hw2⟩; replace hw2 := hw2.symm; subst hw2) | (go_at_call 47; (with_reducible refine (must_any HR.out.1 _).mono ?_); rintro e w3 ⟨rfl, hr3, ht3⟩; replace HR := Lib.hid (And.intro hr3 (HR.out.2.trans ht3)); clear hr3 ht3))
      go_ret
      exact ⟨rfl, HR.out⟩
    · have b2 : decide ((3 : Int) ≤ (c : Int)) = false := decide_eq_false (by omega)
      have b2' : ¬ ((3 : Int) ≤ (c : Int)) := by omega
      clear hodd a1 a2
      go_enter Try.func49, Try.ntmps49
      go_wp2_with (first | (go_at_call 46; (with_reducible refine (count_lit HR.out.1 4611686018427387904 4611686018427387904 rfl (by omega)).mono ?_); rw [HCV.out]; rintro e w2 ⟨rfl, hr2, ht2⟩; replace HR := Lib.hid (And.intro hr2 (HR.out.2.trans ht2)); clear hr2 ht2) | (go_at_call 84; (with_reducible refine (unfolded_any q (by omega) _).mono ?_); rw [HUV.out]; rintro e w2 ⟨rfl, hw2⟩; replace hw2 := hw2.symm; subst hw2) | (go_at_call 83; (with_reducible refine (small_any uv _).mono ?_); rw [HSV.out]; rintro e w2 ⟨rfl, hw2⟩; replace hw2 := hw2.symm; subst hw2) | (go_at_call 47; (with_reducible refine (must_any HR.out.1 _).mono ?_); rintro e w3 ⟨rfl, hr3, ht3⟩; replace HR := Lib.hid (And.intro hr3 (HR.out.2.trans ht3)); clear hr3 ht3))
      go_ret
      exact ⟨rfl, HR.out⟩
end Go.Proofs.Ytfinpgkehjbcpaa
