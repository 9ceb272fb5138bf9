/- Chapter 10: are literals the same? -/
import Derived.Test.YtnojndgmgkgnpaaCD
namespace Go.Proofs.Ytnojndgmgkgnpaa
open Go.ChangeShapes Go.WideShapes Go.ChangeAt Go.RowKit Go.Deep Go.Joins Go.Maps
set_option linter.unusedVariables false
set_option linter.unusedSimpArgs false
theorem sameLs_len : ∀ (l r : List LitT), l.length ≠ r.length → sameLs l r = false
 | [], [], h => absurd rfl h
 | [], _ :: _, _ => rfl
 | _ :: _, [], _ => rfl
 | a :: l, b :: r, h => by
  unfold sameLs
  rw [sameLs_len l r (by simpa using h), Bool.and_false]
theorem sameLs_no : ∀ (l r : List LitT) (k : Nat) (h1 : k < l.length) (h2 : k < r.length), sameL l[k] r[k] = false → sameLs l r = false
 | a :: l, b :: r, 0, _, _, h => by
  unfold sameLs
  rw [show sameL a b = false from h, Bool.false_and]
 | a :: l, b :: r, k + 1, h1, h2, h => by
  unfold sameLs
  rw [sameLs_no l r k (by simpa using h1) (by simpa using h2) h, Bool.and_false]
theorem sameLs_yes : ∀ (l r : List LitT), l.length = r.length → (∀ k (h1 : k < l.length) (h2 : k < r.length), sameL l[k] r[k] = true) → sameLs l r = true
 | [], [], _, _ => rfl
 | [], _ :: _, h, _ => by simp at h
 | _ :: _, [], h, _ => by simp at h
 | a :: l, b :: r, h, hk => by
  unfold sameLs
  rw [show sameL a b = true from hk 0 (by simp) (by simp), sameLs_yes l r (by simpa using h) (fun k h1 h2 => hk (k + 1) (by simpa using h1) (by simpa using h2))]
  rfl
theorem sameL_eq (a b : LitT) : sameL a b = (a.kind_ == b.kind_ && a.text_.toList == b.text_.toList && a.num_ == b.num_ && sameLs a.kids_ b.kids_) := by cases a; cases b; rfl
/-- kids that read so -/
def Kids (w : World) (D : Nat → Prop) (p : Option Addr) (l : List LitT) (Q : Nat → LS) : Prop := (∀ i (h : i < l.length), ∃ b cur, p = some ⟨b, 0, none⟩ ∧ w.heap[b]? = some (.cells cur 40 (0, 0)) ∧ D b ∧ Cells4 w b (i * 4) l[i] (Q i)) ∧ ∀ i (h : i < l.length), IsLt w D l[i] (Q i)
theorem Kids.under {w w' : World} {D : Nat → Prop} {p : Option Addr} {l : List LitT} {Q : Nat → LS} (h : Kids w D p l Q) (hb : Below w.heap.size w w') : Kids w' D p l Q := ⟨fun i hi => by
 obtain ⟨b, cur, e, k1, k2, k3⟩ := h.1 i hi
 have hl := lt_of_block k1
 exact ⟨b, cur, e, (hb.block b hl).trans k1, k2, k3.same (hb.block b hl)⟩, fun i hi => (h.2 i hi).under hb⟩
theorem IsLt.kids {w : World} {D : Nat → Prop} {x : LitT} {q : LS} (h : IsLt w D x q) : ∃ Q, Kids w D q.p x.kids_ Q := by
 cases h with
 | node x q Q h1 h4 h5 => exact ⟨Q, h4, h5⟩
/-- the program tells of this literal whether it is another one, wherever that lies -/
def Tells1 (w : World) (a : LitT) (qa : LS) : Prop := ∀ (w1 : World) (D' : Nat → Prop) (b : LitT) (qb : LS), Below w.heap.size w w1 → IsLt w1 D' b qb → Calls Try.prog 68 #[ltV a qa, ltV b qb] w1 fun e w' => e = .returned (.bool (sameL a b)) ∧ Below w1.heap.size w1 w'
set_option maxRecDepth 100000 in
set_option maxHeartbeats 16000000 in
theorem equal_any {w : World} {D D' : Nat → Prop} {p p' : Option Addr} {l r : List LitT} {Q Q' : Nat → LS} {n n' c c' : Nat} (hl : Kids w D p l Q) (hr : Kids w D' p' r Q') (hn : l.length = n) (hn' : r.length = n') (hm : n ≤ 9223372036854775807) (hm' : n' ≤ 9223372036854775807)
  (ht : ∀ i (h : i < l.length), Tells1 w l[i] (Q i)) : Calls Try.prog 78 #[.slice p n c, .slice p' n' c', .func (.func 68) #[] #[]] w fun e w' => e = .returned (.bool (sameLs l r)) ∧ Below w.heap.size w w' := by
 have HL := Lib.hid hl
 have HR := Lib.hid hr
 have HN := Lib.hid hn
 have HN' := Lib.hid hn'
 have HT := Lib.hid ht
 clear hl hr ht
 by_cases hnn : n = n'
 ·have hlr : l.length = r.length := by omega
  have HLR := Lib.hid hlr
  subst hnn
  clear hn hn' hlr
  go_enter Try.func78, Try.ntmps78
  go_wp2_with fail
  go_loopw [17] (fun i wr => ∃ k : Nat, i = .int .i64 k ∧ k ≤ n ∧ Below w.heap.size w wr ∧ ∀ j (h1 : j < l.length) (h2 : j < r.length), j < k → sameL l[j] r[j] = true) (fun i _ => n - (intOf i).toNat)
  case atStart => exact ⟨0, rfl, Nat.zero_le _, Below.refl _ _, fun j _ _ h => absurd h (by omega)⟩
  case round =>
   obtain ⟨k, rfl, hk, hbw, hall⟩ := hrel
   have HB := Lib.hid hbw
   have HALL := Lib.hid hall
   clear hall
   by_cases hlt : k < n
   ·have d1 : decide (k < n) = true := decide_eq_true hlt
    have d2 : decide ((k : Int) < (n : Int)) = true := decide_eq_true (by omega)
    have h1 : k < l.length := by have := HN.out; omega
    have h2 : k < r.length := by have := HN'.out; omega
    have hKL := HL.out.under hbw
    have hKR := HR.out.under hbw
    obtain ⟨ba, cura, hpa, hha, _, hca⟩ := hKL.1 k h1
    have ea0 := hca.c0
    have ea1 := hca.c1
    have ea2 := hca.c2
    have ea3 := hca.c3
    obtain ⟨bb, curb, hpb, hhb, _, hcb⟩ := hKR.1 k h2
    have eb0 := hcb.c0
    have eb1 := hcb.c1
    have eb2 := hcb.c2
    have eb3 := hcb.c3
    subst hpa
    subst hpb
    have hab : ba < wr.heap.size := lt_of_block hha
    have hbb : bb < wr.heap.size := lt_of_block hhb
    obtain ⟨xa, hxa⟩ : ∃ x, l[k] = x := ⟨_, rfl⟩
    obtain ⟨xb, hxb⟩ : ∃ x, r[k] = x := ⟨_, rfl⟩
    obtain ⟨qa, hqa⟩ : ∃ x, Q k = x := ⟨_, rfl⟩
    obtain ⟨qb, hqb⟩ : ∃ x, Q' k = x := ⟨_, rfl⟩
    have hlb := hKR.2 k h2
    have hta := HT.out k h1
    rw [hxa, hqa] at hta
    rw [hxb, hqb] at hlb
    rw [hxa] at ea0 ea1 ea2
    rw [hxa, hqa] at ea3
    rw [hxb] at eb0 eb1 eb2
    rw [hxb, hqb] at eb3
    have HSA : Hid (sameL l[k] r[k] = sameL xa xb) := Lib.hid (by rw [hxa, hxb])
    have hW : ∀ W, Below wr.heap.size wr W → Calls Try.prog 68 #[ltV xa qa, ltV xb qb] W fun e w' => e = .returned (.bool (sameL xa xb)) ∧ Below wr.heap.size wr w' := fun W hW => (hta W _ _ _ (hbw.trans (hW.mono hbw.size)) (hlb.under hW)).mono (fun e w' ⟨he, hb⟩ => ⟨he, hW.trans (hb.mono hW.size)⟩)
    obtain ⟨v, hv⟩ : ∃ v, sameL xa xb = v := ⟨_, rfl⟩
    rw [hv] at hW
    have HW := Lib.hid hW
    have HV := Lib.hid hv
    have HX := Lib.hid (And.intro ea0 (And.intro ea1 (And.intro ea2 ea3)))
    have HY := Lib.hid (And.intro eb0 (And.intro eb1 (And.intro eb2 eb3)))
    have g0 : (0 : Int) ≤ (k : Int) := by omega
    have g1 : (k : Int) < (n : Int) := by omega
    clear hW hv hta hlb hxa hxb hqa hqb hca hcb hha hhb hKL hKR
    unfold ltV at HW
    cases v with
    | true =>
     go_wp2_with (first | (go_at_call 68; (with_reducible refine (HW.out _ bel).mono ?_); rintro e w3 ⟨rfl, hb3⟩; have HB3 := Lib.hid hb3; clear hb3))
     go_roundw
     case rel =>
      refine ⟨k + 1, by go_num, hlt, HB.out.trans (HB3.out.mono HB.out.size), fun j h3 h4 hj => ?_⟩
      rcases Nat.lt_or_ge j k with q | q
      ·exact HALL.out j h3 h4 q
      ·obtain rfl : j = k := by omega
       rw [HSA.out, HV.out]
     case measure => simp [intOf]; omega
    | false =>
     go_wp2_with (first | (go_at_call 68; (with_reducible refine (HW.out _ bel).mono ?_); rintro e w3 ⟨rfl, hb3⟩; have HB3 := Lib.hid hb3; clear hb3))
     go_ret
     exact ⟨by rw [sameLs_no l r k h1 h2 (by rw [HSA.out, HV.out])]; rfl, HB.out.trans (HB3.out.mono HB.out.size)⟩
   ·have hkn : k = n := by omega
    have d1 : decide (k < n) = false := decide_eq_false hlt
    have d2 : decide ((k : Int) < (n : Int)) = false := decide_eq_false (by omega)
    clear hlt
    subst hkn
    go_wp2_with fail
    go_ret
    exact ⟨by rw [sameLs_yes l r HLR.out (fun j h1 h2 => HALL.out j h1 h2 (by have := HN.out; omega))]; rfl, HB.out⟩
 ·have HV : Hid (sameLs l r = false) := Lib.hid (sameLs_len l r (by omega))
  have d1 : (n == n') = false := by simpa using hnn
  have d2 : ((n : Int) == (n' : Int)) = false := by simp; omega
  have d3 : decide ((n : Int) = (n' : Int)) = false := decide_eq_false (by omega)
  clear hn hn'
  go_enter Try.func78, Try.ntmps78
  go_wp2_with fail
  go_ret
  exact ⟨by rw [HV.out]; rfl, Below.refl _ _⟩
theorem Tells1.under {w w1 : World} {a : LitT} {q : LS} (h : Tells1 w a q) (hb : Below w.heap.size w w1) : Tells1 w1 a q := fun W D' b qb hW hl => h W D' b qb (hb.trans (hW.mono hb.size)) hl
theorem equal_of (w : World) {W : World} (hW : Below w.heap.size w W) {D D' : Nat → Prop} {p p' : Option Addr} {l r : List LitT} {Q Q' : Nat → LS} {n n' c c' : Nat} (hl : Kids w D p l Q) (hr : Kids w D' p' r Q') (hn : l.length = n) (hn' : r.length = n') (hm : n ≤ 9223372036854775807) (hm' : n' ≤ 9223372036854775807)
  (ht : ∀ i (h : i < l.length), Tells1 w l[i] (Q i)) : Calls Try.prog 78 #[.slice p n c, .slice p' n' c', .func (.func 68) #[] #[]] W fun e w' => e = .returned (.bool (sameLs l r)) ∧ Below w.heap.size w w' :=
 (equal_any (hl.under hW) (hr.under hW) hn hn' hm hm' (fun i hi => (ht i hi).under hW)).mono (fun e w' ⟨he, hb⟩ => ⟨he, hW.trans (hb.mono hW.size)⟩)
set_option maxRecDepth 100000 in
set_option maxHeartbeats 16000000 in
theorem same_any {w : World} {D : Nat → Prop} {a : LitT} {qa : LS} (h : IsLt w D a qa) : Tells1 w a qa := by
 induction h with
 | node x q Q h1 h4 h5 ih =>
 intro w1 D' b qb hb hlb
 obtain ⟨Q', hkb⟩ := hlb.kids
 have hka0 : Kids w D q.p x.kids_ Q := ⟨h4, h5⟩
 have HKA := Lib.hid (Kids.under hka0 hb)
 clear hka0
 have HKB := Lib.hid hkb
 have HIH : Hid (∀ i (h : i < x.kids_.length), Tells1 w1 x.kids_[i] (Q i)) := Lib.hid (fun i h => (ih i h).under hb)
 have hma := h1.klen.2
 have hma' := h1.klen.1
 have hmb := hlb.ok.klen.2
 have hmb' := hlb.ok.klen.1
 rw [sameL_eq]
 unfold ltV
 obtain ⟨na, hna⟩ : ∃ n, x.kids_.length = n := ⟨_, rfl⟩
 obtain ⟨nb, hnb⟩ : ∃ n, b.kids_.length = n := ⟨_, rfl⟩
 obtain ⟨ka, hka⟩ : ∃ n, x.kind_ = n := ⟨_, rfl⟩
 obtain ⟨kb, hkb2⟩ : ∃ n, b.kind_ = n := ⟨_, rfl⟩
 obtain ⟨ta, hta⟩ : ∃ n, x.text_ = n := ⟨_, rfl⟩
 obtain ⟨tb, htb⟩ : ∃ n, b.text_ = n := ⟨_, rfl⟩
 obtain ⟨ma, hma3⟩ : ∃ n, x.num_ = n := ⟨_, rfl⟩
 obtain ⟨mb, hmb3⟩ : ∃ n, b.num_ = n := ⟨_, rfl⟩
 obtain ⟨v, hv⟩ : ∃ v, sameLs x.kids_ b.kids_ = v := ⟨_, rfl⟩
 have HNA := Lib.hid hna
 have HNB := Lib.hid hnb
 have HVK := Lib.hid hv
 rw [hna] at hma' ⊢
 rw [hnb] at hmb' ⊢
 rw [hka, hkb2, hta, htb, hma3, hmb3, hv]
 have hna2 : na ≤ 9223372036854775807 := by unfold maxLen at hma; omega
 have hnb2 : nb ≤ 9223372036854775807 := by unfold maxLen at hmb; omega
 clear hna hnb hka hkb2 hta htb hma3 hmb3 hv hma hma' hmb hmb' hkb hlb ih h1 h4 h5
 by_cases e1 : ka = kb
 ·subst e1
  cases e2 : ta.toList == tb.toList with
  | true =>
   by_cases e3 : ma = mb
   ·subst e3
    go_enter Try.func68, Try.ntmps68
    go_wp2_with (first | (go_at_call 78; (with_reducible refine (equal_of w1 bel HKA.out HKB.out HNA.out HNB.out (by omega) (by omega) HIH.out).mono ?_); rw [HVK.out]; rintro e w3 ⟨rfl, hb3⟩; have HB3 := Lib.hid hb3; clear hb3))
    go_ret
    exact ⟨ret_bool (by first | (simp; done) | simp_all), HB3.out⟩
   ·have d3 : (ma == mb) = false := by simpa using e3
    go_enter Try.func68, Try.ntmps68
    go_wp2_with fail
    go_ret
    exact ⟨ret_bool (by first | (simp; done) | simp_all), bel⟩
  | false =>
   go_enter Try.func68, Try.ntmps68
   go_wp2_with fail
   go_ret
   exact ⟨ret_bool (by first | (simp; done) | simp_all), bel⟩
 ·have d1 : (ka == kb) = false := by simpa using e1
  go_enter Try.func68, Try.ntmps68
  go_wp2_with fail
  go_ret
  exact ⟨ret_bool (by first | (simp; done) | simp_all), bel⟩
end Go.Proofs.Ytnojndgmgkgnpaa
