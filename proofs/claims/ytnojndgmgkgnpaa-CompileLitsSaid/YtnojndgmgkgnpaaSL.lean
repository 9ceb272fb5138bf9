/- Chapter 10: are literals the same? As the reference says. -/
import Derived.Test.YtnojndgmgkgnpaaCZ
import Derived.Deep.RegionLaw
namespace Go.Proofs.Ytnojndgmgkgnpaa
open Go.ChangeShapes Go.WideShapes Go.ChangeAt Go.RowKit Go.Deep Go.Joins Go.Maps
set_option linter.unusedVariables false
set_option linter.unusedSimpArgs false
def RTells (w : World) (a : LitT) (qa : LS) : Prop := ∀ (w1 : World) (D' : Nat → Prop) (b : LitT) (qb : LS), Below w.heap.size w w1 → IsLt w1 D' b qb → Calls Try.prog 9 #[ltV a qa, ltV b qb] w1 fun e w' => e = .returned (.bool (sameL a b)) ∧ Below w1.heap.size w1 w'
theorem RTells.under {w w1 : World} {a : LitT} {q : LS} (h : RTells w a q) (hb : Below w.heap.size w w1) : RTells w1 a q := fun W D' b qb hW hl => h W D' b qb (hb.trans (hW.mono hb.size)) hl
set_option maxRecDepth 100000 in
set_option maxHeartbeats 16000000 in
theorem rsame_any {w : World} {D : Nat → Prop} {a : LitT} {qa : LS} (h : IsLt w D a qa) : RTells w a qa := by
 induction h with
 | node x q Q h1 h4 h5 ih =>
 intro w1 D' b qb hb hlb
 obtain ⟨Q', hkb⟩ := hlb.kids
 have hka0 : Kids w D q.p x.kids_ Q := ⟨h4, h5⟩
 have HKA := Lib.hid (Kids.under hka0 hb)
 clear hka0
 have HKB := Lib.hid hkb
 have HIH : Hid (∀ i (h : i < x.kids_.length), RTells w1 x.kids_[i] (Q i)) := Lib.hid (fun i h => (ih i h).under hb)
 have hma := h1.klen.2
 have hma' := h1.klen.1
 have hmb := hlb.ok.klen.2
 have hmb' := hlb.ok.klen.1
 rw [sameL_eq]
 unfold ltV
 obtain ⟨na, hna⟩ : ∃ n, x.kids_.length = n := ⟨_, rfl⟩
 obtain ⟨nb, hnb⟩ : ∃ n, b.kids_.length = n := ⟨_, rfl⟩
 obtain ⟨ka, hka⟩ : ∃ n, x.kind_ = n := ⟨_, rfl⟩
 obtain ⟨kb, hkb2⟩ : ∃ n, b.kind_ = n := ⟨_, rfl⟩
 obtain ⟨ta, hta⟩ : ∃ n, x.text_ = n := ⟨_, rfl⟩
 obtain ⟨tb, htb⟩ : ∃ n, b.text_ = n := ⟨_, rfl⟩
 obtain ⟨ma, hma3⟩ : ∃ n, x.num_ = n := ⟨_, rfl⟩
 obtain ⟨mb, hmb3⟩ : ∃ n, b.num_ = n := ⟨_, rfl⟩
 obtain ⟨pa, hpa⟩ : ∃ n, q.p = n := ⟨_, rfl⟩
 obtain ⟨pb, hpb⟩ : ∃ n, qb.p = n := ⟨_, rfl⟩
 obtain ⟨ca, hca⟩ : ∃ n, q.c = n := ⟨_, rfl⟩
 obtain ⟨cb, hcb⟩ : ∃ n, qb.c = n := ⟨_, rfl⟩
 have HNA := Lib.hid hna
 have HNB := Lib.hid hnb
 rw [hpa] at HKA
 rw [hpb] at HKB
 rw [hna, hca] at hma'
 rw [hnb, hcb] at hmb'
 rw [hca] at hma
 rw [hcb] at hmb
 rw [hna, hnb, hka, hkb2, hta, htb, hma3, hmb3, hpa, hpb, hca, hcb]
 have hna2 : na ≤ 9223372036854775807 := by unfold maxLen at hma; omega
 have hnb2 : nb ≤ 9223372036854775807 := by unfold maxLen at hmb; omega
 clear hna hnb hka hkb2 hta htb hma3 hmb3 hma hma' hmb hmb' hkb hlb ih h1 h4 h5 hpa hpb hca hcb
 by_cases e1 : ka = kb
 ·subst e1
  cases e2 : ta.toList == tb.toList with
  | true =>
   by_cases e3 : ma = mb
   ·subst e3
    by_cases e4 : na = nb
    ·
     subst e4
     obtain ⟨n, hn⟩ : ∃ n, n = na := ⟨_, rfl⟩
     rw [← hn] at HNA HNB hna2 ⊢
     have HTL := Lib.hid e2
     clear hn hnb2
     go_enter Try.func9, Try.ntmps9
     go_upto_region 1 with fail
     have hbw : Below w1.heap.size w1 ((w1.alloc (.cells #[.int .i64 ka, .string ta, .int .i64 ma, .slice pa n ca] 40)).alloc (.cells #[.int .i64 ka, .string tb, .int .i64 ma, .slice pb n cb] 40)) := bel
     have h1 := heap_alloc_new w1 (.cells #[.int .i64 ka, .string ta, .int .i64 ma, .slice pa n ca] 40)
     have h2 := heap_alloc_new (w1.alloc (.cells #[.int .i64 ka, .string ta, .int .i64 ma, .slice pa n ca] 40)) (.cells #[.int .i64 ka, .string tb, .int .i64 ma, .slice pb n cb] 40)
     rw [World.size_alloc] at h2
     have h1' : ((w1.alloc (.cells #[.int .i64 ka, .string ta, .int .i64 ma, .slice pa n ca] 40)).alloc (.cells #[.int .i64 ka, .string tb, .int .i64 ma, .slice pb n cb] 40)).heap[w1.heap.size]? = some (.cells #[.int .i64 ka, .string ta, .int .i64 ma, .slice pa n ca] 40 (0, 0)) := (((Below.refl _ _).alloc (Nat.le_refl _) _).block _ (lt_of_block h1)).trans h1
     have hka := HKA.out.under hbw
     have hkb := HKB.out.under hbw
     obtain ⟨W, hW⟩ : ∃ W, ((w1.alloc (.cells #[.int .i64 ka, .string ta, .int .i64 ma, .slice pa n ca] 40)).alloc (.cells #[.int .i64 ka, .string tb, .int .i64 ma, .slice pb n cb] 40)) = W := ⟨_, rfl⟩
     rw [hW] at hbw h2 h1' hka hkb ⊢
     obtain ⟨a0, a1, a2, a3⟩ := cc4 (h1')
     obtain ⟨b0, b1, b2, b3⟩ := cc4 (h2)
     have HBW := Lib.hid hbw
     have HBA := Lib.hid h1'
     have HBB := Lib.hid h2
     have HKA2 := Lib.hid hka
     have HKB2 := Lib.hid hkb
     clear hW hbw h1 h2 h1' hka hkb HKA HKB
     go_wp2_with fail
     go_loopw [5] (fun i wr => ∃ k : Nat, i = .int .i64 k ∧ k ≤ n ∧ Below W.heap.size W wr ∧ ∀ j (h1 : j < x.kids_.length) (h2 : j < b.kids_.length), j < k → sameL x.kids_[j] b.kids_[j] = true) (fun i _ => n - (intOf i).toNat)
     case atStart => exact ⟨0, rfl, Nat.zero_le _, Below.refl _ _, fun j _ _ h => absurd h (by omega)⟩
     case round =>
      obtain ⟨k, rfl, hk, hbr, hall⟩ := hrel
      have HB := Lib.hid hbr
      have HALL := Lib.hid hall
      have ha9 := (hbr.block _ (lt_of_block HBA.out)).trans HBA.out
      have hb9 := (hbr.block _ (lt_of_block HBB.out)).trans HBB.out
      clear hall a0 a1 a2 a3 b0 b1 b2 b3
      obtain ⟨a0, a1, a2, a3⟩ := cc4 (ha9)
      obtain ⟨b0, b1, b2, b3⟩ := cc4 (hb9)
      clear ha9 hb9
      by_cases hlt : k < n
      ·have d1 : decide (k < n) = true := decide_eq_true hlt
       have d2 : decide ((k : Int) < (n : Int)) = true := decide_eq_true (by omega)
       have h1 : k < x.kids_.length := by have := HNA.out; omega
       have h2 : k < b.kids_.length := by have := HNB.out; omega
       have hKL := HKA2.out.under hbr
       have hKR := HKB2.out.under hbr
       obtain ⟨ba, cura, hpa, hha, _, hca⟩ := hKL.1 k h1
       have ea0 := hca.c0
       have ea1 := hca.c1
       have ea2 := hca.c2
       have ea3 := hca.c3
       obtain ⟨bb, curb, hpb, hhb, _, hcb⟩ := hKR.1 k h2
       have eb0 := hcb.c0
       have eb1 := hcb.c1
       have eb2 := hcb.c2
       have eb3 := hcb.c3
       subst hpa
       subst hpb
       have hab : ba < wr.heap.size := lt_of_block hha
       have hbb : bb < wr.heap.size := lt_of_block hhb
       obtain ⟨xa, hxa⟩ : ∃ y, x.kids_[k] = y := ⟨_, rfl⟩
       obtain ⟨xb, hxb⟩ : ∃ y, b.kids_[k] = y := ⟨_, rfl⟩
       obtain ⟨qa, hqa⟩ : ∃ y, Q k = y := ⟨_, rfl⟩
       obtain ⟨qc, hqb⟩ : ∃ y, Q' k = y := ⟨_, rfl⟩
       have hlb := hKR.2 k h2
       have hta := HIH.out k h1
       rw [hxa, hqa] at hta
       rw [hxb, hqb] at hlb
       rw [hxa] at ea0 ea1 ea2
       rw [hxa, hqa] at ea3
       rw [hxb] at eb0 eb1 eb2
       rw [hxb, hqb] at eb3
       have HSA : Hid (sameL x.kids_[k] b.kids_[k] = sameL xa xb) := Lib.hid (by rw [hxa, hxb])
       have hW : ∀ W', Below wr.heap.size wr W' → Calls Try.prog 9 #[ltV xa qa, ltV xb qc] W' fun e w' => e = .returned (.bool (sameL xa xb)) ∧ Below wr.heap.size wr w' := fun W' hW => (hta W' _ _ _ (HBW.out.trans ((hbr.trans (hW.mono hbr.size)).mono HBW.out.size)) (hlb.under hW)).mono (fun e w' ⟨he, hb⟩ => ⟨he, hW.trans (hb.mono hW.size)⟩)
       obtain ⟨v, hv⟩ : ∃ v, sameL xa xb = v := ⟨_, rfl⟩
       rw [hv] at hW
       have HW := Lib.hid hW
       have HV := Lib.hid hv
       have g0 : (0 : Int) ≤ (k : Int) := by omega
       have g1 : (k : Int) < (n : Int) := by omega
       clear hW hv hta hlb hxa hxb hqa hqb hca hcb hha hhb hKL hKR
       unfold ltV at HW
       go_upto_region 6 with fail
       cases v with
       | true =>
        go_region_law (first | (go_simp; go_at_call 9; (with_reducible refine (HW.out _ bel).mono ?_); rintro e w3 ⟨rfl, hb3⟩; have HB3 := Lib.hid hb3; clear hb3))
        all_goals
         go_wp2_with fail
         go_roundw
         case rel =>
          refine ⟨k + 1, by go_num, hlt, HB.out.trans (HB3.out.mono HB.out.size), fun j h3 h4 hj => ?_⟩
          rcases Nat.lt_or_ge j k with q9 | q9
          ·exact HALL.out j h3 h4 q9
          ·obtain rfl : j = k := by omega
           rw [HSA.out, HV.out]
         case measure => simp [intOf]; omega
       | false =>
        go_region_law (first | (go_simp; go_at_call 9; (with_reducible refine (HW.out _ bel).mono ?_); rintro e w3 ⟨rfl, hb3⟩; have HB3 := Lib.hid hb3; clear hb3))
        all_goals
         go_wp2_with fail
         go_ret
         have hs9 := sameLs_no x.kids_ b.kids_ k h1 h2 (by rw [HSA.out, HV.out])
         exact ⟨ret_bool (by first | (simp [hs9]; done) | simp_all), HBW.out.trans ((HB.out.trans (HB3.out.mono HB.out.size)).mono HBW.out.size)⟩
      ·have hkn : k = n := by omega
       have d1 : decide (k < n) = false := decide_eq_false hlt
       have d2 : decide ((k : Int) < (n : Int)) = false := decide_eq_false (by omega)
       clear hlt
       subst hkn
       go_wp2_with fail
       go_ret
       have hs9 := sameLs_yes x.kids_ b.kids_ (by have := HNA.out; have := HNB.out; omega) (fun j h1 h2 => HALL.out j h1 h2 (by have := HNA.out; omega))
       have ht9 := HTL.out
       exact ⟨ret_bool (by first | (simp [hs9, ht9]; done) | simp_all), HBW.out.trans (HB.out.mono HBW.out.size)⟩
    ·have HV : Hid (sameLs x.kids_ b.kids_ = false) := Lib.hid (sameLs_len _ _ (by have := HNA.out; have := HNB.out; omega))
     have d1 : (na == nb) = false := by simpa using e4
     have d2 : ((na : Int) == (nb : Int)) = false := by simp; omega
     have d3 : decide ((na : Int) = (nb : Int)) = false := decide_eq_false (by omega)
     rw [HV.out]
     go_enter Try.func9, Try.ntmps9
     go_wp2_with fail
     go_ret
     exact ⟨ret_bool (by first | (simp; done) | simp_all), bel⟩
   ·have d3 : (ma == mb) = false := by simpa using e3
    go_enter Try.func9, Try.ntmps9
    go_wp2_with fail
    go_ret
    exact ⟨ret_bool (by first | (simp; done) | simp_all), bel⟩
  | false =>
   go_enter Try.func9, Try.ntmps9
   go_wp2_with fail
   go_ret
   exact ⟨ret_bool (by first | (simp; done) | simp_all), bel⟩
 ·have d1 : (ka == kb) = false := by simpa using e1
  go_enter Try.func9, Try.ntmps9
  go_wp2_with fail
  go_ret
  exact ⟨ret_bool (by first | (simp; done) | simp_all), bel⟩
end Go.Proofs.Ytnojndgmgkgnpaa
