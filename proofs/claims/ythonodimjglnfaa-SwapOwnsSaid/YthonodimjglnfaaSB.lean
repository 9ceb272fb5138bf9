/- Chapter 04: who may become another; the closures. -/
import Derived.Test.YthonodimjglnfaaSA
import Derived.Test.YthonodimjglnfaaHK4
import Derived.Test.YthonodimjglnfaaHM1
import Derived.Deep.RegionLaw
namespace Go.Proofs.Ythonodimjglnfaa
open Go.ChangeShapes Go.WideShapes Go.ChangeAt Go.RowKit Go.Deep Go.Joins Go.Maps
set_option linter.unusedVariables false
set_option linter.unusedSimpArgs false
set_option maxRecDepth 100000 in
set_option maxHeartbeats 16000000 in
theorem apart_any {w : World} {s bw bm : Nat} {m : Hp} (h : PM w s bw bm m) {A : Option Addr} {l : List Int} {n c : Nat} (hA : Nums w A l) (hn : l.length = n) (hlI : ∀ x, x ∈ l → InI x) (hln : n ≤ 1000000) :
    Calls Try.prog 46 #[.pointer (some ⟨s, 0, none⟩), .slice A n c] w fun e w' => e = .returned (.bool (keepOk m.L l)) ∧ Below w.heap.size w w' := by
  have H := Lib.hid h
  have HA := Lib.hid hA
  have HLI := Lib.hid hlI
  have HN := Lib.hid hn
  have hmm := @run_makeMap Try.prog
  clear h hA hlI hn
  go_enter Try.func46, Try.ntmps46
  go_upto_region 2 with fail
  obtain ⟨w5, hw5⟩ : ∃ w5, (w.alloc (.map #[] 0)) = w5 := ⟨_, rfl⟩
  have hb5 : Below w.heap.size w w5 := by rw [← hw5]; exact (Below.refl _ _).alloc (Nat.le_refl _) _
  have hmp5 : BoolMap w5 w.heap.size 0 (fun _ => false) := by rw [← hw5]; exact BoolMap.made w
  rw [hw5]
  have HB5 := Lib.hid hb5
  have HMP5 := Lib.hid (hmp5.congr (g := fun a => (l.take 0).contains a) (fun a => rfl))
  clear hmm hw5 hb5 hmp5
  go_wp2_with fail
  go_loopw [11] (fun i wr => ∃ k : Nat, k ≤ n ∧ i = .int .i64 k ∧ distinct (l.take k) = true ∧ (l.take k).all (isV m.L) = true ∧ Below w.heap.size w wr ∧ BoolMap wr w.heap.size k (fun a => (l.take k).contains a)) (fun i _ => n - (intOf i).toNat)
  case atStart => exact ⟨0, Nat.zero_le _, rfl, rfl, rfl, HB5.out, HMP5.out⟩
  case round =>
    obtain ⟨k, hk, rfl, hdis, hall, hbw, hmp⟩ := hrel
    have HDIS := Lib.hid hdis
    have HALL := Lib.hid hall
    have HBW := Lib.hid hbw
    have HMP := Lib.hid hmp
    clear hdis hall hbw hmp HB5 HMP5
    by_cases hlt : k < n
    · have d0 : decide (k < n) = true := decide_eq_true hlt
      have hkl : k < l.length := by rw [HN.out]; exact hlt
      obtain ⟨ga, offa, rfl, hgl, hca⟩ := (HA.out.below HBW.out) k hkl
      obtain ⟨x, hx⟩ : ∃ x, l[k] = x := ⟨_, rfl⟩
      have hxI : InI x := by rw [← hx]; exact HLI.out _ (List.getElem_mem hkl)
      have HX := Lib.hid hx
      rw [hx] at hca
      have g0 : (0 : Int) ≤ (k : Int) := by omega
      have g1 : (k : Int) < (n : Int) := by omega
      have his := is_any (H.out.below HBW.out) x
      cases hv : isV m.L x
      · rw [hv] at his
        have HIS := Lib.hid his
        have HV : Hid (keepOk m.L l = false) := Lib.hid (by unfold keepOk; rw [all_take_no hkl (by rw [hx]; exact hv)]; rfl)
        clear his hv hx
        go_wp2_with (go_at_call 41; (with_reducible refine HIS.out.mono ?_); rintro e w6 ⟨rfl, n6, rfl⟩)
        go_ret
        exact ⟨ret_bool HV.out.symm, below_drewN HBW.out _⟩
      · rw [hv] at his
        have HIS := Lib.hid his
        have HVX := Lib.hid hv
        by_cases hin : x ∈ l.take k
        · have hlk : ∀ d, (Instr.lookup 69 (.map (some w.heap.size)) (.int .i64 x) false).run Try.prog (wr.drewN d) = .ok (.bool true) (wr.drewN d) := fun d => by
            have := (show BoolMap (wr.drewN d) w.heap.size k (fun a => (l.take k).contains a) from HMP.out.same rfl).look hxI
            rw [List.contains_iff_mem.2 hin] at this; exact this
          have HV : Hid (keepOk m.L l = false) := Lib.hid (by unfold keepOk; rw [distinct_take_no hkl (by rw [hx]; exact hin)]; simp)
          clear his hv hx hin
          go_wp2_with (go_at_call 41; (with_reducible refine HIS.out.mono ?_); rintro e w6 ⟨rfl, n6, rfl⟩)
          go_ret
          exact ⟨ret_bool HV.out.symm, below_drewN HBW.out _⟩
        · have hlk : ∀ d, (Instr.lookup 69 (.map (some w.heap.size)) (.int .i64 x) false).run Try.prog (wr.drewN d) = .ok (.bool false) (wr.drewN d) := fun d => by
            have := (show BoolMap (wr.drewN d) w.heap.size k (fun a => (l.take k).contains a) from HMP.out.same rfl).look hxI
            rw [show (l.take k).contains x = false by simpa using hin] at this; exact this
          have HIN := Lib.hid hin
          have HXI := Lib.hid hxI
          have hkm : k < maxLen := by unfold maxLen; omega
          have HKM := Lib.hid hkm
          clear his hv hx hin hxI hkm
          go_wp2_with (first | (go_at_call 41; (with_reducible refine HIS.out.mono ?_); rintro e w6 ⟨rfl, n6, rfl⟩) | (at_mapUpdate; refine wpList_putBool _ rfl _ _ _ rfl rfl (show BoolMap (World.drewN _ _) w.heap.size k (fun a => (l.take k).contains a) from HMP.out.same rfl) HKM.out rfl rfl HXI.out ?_; intro w7 hm7 hg7))
          go_roundw
          case rel =>
            have hz := HBW.out.size
            refine ⟨k + 1, by omega, by go_num, distinct_take_succ hkl (by rw [HX.out]; exact HIN.out) HDIS.out, all_take_succ hkl (by rw [HX.out]; exact HVX.out) HALL.out, ?_, ?_⟩
            · exact ⟨hg7.os.trans HBW.out.os, hg7.tape.trans HBW.out.tape, hg7.output.trans HBW.out.output, Nat.le_trans hz hg7.size, fun j hj => (hg7.block j (Nat.lt_of_lt_of_le hj hz) (fun e => by cases e; omega)).trans (HBW.out.block j hj)⟩
            · refine hm7.congr (fun a => ?_)
              rw [contains_take hkl, HX.out]
          case measure => simp [intOf]; omega
    · have hkn : k = n := by omega
      have d0 : decide (k < n) = false := decide_eq_false hlt
      clear hlt
      subst hkn
      have HKEEP : Hid (keepOk m.L l = true) := Lib.hid (by
        have hdis : distinct l = true := by have := HDIS.out; rw [← HN.out, List.take_length] at this; exact this
        have hall : l.all (isV m.L) = true := by have := HALL.out; rw [← HN.out, List.take_length] at this; exact this
        unfold keepOk; rw [hdis, hall]; rfl)
      go_wp2_with fail
      go_ret
      exact ⟨ret_bool HKEEP.out.symm, HBW.out⟩
/-- a closure that tells p, and only reads -/
def Tells (f : Nat) (caps : List Value) (p : Int → Bool) (w : World) : Prop := ∀ (d : Nat) (a : Int), Calls Try.prog f (Value.int .i64 a :: caps).toArray (w.drewN d) fun e w' => e = .returned (.bool (p a)) ∧ ∃ n, w' = (w.drewN d).drewN n
theorem any_take_succ {l : List Int} {p : Int → Bool} {k : Nat} (hk : k < l.length) (h : p l[k] = false) (ha : (l.take k).any p = false) : (l.take (k + 1)).any p = false := by
  rw [List.take_succ_eq_append_getElem hk, List.any_append, ha]; simp [h]
set_option maxRecDepth 100000 in
set_option maxHeartbeats 16000000 in
theorem may1_tells {w : World} {s bw bm : Nat} {m : Hp} (h : PM w s bw bm m) (mb : Nat) (hmb : w.cell? ⟨mb, 0, none⟩ = some (.pointer (some ⟨s, 0, none⟩))) : Tells 67 [.pointer (some ⟨mb, 0, none⟩)] (fun a => !mayV m.L a) w := fun d a => by
  have hm := may_any (h.drewN d) a
  have hc : (w.drewN d).cell? ⟨mb, 0, none⟩ = some (.pointer (some ⟨s, 0, none⟩)) := hmb
  obtain ⟨w1, hw1⟩ : ∃ w1, w.drewN d = w1 := ⟨_, rfl⟩
  rw [hw1] at hm hc ⊢
  show Calls Try.prog 67 #[.int .i64 a, .pointer (some ⟨mb, 0, none⟩)] w1 _
  obtain ⟨b, hb⟩ : ∃ b, mayV m.L a = b := ⟨_, rfl⟩
  rw [hb] at hm
  have HMM := Lib.hid hm
  have HB : Hid ((!mayV m.L a) = !b) := Lib.hid (by rw [hb])
  clear hm hb h hw1 hmb
  go_enter Try.func67, Try.ntmps67
  go_wp2_with (go_at_call 62; (with_reducible refine HMM.out.mono ?_); rintro e w6 ⟨rfl, n6, rfl⟩)
  go_ret
  exact ⟨ret_bool HB.out.symm, _, rfl⟩
set_option maxRecDepth 100000 in
set_option maxHeartbeats 16000000 in
theorem index_may1 {w : World} {mb : Nat} {p : Int → Bool} (ht : Tells 67 [.pointer (some ⟨mb, 0, none⟩)] p w) {A : Option Addr} {l : List Int} {n c : Nat} (hl : Nums w A l) (hn : l.length = n) (hll : n ≤ 1000000000) : Calls Try.prog 71 #[.slice A n c, .func (.func 67) #[] #[.pointer (some ⟨mb, 0, none⟩)]] w fun e w' => (∃ r : Int, e = .returned (.int .i64 r) ∧ decide (0 ≤ r) = l.any p) ∧ ∃ n, w' = w.drewN n := by
  have HT := Lib.hid ht
  have HL := Lib.hid hl
  have HN := Lib.hid hn
  clear ht hl hn
  go_enter Try.func71, Try.ntmps71
  go_wp2_with fail
  go_loopw [8] (fun i wr => ∃ k : Nat, k ≤ n ∧ i = .int .i64 k ∧ (l.take k).any p = false ∧ ∃ d, wr = w.drewN d) (fun i _ => n - (intOf i).toNat)
  case atStart => exact ⟨0, Nat.zero_le _, rfl, rfl, 0, rfl⟩
  case round =>
    obtain ⟨k, hk, rfl, hall, d, rfl⟩ := hrel
    have HALL := Lib.hid hall
    clear hall
    by_cases hlt : k < n
    · have d1 : decide (k < n) = true := decide_eq_true hlt
      have hkl : k < l.length := by rw [HN.out]; exact hlt
      obtain ⟨g, off, rfl, hgl, hc⟩ := HL.out k hkl
      obtain ⟨a, ha⟩ : ∃ a, l[k] = a := ⟨_, rfl⟩
      have HA := Lib.hid ha
      rw [ha] at hc
      have hod : Calls Try.prog 67 #[.int .i64 a, .pointer (some ⟨mb, 0, none⟩)] (w.drewN d) fun e w' => e = .returned (.bool (p a)) ∧ ∃ n, w' = (w.drewN d).drewN n := HT.out d a
      have g0 : (0 : Int) ≤ (k : Int) := by omega
      have g1 : (k : Int) < (n : Int) := by omega
      clear ha
      cases hv : p a
      · have HOD := Lib.hid hod
        have HV := Lib.hid hv
        clear hod hv
        go_wp2_with (go_at_call 67; (with_reducible refine HOD.out.mono ?_); rw [HV.out]; rintro e w1 ⟨rfl, n1, rfl⟩)
        go_roundw
        case rel => exact ⟨k + 1, by omega, by go_num, any_take_succ hkl (by rw [HA.out]; exact HV.out) HALL.out, _, rfl⟩
        case measure => simp [intOf]; omega
      · have HOD := Lib.hid hod
        have HV := Lib.hid hv
        clear hod hv
        go_wp2_with (go_at_call 67; (with_reducible refine HOD.out.mono ?_); rw [HV.out]; rintro e w1 ⟨rfl, n1, rfl⟩)
        go_ret
        refine ⟨⟨_, rfl, ?_⟩, _, rfl⟩
        have hf : l.any p = true := List.any_eq_true.2 ⟨a, by rw [← HA.out]; exact List.getElem_mem hkl, HV.out⟩
        rw [hf]
        exact decide_eq_true (by omega)
    · have hkn : k = n := by omega
      have d1 : decide (k < n) = false := decide_eq_false hlt
      clear hlt
      subst hkn
      go_wp2_with fail
      go_ret
      refine ⟨⟨_, rfl, ?_⟩, _, rfl⟩
      have := HALL.out
      rw [← HN.out, List.take_length] at this
      rw [this]; rfl
theorem contains_may1 {w : World} {mb : Nat} {p : Int → Bool} (ht : Tells 67 [.pointer (some ⟨mb, 0, none⟩)] p w) {A : Option Addr} {l : List Int} {n c : Nat} (hl : Nums w A l) (hn : l.length = n) (hll : n ≤ 1000000000) : Calls Try.prog 49 #[.slice A n c, .func (.func 67) #[] #[.pointer (some ⟨mb, 0, none⟩)]] w fun e w' => e = .returned (.bool (l.any p)) ∧ ∃ n, w' = w.drewN n := by
  have hx := index_may1 (c := c) ht hl hn hll
  obtain ⟨b, hb⟩ : ∃ b, l.any p = b := ⟨_, rfl⟩
  have HX := Lib.hid hx
  have HB := Lib.hid hb
  rw [hb]
  clear hx hb ht hl hn
  go_enter Try.func49, Try.ntmps49
  go_wp2_with (go_at_call 71; (with_reducible refine HX.out.mono ?_); rintro e w1 ⟨⟨r, rfl, hr⟩, n1, rfl⟩; rw [HB.out] at hr; have HR := Lib.hid hr; clear hr)
  go_ret
  exact ⟨ret_bool HR.out, _, rfl⟩
set_option maxRecDepth 100000 in
set_option maxHeartbeats 16000000 in
theorem one1_tells {w : World} {s bw bm : Nat} {m : Hp} (h : PM w s bw bm m) (mb fb : Nat) (hmb : w.cell? ⟨mb, 0, none⟩ = some (.pointer (some ⟨s, 0, none⟩))) {B : Option Addr} {fr : List Int} {k d : Nat} (hfb : w.cell? ⟨fb, 0, none⟩ = some (.slice B k d)) (hB : Nums w B fr) (hk : fr.length = k) (hkl : k ≤ 1000000000) : Tells 50 [.pointer (some ⟨mb, 0, none⟩), .pointer (some ⟨fb, 0, none⟩)] (fun a => !isV m.L a || fr.contains a) w := fun dd a => by
  have hm := is_any (h.drewN dd) a
  have hc : (w.drewN dd).cell? ⟨mb, 0, none⟩ = some (.pointer (some ⟨s, 0, none⟩)) := hmb
  have hc2 : (w.drewN dd).cell? ⟨fb, 0, none⟩ = some (.slice B k d) := hfb
  have hB1 : Nums (w.drewN dd) B fr := hB.drewN dd
  obtain ⟨w1, hw1⟩ : ∃ w1, w.drewN dd = w1 := ⟨_, rfl⟩
  rw [hw1] at hm hc hc2 hB1 ⊢
  show Calls Try.prog 50 #[.int .i64 a, .pointer (some ⟨mb, 0, none⟩), .pointer (some ⟨fb, 0, none⟩)] w1 _
  have HBN := Lib.hid hB1
  have HK := Lib.hid hk
  cases hb : isV m.L a
  · rw [hb] at hm
    have HMM := Lib.hid hm
    have HB : Hid ((!isV m.L a || fr.contains a) = true) := Lib.hid (by rw [hb]; rfl)
    clear hm hb h hw1 hmb hfb hB hB1 hk
    go_enter Try.func50, Try.ntmps50
    go_wp2_with (go_at_call 41; (with_reducible refine HMM.out.mono ?_); rintro e w6 ⟨rfl, n6, rfl⟩)
    go_ret
    exact ⟨ret_bool HB.out.symm, _, rfl⟩
  · rw [hb] at hm
    have HMM := Lib.hid hm
    obtain ⟨q, hq⟩ : ∃ q, fr.contains a = q := ⟨_, rfl⟩
    have HQ := Lib.hid hq
    have HB : Hid ((!isV m.L a || fr.contains a) = q) := Lib.hid (by rw [hb, hq]; rfl)
    clear hm hb h hw1 hmb hfb hB hB1 hk hq
    go_enter Try.func50, Try.ntmps50
    go_wp2_with (first | (go_at_call 41; (with_reducible refine HMM.out.mono ?_); rintro e w6 ⟨rfl, n6, rfl⟩) | (go_at_call 51; (with_reducible refine (has_any (HBN.out.drewN _) HK.out hkl a).mono ?_); rw [HQ.out]; rintro e w7 ⟨rfl, hw7⟩; replace hw7 := hw7.symm; subst hw7))
    go_ret
    exact ⟨ret_bool HB.out.symm, _, rfl⟩
set_option maxRecDepth 100000 in
set_option maxHeartbeats 16000000 in
theorem index_one1 {w : World} {mb fb : Nat} {p : Int → Bool} (ht : Tells 50 [.pointer (some ⟨mb, 0, none⟩), .pointer (some ⟨fb, 0, none⟩)] p w) {A : Option Addr} {l : List Int} {n c : Nat} (hl : Nums w A l) (hn : l.length = n) (hll : n ≤ 1000000000) : Calls Try.prog 71 #[.slice A n c, .func (.func 50) #[] #[.pointer (some ⟨mb, 0, none⟩), .pointer (some ⟨fb, 0, none⟩)]] w fun e w' => (∃ r : Int, e = .returned (.int .i64 r) ∧ decide (0 ≤ r) = l.any p) ∧ ∃ n, w' = w.drewN n := by
  have HT := Lib.hid ht
  have HL := Lib.hid hl
  have HN := Lib.hid hn
  clear ht hl hn
  go_enter Try.func71, Try.ntmps71
  go_wp2_with fail
  go_loopw [8] (fun i wr => ∃ k : Nat, k ≤ n ∧ i = .int .i64 k ∧ (l.take k).any p = false ∧ ∃ d, wr = w.drewN d) (fun i _ => n - (intOf i).toNat)
  case atStart => exact ⟨0, Nat.zero_le _, rfl, rfl, 0, rfl⟩
  case round =>
    obtain ⟨k, hk, rfl, hall, d, rfl⟩ := hrel
    have HALL := Lib.hid hall
    clear hall
    by_cases hlt : k < n
    · have d1 : decide (k < n) = true := decide_eq_true hlt
      have hkl : k < l.length := by rw [HN.out]; exact hlt
      obtain ⟨g, off, rfl, hgl, hc⟩ := HL.out k hkl
      obtain ⟨a, ha⟩ : ∃ a, l[k] = a := ⟨_, rfl⟩
      have HA := Lib.hid ha
      rw [ha] at hc
      have hod : Calls Try.prog 50 #[.int .i64 a, .pointer (some ⟨mb, 0, none⟩), .pointer (some ⟨fb, 0, none⟩)] (w.drewN d) fun e w' => e = .returned (.bool (p a)) ∧ ∃ n, w' = (w.drewN d).drewN n := HT.out d a
      have g0 : (0 : Int) ≤ (k : Int) := by omega
      have g1 : (k : Int) < (n : Int) := by omega
      clear ha
      cases hv : p a
      · have HOD := Lib.hid hod
        have HV := Lib.hid hv
        clear hod hv
        go_wp2_with (go_at_call 50; (with_reducible refine HOD.out.mono ?_); rw [HV.out]; rintro e w1 ⟨rfl, n1, rfl⟩)
        go_roundw
        case rel => exact ⟨k + 1, by omega, by go_num, any_take_succ hkl (by rw [HA.out]; exact HV.out) HALL.out, _, rfl⟩
        case measure => simp [intOf]; omega
      · have HOD := Lib.hid hod
        have HV := Lib.hid hv
        clear hod hv
        go_wp2_with (go_at_call 50; (with_reducible refine HOD.out.mono ?_); rw [HV.out]; rintro e w1 ⟨rfl, n1, rfl⟩)
        go_ret
        refine ⟨⟨_, rfl, ?_⟩, _, rfl⟩
        have hf : l.any p = true := List.any_eq_true.2 ⟨a, by rw [← HA.out]; exact List.getElem_mem hkl, HV.out⟩
        rw [hf]
        exact decide_eq_true (by omega)
    · have hkn : k = n := by omega
      have d1 : decide (k < n) = false := decide_eq_false hlt
      clear hlt
      subst hkn
      go_wp2_with fail
      go_ret
      refine ⟨⟨_, rfl, ?_⟩, _, rfl⟩
      have := HALL.out
      rw [← HN.out, List.take_length] at this
      rw [this]; rfl
theorem contains_one1 {w : World} {mb fb : Nat} {p : Int → Bool} (ht : Tells 50 [.pointer (some ⟨mb, 0, none⟩), .pointer (some ⟨fb, 0, none⟩)] p w) {A : Option Addr} {l : List Int} {n c : Nat} (hl : Nums w A l) (hn : l.length = n) (hll : n ≤ 1000000000) : Calls Try.prog 49 #[.slice A n c, .func (.func 50) #[] #[.pointer (some ⟨mb, 0, none⟩), .pointer (some ⟨fb, 0, none⟩)]] w fun e w' => e = .returned (.bool (l.any p)) ∧ ∃ n, w' = w.drewN n := by
  have hx := index_one1 (c := c) ht hl hn hll
  obtain ⟨b, hb⟩ : ∃ b, l.any p = b := ⟨_, rfl⟩
  have HX := Lib.hid hx
  have HB := Lib.hid hb
  rw [hb]
  clear hx hb ht hl hn
  go_enter Try.func49, Try.ntmps49
  go_wp2_with (go_at_call 71; (with_reducible refine HX.out.mono ?_); rintro e w1 ⟨⟨r, rfl, hr⟩, n1, rfl⟩; rw [HB.out] at hr; have HR := Lib.hid hr; clear hr)
  go_ret
  exact ⟨ret_bool HR.out, _, rfl⟩
end Go.Proofs.Ythonodimjglnfaa
