/- Chapter 05: any that may not be. -/
import Derived.Test.YtfinpgkehjbcpaaIF
import Derived.Deep.RegionLaw
namespace Go.Proofs.Ytfinpgkehjbcpaa
open Go.ChangeShapes Go.WideShapes Go.ChangeAt Go.RowKit Go.Deep Go.Joins Go.Maps
set_option linter.unusedVariables false
set_option linter.unusedSimpArgs false
/-- a closure that tells p, and only reads -/
def Tells (f : Nat) (caps : List Value) (p : Int → Bool) (w : World) : Prop := ∀ (d : Nat) (a : Int), Calls Try.prog f (Value.int .i64 a :: caps).toArray (w.drewN d) fun e w' => e = .returned (.bool (p a)) ∧ ∃ n, w' = (w.drewN d).drewN n
theorem any_take_succ {l : List Int} {p : Int → Bool} {k : Nat} (hk : k < l.length) (h : p l[k] = false) (ha : (l.take k).any p = false) : (l.take (k + 1)).any p = false := by
  rw [List.take_succ_eq_append_getElem hk, List.any_append, ha]; simp [h]
set_option maxRecDepth 100000 in
set_option maxHeartbeats 16000000 in
theorem may1_tells {w : World} {s bw bm : Nat} {m : Hp} (h : PM w s bw bm m) (mb : Nat) (hmb : w.cell? ⟨mb, 0, none⟩ = some (.pointer (some ⟨s, 0, none⟩))) : Tells 34 [.pointer (some ⟨mb, 0, none⟩)] (fun a => !mayV m.L a) w := fun d a => by
  have hm := may_any (h.drewN d) a
  have hc : (w.drewN d).cell? ⟨mb, 0, none⟩ = some (.pointer (some ⟨s, 0, none⟩)) := hmb
  obtain ⟨w1, hw1⟩ : ∃ w1, w.drewN d = w1 := ⟨_, rfl⟩
  rw [hw1] at hm hc ⊢
  show Calls Try.prog 34 #[.int .i64 a, .pointer (some ⟨mb, 0, none⟩)] w1 _
  obtain ⟨b, hb⟩ : ∃ b, mayV m.L a = b := ⟨_, rfl⟩
  rw [hb] at hm
  have HMM := Lib.hid hm
  have HB : Hid ((!mayV m.L a) = !b) := Lib.hid (by rw [hb])
  clear hm hb h hw1 hmb
  go_enter Try.func34, Try.ntmps34
  go_wp2_with (go_at_call 35; (with_reducible refine HMM.out.mono ?_); rintro e w6 ⟨rfl, n6, rfl⟩)
  go_ret
  exact ⟨ret_bool HB.out.symm, _, rfl⟩
set_option maxRecDepth 100000 in
set_option maxHeartbeats 16000000 in
theorem index_may1 {w : World} {mb : Nat} {p : Int → Bool} (ht : Tells 34 [.pointer (some ⟨mb, 0, none⟩)] p w) {A : Option Addr} {l : List Int} {n c : Nat} (hl : Nums w A l) (hn : l.length = n) (hll : n ≤ 1000000000) : Calls Try.prog 68 #[.slice A n c, .func (.func 34) #[] #[.pointer (some ⟨mb, 0, none⟩)]] w fun e w' => (∃ r : Int, e = .returned (.int .i64 r) ∧ decide (0 ≤ r) = l.any p) ∧ ∃ n, w' = w.drewN n := by
  have HT := Lib.hid ht
  have HL := Lib.hid hl
  have HN := Lib.hid hn
  clear ht hl hn
  go_enter Try.func68, Try.ntmps68
  go_wp2_with fail
  go_loopw [8] (fun i wr => ∃ k : Nat, k ≤ n ∧ i = .int .i64 k ∧ (l.take k).any p = false ∧ ∃ d, wr = w.drewN d) (fun i _ => n - (intOf i).toNat)
  case atStart => exact ⟨0, Nat.zero_le _, rfl, rfl, 0, rfl⟩
  case round =>
    obtain ⟨k, hk, rfl, hall, d, rfl⟩ := hrel
    have HALL := Lib.hid hall
    clear hall
    by_cases hlt : k < n
    · have d1 : decide (k < n) = true := decide_eq_true hlt
      have hkl : k < l.length := by rw [HN.out]; exact hlt
      obtain ⟨g, off, rfl, hgl, hc⟩ := HL.out k hkl
      obtain ⟨a, ha⟩ : ∃ a, l[k] = a := ⟨_, rfl⟩
      have HA := Lib.hid ha
      rw [ha] at hc
      have hod : Calls Try.prog 34 #[.int .i64 a, .pointer (some ⟨mb, 0, none⟩)] (w.drewN d) fun e w' => e = .returned (.bool (p a)) ∧ ∃ n, w' = (w.drewN d).drewN n := HT.out d a
      have g0 : (0 : Int) ≤ (k : Int) := by omega
      have g1 : (k : Int) < (n : Int) := by omega
      clear ha
      cases hv : p a
      · have HOD := Lib.hid hod
        have HV := Lib.hid hv
        clear hod hv
        go_wp2_with (go_at_call 34; (with_reducible refine HOD.out.mono ?_); rw [HV.out]; rintro e w1 ⟨rfl, n1, rfl⟩)
        go_roundw
        case rel => exact ⟨k + 1, by omega, by go_num, any_take_succ hkl (by rw [HA.out]; exact HV.out) HALL.out, _, rfl⟩
        case measure => simp [intOf]; omega
      · have HOD := Lib.hid hod
        have HV := Lib.hid hv
        clear hod hv
        go_wp2_with (go_at_call 34; (with_reducible refine HOD.out.mono ?_); rw [HV.out]; rintro e w1 ⟨rfl, n1, rfl⟩)
        go_ret
        refine ⟨⟨_, rfl, ?_⟩, _, rfl⟩
        have hf : l.any p = true := List.any_eq_true.2 ⟨a, by rw [← HA.out]; exact List.getElem_mem hkl, HV.out⟩
        rw [hf]
        exact decide_eq_true (by omega)
    · have hkn : k = n := by omega
      have d1 : decide (k < n) = false := decide_eq_false hlt
      clear hlt
      subst hkn
      go_wp2_with fail
      go_ret
      refine ⟨⟨_, rfl, ?_⟩, _, rfl⟩
      have := HALL.out
      rw [← HN.out, List.take_length] at this
      rw [this]; rfl
theorem contains_may1 {w : World} {mb : Nat} {p : Int → Bool} (ht : Tells 34 [.pointer (some ⟨mb, 0, none⟩)] p w) {A : Option Addr} {l : List Int} {n c : Nat} (hl : Nums w A l) (hn : l.length = n) (hll : n ≤ 1000000000) : Calls Try.prog 33 #[.slice A n c, .func (.func 34) #[] #[.pointer (some ⟨mb, 0, none⟩)]] w fun e w' => e = .returned (.bool (l.any p)) ∧ ∃ n, w' = w.drewN n := by
  have hx := index_may1 (c := c) ht hl hn hll
  obtain ⟨b, hb⟩ : ∃ b, l.any p = b := ⟨_, rfl⟩
  have HX := Lib.hid hx
  have HB := Lib.hid hb
  rw [hb]
  clear hx hb ht hl hn
  go_enter Try.func33, Try.ntmps33
  go_wp2_with (go_at_call 68; (with_reducible refine HX.out.mono ?_); rintro e w1 ⟨⟨r, rfl, hr⟩, n1, rfl⟩; rw [HB.out] at hr; have HR := Lib.hid hr; clear hr)
  go_ret
  exact ⟨ret_bool HR.out, _, rfl⟩
end Go.Proofs.Ytfinpgkehjbcpaa
