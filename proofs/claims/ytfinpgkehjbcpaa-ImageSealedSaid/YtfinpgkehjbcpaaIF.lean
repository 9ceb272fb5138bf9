/- Chapter 05: an object is written. -/
import Derived.Test.YtfinpgkehjbcpaaID
namespace Go.Proofs.Ytfinpgkehjbcpaa
open Go.ChangeShapes Go.WideShapes Go.ChangeAt Go.RowKit Go.Deep Go.Joins Go.Maps
set_option linter.unusedVariables false
set_option linter.unusedSimpArgs false
section
variable {R R' : Nat → Prop} {s wb mp bw bm : Nat} {zs : List Int} {odd : Bool} {w0 w w1 w2 : World} {m : Hp}
theorem WPost.next (ht : Turns R w0 w1) (hn : ∀ k, R' k → R k ∨ w0.heap.size ≤ k) (k : WPost R' s wb mp zs odd w1 w2) : WPost R s wb mp zs odd w0 w2 := by
  obtain ⟨R2, v2, k1, k2, k3⟩ := k
  refine ⟨R2, v2, k1, ht.trans2 k2 hn, fun j hj => ?_⟩
  rcases k3 j hj with q | q
  · exact hn j q
  · exact .inr (Nat.le_trans ht.size q)
theorem WPost.below (h : WPost R s wb mp zs odd w0 w1) (hb : Below w1.heap.size w1 w2) : WPost R s wb mp zs odd w0 w2 := by
  obtain ⟨R2, v2, k1, k2, k3⟩ := h
  exact ⟨R2, v2, k1.below hb, k2.trans (Turns.of_below hb), k3⟩
theorem WPost.drewN (h : WPost R s wb mp zs odd w0 w1) (n : Nat) : WPost R s wb mp zs odd w0 (w1.drewN n) := h.below (below_drewN (Below.refl _ _) n)
theorem WPost.turns (h : WPost R s wb mp zs odd w0 w1) : Turns R w0 w1 := by obtain ⟨R2, v2, k1, k2, k3⟩ := h; exact k2
theorem WPost.pm (h : WPost R s wb mp zs odd w0 w) (hP : PM w0 s bw bm m) (hd : ∀ k, pset s bw bm k → ¬ R k) : PM w s bw bm m := hP.turns h.turns hd
theorem WPost.pl (h : WPost R s wb mp zs odd w0 w) (hP : Places w0 mp m) (hd : ¬ R mp) : Places w mp m := hP.turns h.turns hd
theorem WPost.c0 (h : WPost R s wb mp zs odd w0 w) : w.cell? ⟨wb, 0, none⟩ = some (.pointer (some ⟨s, 0, none⟩)) := by obtain ⟨R2, v2, k1, k2, k3⟩ := h; exact k1.c0
theorem WPost.blt (h : WPost R s wb mp zs odd w0 w) : wb < w.heap.size := by obtain ⟨R2, v2, k1, k2, k3⟩ := h; exact k1.blt
theorem WPost.cast {zs' : List Int} {odd' : Bool} (h : WPost R s wb mp zs odd w0 w) (e1 : zs = zs') (e2 : odd = odd') : WPost R s wb mp zs' odd' w0 w := by subst e1 e2; exact h
end
theorem wcount_int {w : World} {R : Nat → Prop} {s wb mp : Nat} {v : Value} {zs : List Int} {odd : Bool} (h : WT w R s wb mp v zs odd) (n : Int) (hn : 0 ≤ n ∧ n ≤ 9223372036854775807) (hz : zs.length ≤ 900000000) : Calls Try.prog 37 #[.pointer (some ⟨wb, 0, none⟩), .int .i64 n] w fun e w' => e = .returned (.tuple #[]) ∧ WPost R s wb mp (zs ++ cntV n.toNat) odd w w' := by
  obtain ⟨k, rfl⟩ : ∃ k : Nat, n = k := ⟨n.toNat, by omega⟩
  rw [Int.toNat_natCast]
  exact wcount_any h k (by omega) hz
theorem look_ptr {m : Hp} {k : Nat} (hk : k < m.L.length) : lookO m.L (ptr m.L k) = m.L[k] := by
  unfold lookO; rw [plc_at hk]; simp [List.getD_eq_getElem?_getD, List.getElem?_eq_getElem hk]
theorem flat_take {F : List Int} {f : Int → List Int} {k : Nat} (h : k < F.length) : (F.take (k + 1)).flatMap f = (F.take k).flatMap f ++ f F[k] := by rw [take_snoc h, List.flatMap_append]; simp
theorem any_take {F : List Int} {f : Int → Bool} {k : Nat} (h : k < F.length) : (F.take (k + 1)).any f = ((F.take k).any f || f F[k]) := by rw [take_snoc h, List.any_append]; simp
theorem numB_len (x : Int) : (numB x).length ≤ 9 := by
  unfold numB
  split
  · rename_i h
    have := of_decide_eq_true h
    have := fold_le (n := x) (b := 2305843009213693952) ⟨by omega, by omega⟩
    exact cnt_len9 (by omega)
  · simp
theorem fld_len {L : List Ob} {f x : Int} (hL : L.length ≤ 1000000) (h : f = 0 → mayV L x = true) (hx : -9223372036854775808 ≤ x ∧ x ≤ 9223372036854775807) (hf : f = 0 ∨ f = 1 ∨ f = 2) : (fldB L f x).length ≤ 9 := by
  unfold fldB
  split
  · unfold numB
    split
    · rename_i h1 h2
      have := of_decide_eq_true h2
      have := fold_le (n := x) (b := 2305843009213693952) ⟨by omega, by omega⟩
      exact cnt_len9 (by omega)
    · simp
  · split
    · simp
    · have := codeW_le hL (h (by omega))
      exact cnt_len9 (by omega)
theorem flds_len {L : List Ob} {f : Int} : ∀ (F : List Int) (h : ∀ x, x ∈ F → (fldB L f x).length ≤ 9), (F.flatMap (fldB L f)).length ≤ 9 * F.length
  | [], _ => by simp
  | x :: F, h => by
    have h1 := h x (by simp)
    have h2 := flds_len F (fun y hy => h y (by simp [hy]))
    simp only [List.flatMap_cons, List.length_append, List.length_cons]
    omega
set_option maxRecDepth 100000 in
set_option maxHeartbeats 16000000 in
theorem wobject_any {w : World} {R : Nat → Prop} {s wb mp bw bm : Nat} {v : Value} {zs : List Int} {odd : Bool} {m : Hp} (h : WT w R s wb mp v zs odd) (hP : PM w s bw bm m) (hPl : Places w mp m) (hS : Snd m) (hd : ∀ k, pset s bw bm k → ¬ R k) (hdm : ¬ R mp) (i : Nat) (hi : i < m.L.length) (hz : zs.length ≤ 800000000) : Calls Try.prog 39 #[.pointer (some ⟨wb, 0, none⟩), .int .i64 (ptr m.L i)] w fun e w' => e = .returned (.tuple #[]) ∧ WPost R s wb mp (zs ++ objB m.L m.L[i]) (odd || oddO m.L[i]) w w' := by
  have hG := hP.good
  have hmem : m.L[i] ∈ m.L := List.getElem_mem hi
  have hlook : lookO m.L (ptr m.L i) = m.L[i] := look_ptr hi
  have hvalid : isV m.L (ptr m.L i) = true := isV_iff.2 ⟨i, hi, rfl⟩
  obtain ⟨o, ho⟩ : ∃ o, m.L[i] = o := ⟨_, rfl⟩
  rw [ho] at hmem hlook ⊢
  have hfmt := hG.fmt o hmem
  have hln := hG.len o hmem
  have hwd := hG.word o hmem
  obtain ⟨F, hF⟩ : ∃ F, o.F = F := ⟨_, rfl⟩
  obtain ⟨n, hn⟩ : ∃ n, F.length = n := ⟨_, rfl⟩
  obtain ⟨ha, hha⟩ : ∃ x, o.hash = x := ⟨_, rfl⟩
  obtain ⟨cl, hcl⟩ : ∃ x, o.cls = x := ⟨_, rfl⟩
  rw [hF, hn] at hln
  rw [hha, hcl, hF] at hwd
  have HFL : Hid (((lookO m.L (ptr m.L i)).F.length : Int) = (n : Int)) := Lib.hid (by rw [hlook, hF, hn])
  have HHA : Hid ((lookO m.L (ptr m.L i)).hash = ha) := Lib.hid (by rw [hlook, hha])
  have HCL : Hid ((lookO m.L (ptr m.L i)).cls = cl) := Lib.hid (by rw [hlook, hcl])
  have hcm : mayV m.L cl = true := by
    rcases hS.cls o hmem with q | q
    · rw [← hcl, q]; rfl
    · rw [← hcl]; exact isV_may q
  have HCM := Lib.hid hcm
  have HG := Lib.hid hG
  have HPM := Lib.hid hP
  have HPL := Lib.hid hPl
  have HD := Lib.hid hd
  have HDM := Lib.hid hdm
  have HS : Hid (WPost R s wb mp zs odd w w) := Lib.hid h.post
  have k0 := h.c0
  have HGET : Hid (∀ k, k < n → getV m.L (ptr m.L i) k = (F.getD k 0, 0)) := Lib.hid (fun k hk => by unfold getV; rw [if_pos hvalid, hlook, hF, if_neg (by omega)]; simp)
  have HL1 : Hid ((cntV (n : Int).toNat).length ≤ 9) := Lib.hid (cnt_len9 (by omega))
  have HNUM : Hid (numB ha = cntV (foldV ha) ∧ okI ha = true) := Lib.hid (by
    have : okI ha = true := decide_eq_true (by omega)
    exact ⟨by unfold numB; rw [if_pos this], this⟩)
  have HL2 : Hid ((numB ha).length ≤ 9) := Lib.hid (by rw [HNUM.out.1]; exact cnt_len9 (by have := fold_le (n := ha) (b := 1099511627776) ⟨by omega, by omega⟩; omega))
  have HL3 : Hid ((cntV (codeW m.L cl)).length ≤ 9) := Lib.hid (cnt_len9 (by have := codeW_le (L := m.L) (x := cl) (by have := len_bd hG; omega) hcm; omega))
  unfold objB oddO
  rw [hF, hn, hha, hcl]
  rcases (show o.fmt = 0 ∨ o.fmt = 1 ∨ o.fmt = 2 by omega) with hfm | hfm | hfm
  · skip
    have HL0 : Hid ((cntV (0 : Int).toNat).length ≤ 9) := Lib.hid (cnt_len9 (by decide))
    have HFM : Hid ((lookO m.L (ptr m.L i)).fmt = 0) := Lib.hid (by rw [hlook]; exact hfm)
    have HF1 : Hid (∀ (k : Nat) (x : Int), F[k]? = some x → mayV m.L x = true) := Lib.hid (fun k x hk => (by
      have hxm : x ∈ o.F := by rw [hF]; exact List.mem_of_getElem? hk
      exact hS.wrd _ hmem hfm x hxm))
    have HFB : Hid (∀ x, fldB m.L o.fmt x = cntV (codeW m.L x)) := Lib.hid (fun x => by unfold fldB; rw [hfm]; rfl)
    have HOB : Hid (∀ x, oddF o.fmt x = false) := Lib.hid (fun x => by unfold oddF; rw [hfm]; rfl)
    have hfn : o.fmt.toNat = 0 := by rw [hfm]; rfl
    rw [hfn]
    have HWD := Lib.hid hwd
    have HNE := Lib.hid hn
    have hab := hwd.2.1
    have hab1 := hab.1
    have hab2 := hab.2
    have hi0 : -9223372036854775808 ≤ ptr m.L i ∧ ptr m.L i ≤ 9223372036854775807 := by have := ptr_ge m.L i; have := ptr_le hG hi; omega
    clear hfm hfn hlook hmem hS h hP hPl hd hdm hG ho hfmt hF hn hha hcl hwd hcm hvalid hab
    go_enter Try.func39, Try.ntmps39
    go_upto_region 11 with (first | (go_at_call 57; (with_reducible refine (format_any (HS.out.pm HPM.out HD.out) (ptr m.L i)).mono ?_); rw [HFM.out]; rintro e w2 ⟨rfl, n2, rfl⟩; replace HS := Lib.hid (HS.out.drewN n2); replace k0 := HS.out.c0) | (go_at_call 59; (with_reducible refine (fields_any (HS.out.pm HPM.out HD.out) (ptr m.L i)).mono ?_); rw [HFL.out]; rintro e w2 ⟨rfl, n2, rfl⟩; replace HS := Lib.hid (HS.out.drewN n2); replace k0 := HS.out.c0) | (go_at_call 58; (with_reducible refine (hash_any (HS.out.pm HPM.out HD.out) (ptr m.L i)).mono ?_); rw [HHA.out]; rintro e w2 ⟨rfl, n2, rfl⟩; replace HS := Lib.hid (HS.out.drewN n2); replace k0 := HS.out.c0) | (go_at_call 56; (with_reducible refine (class_any (HS.out.pm HPM.out HD.out) (ptr m.L i)).mono ?_); rw [HCL.out]; rintro e w2 ⟨rfl, n2, rfl⟩; replace HS := Lib.hid (HS.out.drewN n2); replace k0 := HS.out.c0) | (go_at_call 37; obtain ⟨R1, u1, hw1, ht1, hn1⟩ := HS.out; (with_reducible refine (wcount_int hw1 0 ⟨by omega, by omega⟩ (by omega)).mono ?_); rintro e w3 ⟨rfl, hp3⟩; replace HS := Lib.hid (WPost.next ht1 hn1 hp3); replace k0 := HS.out.c0; clear hw1 ht1 hn1 hp3 R1 u1) | (go_at_call 37; obtain ⟨R1, u1, hw1, ht1, hn1⟩ := HS.out; (with_reducible refine (wcount_int hw1 (n : Int) ⟨by omega, by omega⟩ (by have := HL0.out; have := HL1.out; have := HL2.out; have := HL3.out; simp only [List.length_append]; omega)).mono ?_); rintro e w3 ⟨rfl, hp3⟩; replace HS := Lib.hid (WPost.next ht1 hn1 hp3); replace k0 := HS.out.c0; clear hw1 ht1 hn1 hp3 R1 u1) | (go_at_call 74; obtain ⟨R1, u1, hw1, ht1, hn1⟩ := HS.out; (with_reducible refine (wnumber_any hw1 ha (by have := HL0.out; have := HL1.out; have := HL2.out; have := HL3.out; simp only [List.length_append]; omega)).mono ?_); rintro e w3 ⟨rfl, hp3⟩; replace HS := Lib.hid (WPost.next ht1 hn1 hp3); replace k0 := HS.out.c0; clear hw1 ht1 hn1 hp3 R1 u1) | (go_at_call 40; obtain ⟨R1, u1, hw1, ht1, hn1⟩ := HS.out; (with_reducible refine (wword_any hw1 (HS.out.pl HPL.out HDM.out) HG.out cl HCM.out (by have := HL0.out; have := HL1.out; have := HL2.out; have := HL3.out; simp only [List.length_append]; omega)).mono ?_); rintro e w3 ⟨rfl, hp3⟩; replace HS := Lib.hid (WPost.next ht1 hn1 hp3); replace k0 := HS.out.c0; clear hw1 ht1 hn1 hp3 R1 u1))
    obtain ⟨zp, hzp⟩ : ∃ zp, zs ++ cntV (Int.toNat 0) ++ cntV (n : Int).toNat ++ numB ha ++ cntV (codeW m.L cl) = zp := ⟨_, rfl⟩
    rw [hzp] at HS
    have hzl : zp.length ≤ 800000036 := by rw [← hzp]; have := HL0.out; have := HL1.out; have := HL2.out; have := HL3.out; simp only [List.length_append]; omega
    have HZP := Lib.hid hzp
    replace HS := Lib.hid (HS.out.cast rfl (show (odd || !okI ha) = odd by rw [HNUM.out.2]; simp))
    clear hzp k0
    have HS1 := Lib.hid HS.out
    clear HS
    go_loopw [62] (fun j wr => ∃ k : Nat, k ≤ n ∧ j = .int .i64 k ∧ WPost R s wb mp (zp ++ (F.take k).flatMap (fldB m.L o.fmt)) (odd || (F.take k).any (oddF o.fmt)) w wr) (fun j _ => n - (intOf j).toNat)
    case atStart => exact ⟨0, Nat.zero_le _, rfl, by simpa using HS1.out⟩
    case round =>
      obtain ⟨k, hk, rfl, hS2⟩ := hrel
      have HS := Lib.hid hS2
      have k0 := hS2.c0
      clear hS2 HS1
      by_cases hlt : k < n
      · have d1 : decide (k < n) = true := decide_eq_true hlt
        have d2 : decide ((k : Int) < (n : Int)) = true := decide_eq_true (by omega)
        have hkF : k < F.length := by rw [HNE.out]; exact hlt
        obtain ⟨x, hx⟩ : ∃ x, F[k] = x := ⟨_, rfl⟩
        have hgk : F[k]? = some x := by rw [List.getElem?_eq_getElem hkF, hx]
        have HX : Hid ((mayV m.L x = true) ∧ (-9223372036854775808 ≤ x ∧ x ≤ 9223372036854775807)) := Lib.hid ⟨HF1.out k x hgk, HWD.out.2.2 x (by rw [← hx]; exact List.getElem_mem hkF)⟩
        have HGK : Hid (getV m.L (ptr m.L i) k = (x, 0)) := Lib.hid (by rw [HGET.out k hlt, List.getD_eq_getElem?_getD, hgk]; rfl)
        have HKI : Hid (InI (k : Int)) := Lib.hid (show _ ∧ _ by omega)
        have hxi1 := HX.out.2.1
        have hxi2 := HX.out.2.2
        have hfl : ((F.take k).flatMap (fldB m.L o.fmt)).length ≤ 9 * k := by
          have := flds_len (L := m.L) (f := o.fmt) (F.take k) (fun y hy => by
            rw [HFB.out]
            have hyF := List.mem_of_mem_take hy
            obtain ⟨q, hq⟩ := List.mem_iff_getElem?.1 hyF
            have h1 := HF1.out q y hq
            have h2 := HWD.out.2.2 y hyF
            exact cnt_len9 (by have := codeW_le (L := m.L) (x := y) (by have := len_bd HG.out; omega) h1; omega))
          rw [List.length_take] at this
          have : min k F.length ≤ k := Nat.min_le_left _ _
          omega
        have HFS : Hid ((zp ++ (F.take (k + 1)).flatMap (fldB m.L o.fmt)) = (zp ++ (F.take k).flatMap (fldB m.L o.fmt)) ++ cntV (codeW m.L x)) := Lib.hid (by rw [flat_take hkF, hx, HFB.out, List.append_assoc])
        have HFO : Hid ((odd || (F.take (k + 1)).any (oddF o.fmt)) = ((odd || (F.take k).any (oddF o.fmt)) || false)) := Lib.hid (by rw [any_take hkF, hx, HOB.out, Bool.or_assoc])
        obtain ⟨zk, hzk⟩ : ∃ zk, zp ++ (F.take k).flatMap (fldB m.L o.fmt) = zk := ⟨_, rfl⟩
        obtain ⟨ok, hok⟩ : ∃ ok, (odd || (F.take k).any (oddF o.fmt)) = ok := ⟨_, rfl⟩
        have hzkl : zk.length ≤ 810000000 := by rw [← hzk, List.length_append]; omega
        rw [hzk] at HS HFS
        rw [hok] at HS HFO
        clear hx hgk hfl hzk hok hkF
        go_wp2_with (first | (go_at_call 60; (with_reducible refine (get_any (HS.out.pm HPM.out HD.out) (ptr m.L i) k HKI.out).mono ?_); rw [HGK.out]; rintro e w2 ⟨rfl, n2, rfl⟩; replace HS := Lib.hid (HS.out.drewN n2); replace k0 := HS.out.c0) | (go_at_call 40; obtain ⟨R1, u1, hw1, ht1, hn1⟩ := HS.out; (with_reducible refine (wword_any hw1 (HS.out.pl HPL.out HDM.out) HG.out x HX.out.1 (by omega)).mono ?_); rintro e w3 ⟨rfl, hp3⟩; replace HS := Lib.hid (WPost.next ht1 hn1 hp3); replace k0 := HS.out.c0; clear hw1 ht1 hn1 hp3 R1 u1))
        go_roundw
        case rel => exact ⟨k + 1, by omega, by go_num, HS.out.cast HFS.out.symm (by rw [HFO.out]; simp)⟩
        case measure => simp [intOf]; omega
      · have hkn : k = n := by omega
        have d1 : decide (k < n) = false := decide_eq_false hlt
        have d2 : decide ((k : Int) < (n : Int)) = false := decide_eq_false (by omega)
        have HE : Hid (F.take k = F) := Lib.hid (List.take_of_length_le (by rw [HNE.out]; omega))
        clear hkn hlt
        go_wp2_with fail
        go_returns
        exact ⟨rfl, HS.out.cast (by rw [HE.out, ← HZP.out, HNUM.out.1]; simp) (by rw [HE.out])⟩
  · skip
    have HL0 : Hid ((cntV (1 : Int).toNat).length ≤ 9) := Lib.hid (cnt_len9 (by decide))
    have HFM : Hid ((lookO m.L (ptr m.L i)).fmt = 1) := Lib.hid (by rw [hlook]; exact hfm)
    have HF1 : Hid (∀ (k : Nat) (x : Int), F[k]? = some x → True) := Lib.hid (fun k x hk => (by
      have hxm : x ∈ o.F := by rw [hF]; exact List.mem_of_getElem? hk
      exact trivial))
    have HFB : Hid (∀ x, fldB m.L o.fmt x = numB x) := Lib.hid (fun x => by unfold fldB; rw [hfm]; rfl)
    have HOB : Hid (∀ x, oddF o.fmt x = !okI x) := Lib.hid (fun x => by unfold oddF; rw [hfm]; simp)
    have hfn : o.fmt.toNat = 1 := by rw [hfm]; rfl
    rw [hfn]
    have HWD := Lib.hid hwd
    have HNE := Lib.hid hn
    have hab := hwd.2.1
    have hab1 := hab.1
    have hab2 := hab.2
    have hi0 : -9223372036854775808 ≤ ptr m.L i ∧ ptr m.L i ≤ 9223372036854775807 := by have := ptr_ge m.L i; have := ptr_le hG hi; omega
    clear hfm hfn hlook hmem hS h hP hPl hd hdm hG ho hfmt hF hn hha hcl hwd hcm hvalid hab
    go_enter Try.func39, Try.ntmps39
    go_upto_region 11 with (first | (go_at_call 57; (with_reducible refine (format_any (HS.out.pm HPM.out HD.out) (ptr m.L i)).mono ?_); rw [HFM.out]; rintro e w2 ⟨rfl, n2, rfl⟩; replace HS := Lib.hid (HS.out.drewN n2); replace k0 := HS.out.c0) | (go_at_call 59; (with_reducible refine (fields_any (HS.out.pm HPM.out HD.out) (ptr m.L i)).mono ?_); rw [HFL.out]; rintro e w2 ⟨rfl, n2, rfl⟩; replace HS := Lib.hid (HS.out.drewN n2); replace k0 := HS.out.c0) | (go_at_call 58; (with_reducible refine (hash_any (HS.out.pm HPM.out HD.out) (ptr m.L i)).mono ?_); rw [HHA.out]; rintro e w2 ⟨rfl, n2, rfl⟩; replace HS := Lib.hid (HS.out.drewN n2); replace k0 := HS.out.c0) | (go_at_call 56; (with_reducible refine (class_any (HS.out.pm HPM.out HD.out) (ptr m.L i)).mono ?_); rw [HCL.out]; rintro e w2 ⟨rfl, n2, rfl⟩; replace HS := Lib.hid (HS.out.drewN n2); replace k0 := HS.out.c0) | (go_at_call 37; obtain ⟨R1, u1, hw1, ht1, hn1⟩ := HS.out; (with_reducible refine (wcount_int hw1 1 ⟨by omega, by omega⟩ (by omega)).mono ?_); rintro e w3 ⟨rfl, hp3⟩; replace HS := Lib.hid (WPost.next ht1 hn1 hp3); replace k0 := HS.out.c0; clear hw1 ht1 hn1 hp3 R1 u1) | (go_at_call 37; obtain ⟨R1, u1, hw1, ht1, hn1⟩ := HS.out; (with_reducible refine (wcount_int hw1 (n : Int) ⟨by omega, by omega⟩ (by have := HL0.out; have := HL1.out; have := HL2.out; have := HL3.out; simp only [List.length_append]; omega)).mono ?_); rintro e w3 ⟨rfl, hp3⟩; replace HS := Lib.hid (WPost.next ht1 hn1 hp3); replace k0 := HS.out.c0; clear hw1 ht1 hn1 hp3 R1 u1) | (go_at_call 74; obtain ⟨R1, u1, hw1, ht1, hn1⟩ := HS.out; (with_reducible refine (wnumber_any hw1 ha (by have := HL0.out; have := HL1.out; have := HL2.out; have := HL3.out; simp only [List.length_append]; omega)).mono ?_); rintro e w3 ⟨rfl, hp3⟩; replace HS := Lib.hid (WPost.next ht1 hn1 hp3); replace k0 := HS.out.c0; clear hw1 ht1 hn1 hp3 R1 u1) | (go_at_call 40; obtain ⟨R1, u1, hw1, ht1, hn1⟩ := HS.out; (with_reducible refine (wword_any hw1 (HS.out.pl HPL.out HDM.out) HG.out cl HCM.out (by have := HL0.out; have := HL1.out; have := HL2.out; have := HL3.out; simp only [List.length_append]; omega)).mono ?_); rintro e w3 ⟨rfl, hp3⟩; replace HS := Lib.hid (WPost.next ht1 hn1 hp3); replace k0 := HS.out.c0; clear hw1 ht1 hn1 hp3 R1 u1))
    obtain ⟨zp, hzp⟩ : ∃ zp, zs ++ cntV (Int.toNat 1) ++ cntV (n : Int).toNat ++ numB ha ++ cntV (codeW m.L cl) = zp := ⟨_, rfl⟩
    rw [hzp] at HS
    have hzl : zp.length ≤ 800000036 := by rw [← hzp]; have := HL0.out; have := HL1.out; have := HL2.out; have := HL3.out; simp only [List.length_append]; omega
    have HZP := Lib.hid hzp
    replace HS := Lib.hid (HS.out.cast rfl (show (odd || !okI ha) = odd by rw [HNUM.out.2]; simp))
    clear hzp k0
    have HS1 := Lib.hid HS.out
    clear HS
    go_loopw [62] (fun j wr => ∃ k : Nat, k ≤ n ∧ j = .int .i64 k ∧ WPost R s wb mp (zp ++ (F.take k).flatMap (fldB m.L o.fmt)) (odd || (F.take k).any (oddF o.fmt)) w wr) (fun j _ => n - (intOf j).toNat)
    case atStart => exact ⟨0, Nat.zero_le _, rfl, by simpa using HS1.out⟩
    case round =>
      obtain ⟨k, hk, rfl, hS2⟩ := hrel
      have HS := Lib.hid hS2
      have k0 := hS2.c0
      clear hS2 HS1
      by_cases hlt : k < n
      · have d1 : decide (k < n) = true := decide_eq_true hlt
        have d2 : decide ((k : Int) < (n : Int)) = true := decide_eq_true (by omega)
        have hkF : k < F.length := by rw [HNE.out]; exact hlt
        obtain ⟨x, hx⟩ : ∃ x, F[k] = x := ⟨_, rfl⟩
        have hgk : F[k]? = some x := by rw [List.getElem?_eq_getElem hkF, hx]
        have HX : Hid ((True) ∧ (-9223372036854775808 ≤ x ∧ x ≤ 9223372036854775807)) := Lib.hid ⟨HF1.out k x hgk, HWD.out.2.2 x (by rw [← hx]; exact List.getElem_mem hkF)⟩
        have HGK : Hid (getV m.L (ptr m.L i) k = (x, 0)) := Lib.hid (by rw [HGET.out k hlt, List.getD_eq_getElem?_getD, hgk]; rfl)
        have HKI : Hid (InI (k : Int)) := Lib.hid (show _ ∧ _ by omega)
        have hxi1 := HX.out.2.1
        have hxi2 := HX.out.2.2
        have hfl : ((F.take k).flatMap (fldB m.L o.fmt)).length ≤ 9 * k := by
          have := flds_len (L := m.L) (f := o.fmt) (F.take k) (fun y hy => by
            rw [HFB.out]
            have hyF := List.mem_of_mem_take hy
            obtain ⟨q, hq⟩ := List.mem_iff_getElem?.1 hyF
            have h1 := HF1.out q y hq
            have h2 := HWD.out.2.2 y hyF
            exact numB_len y)
          rw [List.length_take] at this
          have : min k F.length ≤ k := Nat.min_le_left _ _
          omega
        have HFS : Hid ((zp ++ (F.take (k + 1)).flatMap (fldB m.L o.fmt)) = (zp ++ (F.take k).flatMap (fldB m.L o.fmt)) ++ numB x) := Lib.hid (by rw [flat_take hkF, hx, HFB.out, List.append_assoc])
        have HFO : Hid ((odd || (F.take (k + 1)).any (oddF o.fmt)) = ((odd || (F.take k).any (oddF o.fmt)) || !okI x)) := Lib.hid (by rw [any_take hkF, hx, HOB.out, Bool.or_assoc])
        obtain ⟨zk, hzk⟩ : ∃ zk, zp ++ (F.take k).flatMap (fldB m.L o.fmt) = zk := ⟨_, rfl⟩
        obtain ⟨ok, hok⟩ : ∃ ok, (odd || (F.take k).any (oddF o.fmt)) = ok := ⟨_, rfl⟩
        have hzkl : zk.length ≤ 810000000 := by rw [← hzk, List.length_append]; omega
        rw [hzk] at HS HFS
        rw [hok] at HS HFO
        clear hx hgk hfl hzk hok hkF
        go_wp2_with (first | (go_at_call 60; (with_reducible refine (get_any (HS.out.pm HPM.out HD.out) (ptr m.L i) k HKI.out).mono ?_); rw [HGK.out]; rintro e w2 ⟨rfl, n2, rfl⟩; replace HS := Lib.hid (HS.out.drewN n2); replace k0 := HS.out.c0) | (go_at_call 74; obtain ⟨R1, u1, hw1, ht1, hn1⟩ := HS.out; (with_reducible refine (wnumber_any hw1 x (by omega)).mono ?_); rintro e w3 ⟨rfl, hp3⟩; replace HS := Lib.hid (WPost.next ht1 hn1 hp3); replace k0 := HS.out.c0; clear hw1 ht1 hn1 hp3 R1 u1))
        go_roundw
        case rel => exact ⟨k + 1, by omega, by go_num, HS.out.cast HFS.out.symm (by rw [HFO.out])⟩
        case measure => simp [intOf]; omega
      · have hkn : k = n := by omega
        have d1 : decide (k < n) = false := decide_eq_false hlt
        have d2 : decide ((k : Int) < (n : Int)) = false := decide_eq_false (by omega)
        have HE : Hid (F.take k = F) := Lib.hid (List.take_of_length_le (by rw [HNE.out]; omega))
        clear hkn hlt
        go_wp2_with fail
        go_returns
        exact ⟨rfl, HS.out.cast (by rw [HE.out, ← HZP.out, HNUM.out.1]; simp) (by rw [HE.out])⟩
  · skip
    have HL0 : Hid ((cntV (2 : Int).toNat).length ≤ 9) := Lib.hid (cnt_len9 (by decide))
    have HFM : Hid ((lookO m.L (ptr m.L i)).fmt = 2) := Lib.hid (by rw [hlook]; exact hfm)
    have HF1 : Hid (∀ (k : Nat) (x : Int), F[k]? = some x → 0 ≤ x ∧ x ≤ 255) := Lib.hid (fun k x hk => (by
      have hxm : x ∈ o.F := by rw [hF]; exact List.mem_of_getElem? hk
      exact hS.byt _ hmem hfm x hxm))
    have HFB : Hid (∀ x, fldB m.L o.fmt x = [x]) := Lib.hid (fun x => by unfold fldB; rw [hfm]; rfl)
    have HOB : Hid (∀ x, oddF o.fmt x = false) := Lib.hid (fun x => by unfold oddF; rw [hfm]; rfl)
    have hfn : o.fmt.toNat = 2 := by rw [hfm]; rfl
    rw [hfn]
    have HWD := Lib.hid hwd
    have HNE := Lib.hid hn
    have hab := hwd.2.1
    have hab1 := hab.1
    have hab2 := hab.2
    have hi0 : -9223372036854775808 ≤ ptr m.L i ∧ ptr m.L i ≤ 9223372036854775807 := by have := ptr_ge m.L i; have := ptr_le hG hi; omega
    clear hfm hfn hlook hmem hS h hP hPl hd hdm hG ho hfmt hF hn hha hcl hwd hcm hvalid hab
    go_enter Try.func39, Try.ntmps39
    go_upto_region 11 with (first | (go_at_call 57; (with_reducible refine (format_any (HS.out.pm HPM.out HD.out) (ptr m.L i)).mono ?_); rw [HFM.out]; rintro e w2 ⟨rfl, n2, rfl⟩; replace HS := Lib.hid (HS.out.drewN n2); replace k0 := HS.out.c0) | (go_at_call 59; (with_reducible refine (fields_any (HS.out.pm HPM.out HD.out) (ptr m.L i)).mono ?_); rw [HFL.out]; rintro e w2 ⟨rfl, n2, rfl⟩; replace HS := Lib.hid (HS.out.drewN n2); replace k0 := HS.out.c0) | (go_at_call 58; (with_reducible refine (hash_any (HS.out.pm HPM.out HD.out) (ptr m.L i)).mono ?_); rw [HHA.out]; rintro e w2 ⟨rfl, n2, rfl⟩; replace HS := Lib.hid (HS.out.drewN n2); replace k0 := HS.out.c0) | (go_at_call 56; (with_reducible refine (class_any (HS.out.pm HPM.out HD.out) (ptr m.L i)).mono ?_); rw [HCL.out]; rintro e w2 ⟨rfl, n2, rfl⟩; replace HS := Lib.hid (HS.out.drewN n2); replace k0 := HS.out.c0) | (go_at_call 37; obtain ⟨R1, u1, hw1, ht1, hn1⟩ := HS.out; (with_reducible refine (wcount_int hw1 2 ⟨by omega, by omega⟩ (by omega)).mono ?_); rintro e w3 ⟨rfl, hp3⟩; replace HS := Lib.hid (WPost.next ht1 hn1 hp3); replace k0 := HS.out.c0; clear hw1 ht1 hn1 hp3 R1 u1) | (go_at_call 37; obtain ⟨R1, u1, hw1, ht1, hn1⟩ := HS.out; (with_reducible refine (wcount_int hw1 (n : Int) ⟨by omega, by omega⟩ (by have := HL0.out; have := HL1.out; have := HL2.out; have := HL3.out; simp only [List.length_append]; omega)).mono ?_); rintro e w3 ⟨rfl, hp3⟩; replace HS := Lib.hid (WPost.next ht1 hn1 hp3); replace k0 := HS.out.c0; clear hw1 ht1 hn1 hp3 R1 u1) | (go_at_call 74; obtain ⟨R1, u1, hw1, ht1, hn1⟩ := HS.out; (with_reducible refine (wnumber_any hw1 ha (by have := HL0.out; have := HL1.out; have := HL2.out; have := HL3.out; simp only [List.length_append]; omega)).mono ?_); rintro e w3 ⟨rfl, hp3⟩; replace HS := Lib.hid (WPost.next ht1 hn1 hp3); replace k0 := HS.out.c0; clear hw1 ht1 hn1 hp3 R1 u1) | (go_at_call 40; obtain ⟨R1, u1, hw1, ht1, hn1⟩ := HS.out; (with_reducible refine (wword_any hw1 (HS.out.pl HPL.out HDM.out) HG.out cl HCM.out (by have := HL0.out; have := HL1.out; have := HL2.out; have := HL3.out; simp only [List.length_append]; omega)).mono ?_); rintro e w3 ⟨rfl, hp3⟩; replace HS := Lib.hid (WPost.next ht1 hn1 hp3); replace k0 := HS.out.c0; clear hw1 ht1 hn1 hp3 R1 u1))
    obtain ⟨zp, hzp⟩ : ∃ zp, zs ++ cntV (Int.toNat 2) ++ cntV (n : Int).toNat ++ numB ha ++ cntV (codeW m.L cl) = zp := ⟨_, rfl⟩
    rw [hzp] at HS
    have hzl : zp.length ≤ 800000036 := by rw [← hzp]; have := HL0.out; have := HL1.out; have := HL2.out; have := HL3.out; simp only [List.length_append]; omega
    have HZP := Lib.hid hzp
    replace HS := Lib.hid (HS.out.cast rfl (show (odd || !okI ha) = odd by rw [HNUM.out.2]; simp))
    clear hzp k0
    have HS1 := Lib.hid HS.out
    clear HS
    go_loopw [62] (fun j wr => ∃ k : Nat, k ≤ n ∧ j = .int .i64 k ∧ WPost R s wb mp (zp ++ (F.take k).flatMap (fldB m.L o.fmt)) (odd || (F.take k).any (oddF o.fmt)) w wr) (fun j _ => n - (intOf j).toNat)
    case atStart => exact ⟨0, Nat.zero_le _, rfl, by simpa using HS1.out⟩
    case round =>
      obtain ⟨k, hk, rfl, hS2⟩ := hrel
      have HS := Lib.hid hS2
      have k0 := hS2.c0
      clear hS2 HS1
      by_cases hlt : k < n
      · have d1 : decide (k < n) = true := decide_eq_true hlt
        have d2 : decide ((k : Int) < (n : Int)) = true := decide_eq_true (by omega)
        have hkF : k < F.length := by rw [HNE.out]; exact hlt
        obtain ⟨x, hx⟩ : ∃ x, F[k] = x := ⟨_, rfl⟩
        have hgk : F[k]? = some x := by rw [List.getElem?_eq_getElem hkF, hx]
        have HX : Hid ((0 ≤ x ∧ x ≤ 255) ∧ (-9223372036854775808 ≤ x ∧ x ≤ 9223372036854775807)) := Lib.hid ⟨HF1.out k x hgk, HWD.out.2.2 x (by rw [← hx]; exact List.getElem_mem hkF)⟩
        have HGK : Hid (getV m.L (ptr m.L i) k = (x, 0)) := Lib.hid (by rw [HGET.out k hlt, List.getD_eq_getElem?_getD, hgk]; rfl)
        have HKI : Hid (InI (k : Int)) := Lib.hid (show _ ∧ _ by omega)
        have hxi1 := HX.out.2.1
        have hxi2 := HX.out.2.2
        have hfl : ((F.take k).flatMap (fldB m.L o.fmt)).length ≤ 9 * k := by
          have := flds_len (L := m.L) (f := o.fmt) (F.take k) (fun y hy => by
            rw [HFB.out]
            have hyF := List.mem_of_mem_take hy
            obtain ⟨q, hq⟩ := List.mem_iff_getElem?.1 hyF
            have h1 := HF1.out q y hq
            have h2 := HWD.out.2.2 y hyF
            simp)
          rw [List.length_take] at this
          have : min k F.length ≤ k := Nat.min_le_left _ _
          omega
        have HFS : Hid ((zp ++ (F.take (k + 1)).flatMap (fldB m.L o.fmt)) = (zp ++ (F.take k).flatMap (fldB m.L o.fmt)) ++ [x]) := Lib.hid (by rw [flat_take hkF, hx, HFB.out, List.append_assoc])
        have HFO : Hid ((odd || (F.take (k + 1)).any (oddF o.fmt)) = ((odd || (F.take k).any (oddF o.fmt)) || false)) := Lib.hid (by rw [any_take hkF, hx, HOB.out, Bool.or_assoc])
        obtain ⟨zk, hzk⟩ : ∃ zk, zp ++ (F.take k).flatMap (fldB m.L o.fmt) = zk := ⟨_, rfl⟩
        obtain ⟨ok, hok⟩ : ∃ ok, (odd || (F.take k).any (oddF o.fmt)) = ok := ⟨_, rfl⟩
        have hzkl : zk.length ≤ 810000000 := by rw [← hzk, List.length_append]; omega
        rw [hzk] at HS HFS
        rw [hok] at HS HFO
        clear hx hgk hfl hzk hok hkF
        go_wp2_with (first | (go_at_call 60; (with_reducible refine (get_any (HS.out.pm HPM.out HD.out) (ptr m.L i) k HKI.out).mono ?_); rw [HGK.out]; rintro e w2 ⟨rfl, n2, rfl⟩; replace HS := Lib.hid (HS.out.drewN n2); replace k0 := HS.out.c0) | (go_at_call 75; obtain ⟨R1, u1, hw1, ht1, hn1⟩ := HS.out; (with_reducible refine (wbyte_any hw1 x HX.out.1 (by omega)).mono ?_); rintro e w3 ⟨rfl, hp3⟩; replace HS := Lib.hid (WPost.next ht1 hn1 hp3); replace k0 := HS.out.c0; clear hw1 ht1 hn1 hp3 R1 u1))
        go_roundw
        case rel => exact ⟨k + 1, by omega, by go_num, HS.out.cast HFS.out.symm (by rw [HFO.out]; simp)⟩
        case measure => simp [intOf]; omega
      · have hkn : k = n := by omega
        have d1 : decide (k < n) = false := decide_eq_false hlt
        have d2 : decide ((k : Int) < (n : Int)) = false := decide_eq_false (by omega)
        have HE : Hid (F.take k = F) := Lib.hid (List.take_of_length_le (by rw [HNE.out]; omega))
        clear hkn hlt
        go_wp2_with fail
        go_returns
        exact ⟨rfl, HS.out.cast (by rw [HE.out, ← HZP.out, HNUM.out.1]; simp) (by rw [HE.out])⟩
end Go.Proofs.Ytfinpgkehjbcpaa
