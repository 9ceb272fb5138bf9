/- Chapter 05: what is written: the writer's methods. -/
import Derived.Test.YtfinpgkehjbcpaaIA
import Derived.Test.YtfinpgkehjbcpaaIPlain2
namespace Go.Proofs.Ytfinpgkehjbcpaa
open Go.ChangeShapes Go.WideShapes Go.ChangeAt Go.RowKit Go.Deep Go.Joins Go.Maps
set_option linter.unusedVariables false
set_option linter.unusedSimpArgs false
/-- a writer: its memory, the places, the bytes so far, whether a number was too great -/
structure WT (w : World) (R : Nat → Prop) (s wb mp : Nat) (v : Value) (zs : List Int) (odd : Bool) : Prop where
  box : w.heap[wb]? = some (.cells #[.pointer (some ⟨s, 0, none⟩), .map (some mp), v, .bool odd] 68 (0, 0))
  own : BInts w 0 v zs
  ne : v.ownBlock ≠ some wb
  inR : R wb ∧ ∀ k, v.ownBlock = some k → R k
  lt : ∀ k, R k → k < w.heap.size
def WPost (R : Nat → Prop) (s wb mp : Nat) (zs : List Int) (odd : Bool) (w w' : World) : Prop := ∃ R' v, WT w' R' s wb mp v zs odd ∧ Turns R w w' ∧ ∀ k, R' k → R k ∨ w.heap.size ≤ k
theorem Turns.trans2 {S T : Nat → Prop} {w w1 w2 : World} (h : Turns S w w1) (k : Turns T w1 w2) (hs : ∀ j, T j → S j ∨ w.heap.size ≤ j) : Turns S w w2 :=
  ⟨k.os.trans h.os, k.tape.trans h.tape, k.output.trans h.output, Nat.le_trans h.size k.size, fun j hj hn => (k.block j (Nat.lt_of_lt_of_le hj h.size) (fun q => (hs j q).elim hn (fun z => by omega))).trans (h.block j hj hn)⟩
section
variable {w w' : World} {R : Nat → Prop} {s wb mp : Nat} {v : Value} {zs : List Int} {odd : Bool}
theorem WT.c0 (h : WT w R s wb mp v zs odd) : w.cell? ⟨wb, 0, none⟩ = some (.pointer (some ⟨s, 0, none⟩)) := by simp [World.cell?, h.box]
theorem WT.c1 (h : WT w R s wb mp v zs odd) : w.cell? ⟨wb, 1, none⟩ = some (.map (some mp)) := by simp [World.cell?, h.box]
theorem WT.c2 (h : WT w R s wb mp v zs odd) : w.cell? ⟨wb, 2, none⟩ = some v := by simp [World.cell?, h.box]
theorem WT.c3 (h : WT w R s wb mp v zs odd) : w.cell? ⟨wb, 3, none⟩ = some (.bool odd) := by simp [World.cell?, h.box]
theorem WT.free (h : WT w R s wb mp v zs odd) (j : Nat) : w.frozen? ⟨wb, j, none⟩ = false := by simp [World.frozen?, h.box]
theorem WT.blt (h : WT w R s wb mp v zs odd) : wb < w.heap.size := h.lt wb h.inR.1
theorem WT.post (h : WT w R s wb mp v zs odd) : WPost R s wb mp zs odd w w := ⟨R, v, h, Turns.refl _ _, fun k hk => .inl hk⟩
theorem WT.below (h : WT w R s wb mp v zs odd) (hb : Below w.heap.size w w') : WT w' R s wb mp v zs odd := ⟨(hb.block _ h.blt).trans h.box, h.own.below hb, h.ne, h.inR, fun k hk => Nat.lt_of_lt_of_le (h.lt k hk) hb.size⟩
/-- behind bytes that grew and are put into the box -/
theorem WT.put (h : WT w R s wb mp v zs odd) {v' : Value} {zs' : List Int} (hg : Grew w w' 0 v v' zs') : WT (w'.setCell ⟨wb, 2, none⟩ v') (fun k => R k ∨ (w.heap.size ≤ k ∧ k < w'.heap.size)) s wb mp v' zs' odd ∧ Turns R w (w'.setCell ⟨wb, 2, none⟩ v') := by
  have hne : v'.ownBlock ≠ some wb := by
    rcases hg.at_ with q | ⟨k, q, hk⟩
    · rw [q]; exact h.ne
    · rw [q]; intro e; cases e; have := h.blt; omega
  have hbx : w'.heap[wb]? = some (.cells #[.pointer (some ⟨s, 0, none⟩), .map (some mp), v, .bool odd] 68 (0, 0)) := (hg.turns.block wb h.blt h.ne).trans h.box
  have htR : Turns R w w' := hg.turns.mono (fun k _ q => h.inR.2 k q)
  have hbl : wb < w'.heap.size := Nat.lt_of_lt_of_le h.blt hg.turns.size
  refine ⟨⟨by rw [heap_setCell_same w' wb 2 _ _ _ hbx]; rfl, hg.own.turns (T := fun k => k = wb) ((Turns.refl _ _).setCell _ _ rfl) (fun k q e => hne (by rw [q, e])), hne, ⟨.inl h.inR.1, fun k q => ?_⟩, fun k q => ?_⟩, htR.setCell _ _ h.inR.1⟩
  · rcases hg.at_ with e | ⟨j, e, hj⟩
    · exact .inl (h.inR.2 k (by rw [← e]; exact q))
    · rw [e] at q; cases q
      refine .inr ⟨hj, ?_⟩
      rcases hg.own.2 with ⟨h1, _⟩ | ⟨g, cap, cur, hv, _, hh, _⟩
      · rw [h1] at e; cases e
      · rw [hv] at e; cases e
        rcases Nat.lt_or_ge g w'.heap.size with q | q
        · exact q
        · rw [Array.getElem?_eq_none q] at hh; cases hh
  · rcases q with q | ⟨_, q⟩
    · simpa using Nat.lt_of_lt_of_le (h.lt k q) hg.turns.size
    · simpa using q
theorem WT.putPost (h : WT w R s wb mp v zs odd) {v' : Value} {zs' : List Int} (hg : Grew w w' 0 v v' zs') : WPost R s wb mp zs' odd w (w'.setCell ⟨wb, 2, none⟩ v') :=
  ⟨_, v', (h.put hg).1, (h.put hg).2, fun k hk => hk.elim .inl (fun q => .inr q.1)⟩
theorem WT.mark (h : WT w R s wb mp v zs odd) : WPost R s wb mp zs true w (w.setCell ⟨wb, 3, none⟩ (.bool true)) :=
  ⟨R, v, ⟨by rw [heap_setCell_same w wb 3 _ _ _ h.box]; rfl, h.own.turns (T := fun k => k = wb) ((Turns.refl _ _).setCell _ _ rfl) (fun k q e => h.ne (by rw [q, e])), h.ne, h.inR, fun k q => by simpa using h.lt k q⟩, (Turns.refl _ _).setCell _ _ h.inR.1, fun k hk => .inl hk⟩
theorem WPost.trans {w1 w2 : World} {zs' : List Int} {odd' : Bool} (h : WPost R s wb mp zs odd w w1) (k : ∀ R' v, WT w1 R' s wb mp v zs odd → WPost R' s wb mp zs' odd' w1 w2) : WPost R s wb mp zs' odd' w w2 := by
  obtain ⟨R', v, h1, h2, h3⟩ := h
  obtain ⟨R2, v2, k1, k2, k3⟩ := k R' v h1
  refine ⟨R2, v2, k1, h2.trans2 k2 h3, fun j hj => ?_⟩
  rcases k3 j hj with q | q
  · exact h3 j q
  · exact .inr (Nat.le_trans h2.size q)
end
set_option maxRecDepth 100000 in
set_option maxHeartbeats 16000000 in
theorem wcount_any {w : World} {R : Nat → Prop} {s wb mp : Nat} {v : Value} {zs : List Int} {odd : Bool} (h : WT w R s wb mp v zs odd) (n : Nat) (hn : n ≤ 9223372036854775807) (hz : zs.length ≤ 900000000) : Calls Try.prog 37 #[.pointer (some ⟨wb, 0, none⟩), .int .i64 n] w fun e w' => e = .returned (.tuple #[]) ∧ WPost R s wb mp (zs ++ cntV n) odd w w' := by
  have h2 := h.c2
  have hf := h.free 2
  have hb := h.blt
  have hcnt := count_any h.own n hn hz (Nat.zero_le _)
  obtain ⟨zt, hzt⟩ : ∃ zt, zs ++ cntV n = zt := ⟨_, rfl⟩
  rw [hzt] at hcnt ⊢
  have HC := Lib.hid hcnt
  have HW := Lib.hid h
  clear h hcnt hzt
  go_enter Try.func37, Try.ntmps37
  go_wp2_with fail
  (with_reducible refine HC.out.mono ?_)
  rintro e w1 ⟨v1, rfl, hg⟩
  have hbx : w1.heap[wb]? = w.heap[wb]? := hg.turns.block wb hb HW.out.ne
  have f1 : w1.frozen? ⟨wb, 2, none⟩ = false := by rw [← hf]; simp [World.frozen?, hbx]
  have c1 : w1.cell? ⟨wb, 2, none⟩ = some v := by rw [← h2]; simp [World.cell?, hbx]
  have HP := Lib.hid (HW.out.putPost hg)
  obtain ⟨A1, k1, rfl, _⟩ := hg.own.bytes
  clear hg hbx
  go_wp2_with fail
  go_returns
  exact ⟨rfl, HP.out⟩
set_option maxRecDepth 100000 in
set_option maxHeartbeats 16000000 in
theorem wnumber_any {w : World} {R : Nat → Prop} {s wb mp : Nat} {v : Value} {zs : List Int} {odd : Bool} (h : WT w R s wb mp v zs odd) (x : Int) (hz : zs.length ≤ 900000000) : Calls Try.prog 74 #[.pointer (some ⟨wb, 0, none⟩), .int .i64 x] w fun e w' => e = .returned (.tuple #[]) ∧ WPost R s wb mp (zs ++ numB x) (odd || !okI x) w w' := by
  have hf := h.free 3
  have hb := h.blt
  have h3 := h.c3
  by_cases hok : -2305843009213693952 ≤ x ∧ x < 2305843009213693952
  · have ho : okI x = true := decide_eq_true hok
    have HE : Hid (zs ++ numB x = zs ++ cntV (foldV x)) := Lib.hid (by unfold numB; rw [if_pos ho])
    have HO : Hid ((odd || !okI x) = odd) := Lib.hid (by rw [ho]; simp)
    have d1 : decide (x < -2305843009213693952) = false := decide_eq_false (by omega)
    have d2 : decide ((2305843009213693952 : Int) ≤ x) = false := decide_eq_false (by omega)
    have hfl := fold_le (n := x) (b := 2305843009213693952) ⟨by omega, by omega⟩
    rw [HE.out, HO.out]
    have hcnt := wcount_any h (foldV x) (by omega) hz
    obtain ⟨fv, hfv⟩ : ∃ fv, foldV x = fv := ⟨_, rfl⟩
    rw [hfv] at hcnt ⊢
    have HFV := Lib.hid hfv
    have HC := Lib.hid hcnt
    clear h hcnt hfv hf h3 hfl ho
    go_enter Try.func74, Try.ntmps74
    go_wp2_with (first | (go_at_call 76; (with_reducible refine (folded_any x ⟨by omega, by omega⟩ _).mono ?_); rw [HFV.out]; rintro e w2 ⟨rfl, hw2⟩; replace hw2 := hw2.symm; subst hw2))
    (with_reducible refine HC.out.mono ?_)
    rintro e w1 ⟨rfl, hp⟩
    have HP := Lib.hid hp
    clear hp
    go_wp2_with fail
    go_returns
    exact ⟨rfl, HP.out⟩
  · have ho : okI x = false := decide_eq_false hok
    have HE : Hid (zs ++ numB x = zs) := Lib.hid (by unfold numB; rw [ho]; simp)
    have HO : Hid ((odd || !okI x) = true) := Lib.hid (by rw [ho]; simp)
    rw [HE.out, HO.out]
    have HP := Lib.hid h.mark
    clear h ho
    by_cases hlo : x < -2305843009213693952
    · have d1 : decide (x < -2305843009213693952) = true := decide_eq_true hlo
      clear hok hlo
      go_enter Try.func74, Try.ntmps74
      go_wp2_with fail
      go_returns
      exact ⟨rfl, HP.out⟩
    · have d1 : decide (x < -2305843009213693952) = false := decide_eq_false hlo
      have d2 : decide ((2305843009213693952 : Int) ≤ x) = true := decide_eq_true (by omega)
      clear hok hlo
      go_enter Try.func74, Try.ntmps74
      go_wp2_with fail
      go_returns
      exact ⟨rfl, HP.out⟩
set_option maxRecDepth 100000 in
set_option maxHeartbeats 16000000 in
theorem wbyte_any {w : World} {R : Nat → Prop} {s wb mp : Nat} {v : Value} {zs : List Int} {odd : Bool} (h : WT w R s wb mp v zs odd) (x : Int) (hx : 0 ≤ x ∧ x ≤ 255) (hz : zs.length ≤ 900000000) : Calls Try.prog 75 #[.pointer (some ⟨wb, 0, none⟩), .int .i64 x] w fun e w' => e = .returned (.tuple #[]) ∧ WPost R s wb mp (zs ++ [x]) odd w w' := by
  have h2 := h.c2
  have hf := h.free 2
  have hb := h.blt
  have e3 : IntKind.u8.wrap x = x := u8_in hx.1 hx.2
  have HW := Lib.hid h
  clear h
  go_enter Try.func75, Try.ntmps75
  go_wp2_with (first | (at_builtin; refine wpList_bytes rfl _ _ rfl 0 _ zs rfl (HW.out.own.below ((Below.refl w.heap.size w).alloc (Nat.le_refl _) _)) (A := some ⟨w.heap.size, 0, none⟩) (m := 1) (c := 1) (ns := [x]) rfl nocap rfl (lit1_u8 w x) (by omega) (Nat.zero_le _) ?_; intro v5 w5 hi5 hg5 ha5; have HG5 := Lib.hid ((Grew.refl HW.out.own).step _ hi5 hg5 ha5); clear hi5 hg5 ha5; obtain ⟨zt, hzt⟩ : ∃ zt, zs ++ [x] = zt := ⟨_, rfl⟩; rw [hzt] at HG5; have HZT := Lib.hid hzt; clear hzt; have hbx : w5.heap[wb]? = w.heap[wb]? := HG5.out.turns.block wb hb HW.out.ne; have f1 : w5.frozen? ⟨wb, 2, none⟩ = false := by { rw [← hf]; simp [World.frozen?, hbx] }; have c1 : w5.cell? ⟨wb, 2, none⟩ = some v := by { rw [← h2]; simp [World.cell?, hbx] }; have HP := Lib.hid (HW.out.putPost HG5.out); obtain ⟨A1, k1, rfl, _⟩ := HG5.out.own.bytes; clear hbx))
  go_returns
  exact ⟨rfl, by rw [HZT.out]; exact HP.out⟩
end Go.Proofs.Ytfinpgkehjbcpaa
/- Chapter 05: a word is written. -/
namespace Go.Proofs.Ytfinpgkehjbcpaa
open Go.ChangeShapes Go.WideShapes Go.ChangeAt Go.RowKit Go.Deep Go.Joins Go.Maps
set_option linter.unusedVariables false
set_option linter.unusedSimpArgs false
set_option maxRecDepth 100000 in
set_option maxHeartbeats 16000000 in
/-- the places of a memory's objects, as a map -/
structure Places (w : World) (mp : Nat) (m : Hp) : Prop where
  map : ∃ n f, IntMap w mp n f ∧ ∀ k, k < m.L.length → f (ptr m.L k) = (k : Int)
theorem Places.turns {w w' : World} {mp : Nat} {m : Hp} {T : Nat → Prop} (h : Places w mp m) (ht : Turns T w w') (hd : ¬ T mp) : Places w' mp m := by
  obtain ⟨n, f, h1, h2⟩ := h
  exact ⟨n, f, h1.same (ht.block mp h1.lt hd), h2⟩
theorem Places.lt {w : World} {mp : Nat} {m : Hp} (h : Places w mp m) : mp < w.heap.size := by obtain ⟨n, f, h1, h2⟩ := h; exact h1.lt
theorem ptr_le {m : Hp} (h : Good m) {k : Nat} (hk : k < m.L.length) : ptr m.L k ≤ 262144 := by
  have := adr_le h k
  have := h.hi
  unfold ptr; omega
set_option maxRecDepth 100000 in
set_option maxHeartbeats 16000000 in
theorem wword_any {w : World} {R : Nat → Prop} {s wb mp : Nat} {v : Value} {zs : List Int} {odd : Bool} {m : Hp} (h : WT w R s wb mp v zs odd) (hP : Places w mp m) (hG : Good m) (x : Int) (hx : mayV m.L x = true) (hz : zs.length ≤ 900000000) : Calls Try.prog 40 #[.pointer (some ⟨wb, 0, none⟩), .int .i64 x] w fun e w' => e = .returned (.tuple #[]) ∧ WPost R s wb mp (zs ++ cntV (codeW m.L x)) odd w w' := by
  have hlen := len_bd hG
  have hcw := codeW_le (L := m.L) (x := x) (by omega) hx
  have hcnt := wcount_any h (codeW m.L x) (by omega) hz
  have h1 := h.c1
  rcases may_cases hx with hs | ⟨hs, k, hk, hp, hxk⟩ | ⟨hs, hp, hx3⟩
  · have hso := small_odd hs
    have hv : valueV x = x / 2 := by unfold valueV; rw [if_pos hs]
    have hfl := fold_le (n := x / 2) (b := 1073741824) ⟨by omega, by omega⟩
    obtain ⟨fv, hfv⟩ : ∃ fv, foldV (x / 2) = fv := ⟨_, rfl⟩
    have hc : ((codeW m.L x : Nat) : Int) = 3 + 2 * (fv : Int) := by rw [codeW_small hs, hfv]; omega
    rw [hc] at hcnt
    rw [hfv] at hfl
    obtain ⟨xv, hxv⟩ : ∃ xv, x / 2 = xv := ⟨_, rfl⟩
    rw [hxv] at hv hfv
    have hxvb : -1073741824 ≤ xv ∧ xv ≤ 1073741824 := by omega
    have HC := Lib.hid hcnt
    have HS := Lib.hid hs
    have HV := Lib.hid hv
    have HFV := Lib.hid hfv
    clear h hP hG hx hcnt hs hc hv hfv hxv hso hcw
    go_enter Try.func40, Try.ntmps40
    go_wp2_with (first | (go_at_call 69; (with_reducible refine (isSmall_any x _).mono ?_); rw [HS.out]; rintro e w2 ⟨rfl, hw2⟩; replace hw2 := hw2.symm; subst hw2) | (go_at_call 77; (with_reducible refine (value_any x _).mono ?_); rw [HV.out]; rintro e w2 ⟨rfl, hw2⟩; replace hw2 := hw2.symm; subst hw2) | (go_at_call 76; (with_reducible refine (folded_any xv ⟨by omega, by omega⟩ _).mono ?_); rw [HFV.out]; rintro e w2 ⟨rfl, hw2⟩; replace hw2 := hw2.symm; subst hw2))
    (with_reducible refine HC.out.mono ?_)
    rintro e w1 ⟨rfl, hp⟩
    have HP := Lib.hid hp
    clear hp
    go_wp2_with fail
    go_returns
    exact ⟨rfl, HP.out⟩
  · have hpt : isPointerV x = true := decide_eq_true ⟨by rw [hxk]; exact ptr_ge m.L k, by rw [hxk]; exact ptr_le hG hk, by rw [hxk]; exact ptr_even m.L k⟩
    obtain ⟨nn, f, hm, hf⟩ := hP
    have hlook := hm.look (a := x) (by have := of_decide_eq_true hpt; exact ⟨by omega, by omega⟩)
    rw [hxk, hf k hk, ← hxk] at hlook
    have hc : ((codeW m.L x : Nat) : Int) = 4 + 2 * (k : Int) := by rw [codeW_ptr hs hp]; omega
    rw [hc] at hcnt
    have HC := Lib.hid hcnt
    have HS := Lib.hid hs
    have HPT := Lib.hid hpt
    have hk2 : k ≤ 1000000 := by omega
    clear h hG hx hcnt hs hc hpt hxk hm hf hp hcw
    go_enter Try.func40, Try.ntmps40
    go_wp2_with (first | (go_at_call 69; (with_reducible refine (isSmall_any x _).mono ?_); rw [HS.out]; rintro e w2 ⟨rfl, hw2⟩; replace hw2 := hw2.symm; subst hw2) | (go_at_call 78; (with_reducible refine (isPointer_any x _).mono ?_); rw [HPT.out]; rintro e w2 ⟨rfl, hw2⟩; replace hw2 := hw2.symm; subst hw2))
    (with_reducible refine HC.out.mono ?_)
    rintro e w1 ⟨rfl, hp⟩
    have HP := Lib.hid hp
    clear hp
    go_wp2_with fail
    go_returns
    exact ⟨rfl, HP.out⟩
  · have hpt : isPointerV x = false := decide_eq_false (by omega)
    have hcx : codeW m.L x = (x / 2).toNat := codeW_low hs hp
    have HS := Lib.hid hs
    have HPT := Lib.hid hpt
    clear h hP hG hx hs hpt hp hcw
    rcases hx3 with rfl | hx3
    · have hc : ((codeW m.L 0 : Nat) : Int) = 0 := by rw [hcx]; decide
      rw [hc] at hcnt
      have HC := Lib.hid hcnt
      clear hcnt hc hcx
      go_enter Try.func40, Try.ntmps40
      go_wp2_with (first | (go_at_call 69; (with_reducible refine (isSmall_any 0 _).mono ?_); rw [HS.out]; rintro e w2 ⟨rfl, hw2⟩; replace hw2 := hw2.symm; subst hw2) | (go_at_call 78; (with_reducible refine (isPointer_any 0 _).mono ?_); rw [HPT.out]; rintro e w2 ⟨rfl, hw2⟩; replace hw2 := hw2.symm; subst hw2))
      (with_reducible refine HC.out.mono ?_)
      rintro e w1 ⟨rfl, hp⟩
      have HP := Lib.hid hp
      clear hp
      go_wp2_with fail
      go_returns
      exact ⟨rfl, HP.out⟩
    rcases hx3 with rfl | hx3
    · have hc : ((codeW m.L 2 : Nat) : Int) = 1 := by rw [hcx]; decide
      rw [hc] at hcnt
      have HC := Lib.hid hcnt
      clear hcnt hc hcx
      go_enter Try.func40, Try.ntmps40
      go_wp2_with (first | (go_at_call 69; (with_reducible refine (isSmall_any 2 _).mono ?_); rw [HS.out]; rintro e w2 ⟨rfl, hw2⟩; replace hw2 := hw2.symm; subst hw2) | (go_at_call 78; (with_reducible refine (isPointer_any 2 _).mono ?_); rw [HPT.out]; rintro e w2 ⟨rfl, hw2⟩; replace hw2 := hw2.symm; subst hw2))
      (with_reducible refine HC.out.mono ?_)
      rintro e w1 ⟨rfl, hp⟩
      have HP := Lib.hid hp
      clear hp
      go_wp2_with fail
      go_returns
      exact ⟨rfl, HP.out⟩
    have hc : ((codeW m.L 4 : Nat) : Int) = 2 := by rw [hx3] at hcx; rw [hcx]; decide
    subst hx3
    rw [hc] at hcnt
    have HC := Lib.hid hcnt
    clear hcnt hc hcx
    go_enter Try.func40, Try.ntmps40
    go_wp2_with (first | (go_at_call 69; (with_reducible refine (isSmall_any 4 _).mono ?_); rw [HS.out]; rintro e w2 ⟨rfl, hw2⟩; replace hw2 := hw2.symm; subst hw2) | (go_at_call 78; (with_reducible refine (isPointer_any 4 _).mono ?_); rw [HPT.out]; rintro e w2 ⟨rfl, hw2⟩; replace hw2 := hw2.symm; subst hw2))
    (with_reducible refine HC.out.mono ?_)
    rintro e w1 ⟨rfl, hp⟩
    have HP := Lib.hid hp
    clear hp
    go_wp2_with fail
    go_returns
    exact ⟨rfl, HP.out⟩
end Go.Proofs.Ytfinpgkehjbcpaa
