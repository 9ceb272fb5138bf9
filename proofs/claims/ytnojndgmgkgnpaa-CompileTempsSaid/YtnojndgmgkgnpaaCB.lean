/- Chapter 10: what a method under way does first: it fails, an instruction is put. -/
import Derived.Test.YtnojndgmgkgnpaaCA
import Derived.Maps.AppendAt
import Derived.Deep.RegionLaw
import Derived.Deep.RegionLawGrows
import Derived.Deep.RegionHeld3
import Derived.Deep.RegionWith
import Derived.Deep.CutBlock
namespace Go.Proofs.Ytnojndgmgkgnpaa
open Go.ChangeShapes Go.WideShapes Go.ChangeAt Go.RowKit Go.Deep Go.Joins Go.Maps
set_option linter.unusedVariables false
set_option linter.unusedSimpArgs false
theorem info_parts {t : TypeId} {z : Value} {n b : Nat} (h : (Try.prog.info? t).map (fun i => (i.zero, i.size, i.bytes)) = some (some z, n, b)) : ∃ i, Try.prog.info? t = some i ∧ i.zero = some z ∧ i.size = n ∧ i.bytes = b := by
 cases hi : Try.prog.info? t with
 | none => rw [hi] at h; cases h
 | some i => rw [hi] at h; simp at h; exact ⟨i, rfl, h.1, h.2.1, h.2.2⟩
theorem ret_bool {a b : Bool} (h : a = b) : (Ending.returned (.bool a) : Ending) = .returned (.bool b) := by rw [h]
theorem ret_int {a b : Int} (h : a = b) : (Ending.returned (.int .i64 a) : Ending) = .returned (.int .i64 b) := by rw [h]
theorem infoI : (Try.prog.info? 37).map (fun i => (i.zero, i.size, i.bytes)) = some (some (.agg #[.int .i64 0, .int .i64 0, .int .i64 0]), 3, 24) := by kernel_rfl
section
variable {w0 w : World} {P : Nat → Prop} {cb : Nat} {m : MK} {s : CSt} {lv cv nv : Value} {D : Nat → Prop} {ps : List LP} {w' : World} {s' : CSt} {cv' nv' : Value}
/-- the box is another one, the rows are as they were -/
theorem CY.reset (h : CY w0 P w cb m s lv cv nv D ps) (ht : Turns (fun k => k = cb) w w') (hbox : w'.heap[cb]? = some (.cells (boxC m s' lv cv nv') 73 (0, 0))) (hl : s'.lits = s.lits) (hc : s'.code = s.code)
  (hn : NmRow w' (fun k => ¬ P k ∧ k ≠ cb) nv' s'.names) (hok : NmOk s'.names) (he : s'.ename.size ≤ big63) : CY w0 P w' cb m s' lv cv nv' D ps := by
 obtain ⟨n1, n2⟩ := h.ne
 refine ⟨hbox, h.lits.same ht.size (fun k hk => ht.block k (World.ownsRow.lt h.lits.own k hk).2 (n1 k hk).1) (fun b hb hl' => ht.block b hl' (h.dlt b hb).2) (fun _ z => z), by rw [hl]; exact h.lps, ?_, hn, hok, h.cbP, h.lvP, h.cvP, fun k hk => ⟨Nat.lt_of_lt_of_le (h.dlt k hk).1 ht.size, (h.dlt k hk).2⟩, fun k hk => ?_, ?_, h.low, fun k hk => Nat.lt_of_lt_of_le (h.lim k hk) ht.size, he⟩
 ·rw [hc]; exact ownsRow_same h.code ht.size (fun k hk => ht.block k (World.ownsRow.lt h.code k hk).2 (n2 k hk).1)
 ·obtain ⟨cur, hc2⟩ := h.dty k hk
  exact ⟨cur, (ht.block k (lt_of_block hc2) (h.dlt k hk).2).trans hc2⟩
 ·refine h.stat.trans (ht.below (fun k q => ?_) h.stat.size)
  rcases Nat.lt_or_ge k w0.heap.size with z | z
  ·exact absurd (q ▸ h.low k z) h.cbP
  ·exact z
theorem Turns.outOf {P : Nat → Prop} {k0 : Nat} {w w' : World} (ht : Turns (fun k => k = k0) w w') (h : ¬ P k0) : Turns (outP P) w w' := ht.mono (fun k _ e => by rw [e]; exact h)
/-- a cell of the box is stored -/
theorem CY.store (h : CY w0 P w cb m s lv cv nv D ps) (k : Nat) (v : Value) (hb : (boxC m s lv cv nv).set! k v = boxC m s' lv cv nv') (hl : s'.lits = s.lits) (hc : s'.code = s.code)
  (hn : NmRow w (fun k => ¬ P k ∧ k ≠ cb) nv' s'.names) (hok : NmOk s'.names) (he : s'.ename.size ≤ big63) : CY w0 P (w.setCell ⟨cb, k, none⟩ v) cb m s' lv cv nv' D ps := by
 have ht : Turns (fun j => j = cb) w (w.setCell ⟨cb, k, none⟩ v) := (Turns.refl _ _).setCell _ _ (.inl rfl)
 refine h.reset ht (by rw [heap_setCell_same w cb k _ _ _ h.box, ← hb]; rfl) hl hc (hn.same ht.size (fun j hj => ?_) (fun _ _ z => z)) hok he
 refine ht.block j (hn.lt hj) (fun e => ?_)
 subst e
 obtain ⟨cur, hcur⟩ := hn.type hj
 rw [h.box] at hcur
 simp at hcur
end
set_option maxRecDepth 100000 in
set_option maxHeartbeats 16000000 in
theorem fail_cy {w0 w : World} {P : Nat → Prop} {cb : Nat} {m : MK} {s : CSt} {lv cv nv : Value} {D : Nat → Prop} {ps : List LP} (h : CY w0 P w cb m s lv cv nv D ps) (name : ByteArray) (hn : name.size ≤ big63) (x : Int) : Calls Try.prog 54 #[.pointer (some ⟨cb, 0, none⟩), .string name, .int .i64 x] w fun e w' => e = .returned (.tuple #[]) ∧ CY w0 P w' cb m (failP s name x) lv cv nv D ps ∧ Turns (fun k => k = cb) w w' := by
 have k8 : w.cell? ⟨cb, 8, none⟩ = some (.int .i64 s.err) := by rw [h.cell]; rfl
 have k7 : w.cell? ⟨cb, 7, none⟩ = some (.string s.ename) := by rw [h.cell]; rfl
 have f7 := h.free 7
 have f8 := h.free 8
 have HY := Lib.hid h
 clear h
 by_cases he : s.err = 0
 ·have HE := Lib.hid he
  rw [he] at k8
  clear he
  go_enter Try.func54, Try.ntmps54
  go_wp2_with fail
  go_returns
  refine ⟨rfl, ?_, ?_⟩
  ·have h1 : CY w0 P (w.setCell ⟨cb, 7, none⟩ (.string name)) cb m { s with ename := name } lv cv nv D ps := HY.out.store (s' := { s with ename := name }) 7 _ rfl rfl rfl HY.out.names HY.out.nok hn
   have h2 : CY w0 P ((w.setCell ⟨cb, 7, none⟩ (.string name)).setCell ⟨cb, 8, none⟩ (.int .i64 x)) cb m { s with ename := name, err := x } lv cv nv D ps := h1.store (s' := { s with ename := name, err := x }) 8 _ rfl rfl rfl h1.names h1.nok hn
   unfold failP
   rw [if_pos HE.out]
   exact h2
  ·exact ((Turns.refl (fun k => k = cb) w).setCell _ _ (.inl rfl)).setCell _ _ (.inl rfl)
 ·have HE := Lib.hid he
  have e1 : (s.err == 0) = false := by simpa using he
  clear he
  go_enter Try.func54, Try.ntmps54
  go_wp2_with fail
  go_returns
  refine ⟨rfl, ?_, Turns.refl _ _⟩
  unfold failP
  rw [if_neg HE.out]
  exact HY.out
theorem fail_any {w0 w : World} {P : Nat → Prop} {cb : Nat} {m : MK} {s : CSt} (h : CX w0 P w cb m s) (name : ByteArray) (hn : name.size ≤ big63) (x : Int) : Calls Try.prog 54 #[.pointer (some ⟨cb, 0, none⟩), .string name, .int .i64 x] w fun e w' => e = .returned (.tuple #[]) ∧ CT w0 P w w' cb m (failP s name x) := by
 obtain ⟨lv, cv, nv, D, ps, hy, hfw⟩ := h
 refine (fail_cy hy name hn x).mono ?_
 rintro e w' ⟨he, hc, ht⟩
 exact ⟨he, ⟨lv, cv, nv, D, ps, hc, by rw [show (failP s name x).temps = s.temps by unfold failP; split <;> rfl, show (failP s name x).names = s.names by unfold failP; split <;> rfl]; exact hfw⟩, Turns.outOf ht hy.cbP⟩
set_option maxRecDepth 100000 in
set_option maxHeartbeats 16000000 in
theorem here_any {w0 w : World} {P : Nat → Prop} {cb : Nat} {m : MK} {s : CSt} (h : CX w0 P w cb m s) : Calls Try.prog 75 #[.pointer (some ⟨cb, 0, none⟩)] w fun e w' => e = .returned (.int .i64 (s.code.length : Int)) ∧ w' = w := by
 obtain ⟨lv, cv, nv, D, ps, hy, hfw⟩ := h
 obtain ⟨A, c, hcv, hle, hmx⟩ := own_slice hy.code
 have k5 : w.cell? ⟨cb, 5, none⟩ = some (.slice A s.code.length c) := by rw [hy.cell, ← hcv]; rfl
 clear hy hcv hfw
 go_enter Try.func75, Try.ntmps75
 go_wp2_with fail
 go_ret
 exact ⟨rfl, rfl⟩
section
variable {w0 w : World} {P : Nat → Prop} {cb : Nat} {m : MK} {s : CSt} {lv cv nv : Value} {D : Nat → Prop} {ps : List LP} {w' : World} {cv' : Value}
/-- an instruction more: what stands when it is appended, and when the row is stored -/
theorem CY.push (h : CY w0 P w cb m s lv cv nv D ps) (i : Ins) (hown : w'.ownsRow 0 37 3 cv' (s.code.length + 1) (s.code.flatMap insC ++ insC i)) (hg : w.grownBy w' cv.ownBlock) (hat : cv'.ownBlock = cv.ownBlock ∨ cv'.ownBlock = some w.heap.size) :
  w'.heap[cb]? = some (.cells (boxC m s lv cv nv) 73 (0, 0)) ∧ CY w0 P (w'.setCell ⟨cb, 5, none⟩ cv') cb m { s with code := s.code ++ [i] } lv cv' nv D ps ∧ Turns (outP P) w (w'.setCell ⟨cb, 5, none⟩ cv') := by
 obtain ⟨n1, n2⟩ := h.ne
 have ht : Turns (fun k => cv.ownBlock = some k) w w' := ⟨hg.os, hg.tape, hg.output, hg.size, fun k hk hs => hg.block k hk (fun e => hs e.symm)⟩
 have hcb := lt_of_block h.box
 have hbx : w'.heap[cb]? = some (.cells (boxC m s lv cv nv) 73 (0, 0)) := (ht.block cb hcb (fun e => (n2 cb e).1 rfl)).trans h.box
 have ht2 : Turns (fun k => k = cb) w' (w'.setCell ⟨cb, 5, none⟩ cv') := (Turns.refl _ _).setCell _ _ (.inl rfl)
 have ht3 : Turns (fun k => cv.ownBlock = some k ∨ k = cb) w (w'.setCell ⟨cb, 5, none⟩ cv') := (ht.mono (fun _ _ z => .inl z)).setCell _ _ (.inl (.inr rfl))
 have hcv' : ∀ k, cv'.ownBlock = some k → (¬ P k) ∧ k ≠ cb := fun k hk => by
  rcases hat with q | q
  ·rw [q] at hk; exact ⟨h.cvP k hk, (n2 k hk).1⟩
  ·rw [q] at hk
   cases hk
   exact ⟨fun z => by have := h.lim _ z; omega, by omega⟩
 refine ⟨hbx, ⟨?_, ?_, h.lps, ?_, ?_, h.nok, h.cbP, h.lvP, fun k hk => (hcv' k hk).1, fun k hk => ⟨Nat.lt_of_lt_of_le (h.dlt k hk).1 ht3.size, (h.dlt k hk).2⟩, fun k hk => ?_, ?_, h.low, fun k hk => Nat.lt_of_lt_of_le (h.lim k hk) ht3.size, h.enm⟩, ?_⟩
 ·rw [heap_setCell_same w' cb 5 _ _ _ hbx]; rfl
 ·exact h.lits.same ht3.size (fun k hk => ht3.block k (World.ownsRow.lt h.lits.own k hk).2 (fun q => q.elim (fun e => (n1 k hk).2 e) (fun e => (n1 k hk).1 e))) (fun b hb hl => ht3.block b hl (fun q => q.elim (fun e => (n2 b e).2 hb) (fun e => (h.dlt b hb).2 e))) (fun _ z => z)
 ·have e : (s.code ++ [i]).flatMap insC = s.code.flatMap insC ++ insC i := by simp
  show World.ownsRow _ 0 37 3 cv' (s.code ++ [i]).length ((s.code ++ [i]).flatMap insC)
  rw [e, List.length_append]
  exact ownsRow_same hown ht2.size (fun k hk => ht2.block k (World.ownsRow.lt hown k hk).2 (hcv' k hk).2)
 ·refine h.names.same ht3.size (fun k hk => ht3.block k (h.names.lt hk) (fun q => ?_)) (fun _ _ z => z)
  obtain ⟨cur, hc⟩ := h.names.type hk
  rcases q with e | e
  ·obtain ⟨cur2, hc2⟩ := own_type h.code e
   rw [hc] at hc2; simp at hc2
  ·rw [e, h.box] at hc; simp at hc
 ·obtain ⟨cur, hc⟩ := h.dty k hk
  exact ⟨cur, (ht3.block k (lt_of_block hc) (fun q => q.elim (fun e => (n2 k e).2 hk) (fun e => (h.dlt k hk).2 e))).trans hc⟩
 ·refine h.stat.trans (ht3.below (fun k q => ?_) h.stat.size)
  rcases Nat.lt_or_ge k w0.heap.size with z | z
  ·exact q.elim (fun e => absurd (h.low k z) (h.cvP k e)) (fun e => absurd (e ▸ h.low k z) h.cbP)
  ·exact z
 ·exact ht3.mono (fun k _ q => q.elim (fun e => h.cvP k e) (fun e => by rw [e]; exact h.cbP))
end
theorem cells_block {w : World} {g : Nat} {cs : Array Value} {t : TypeId} {fr : Nat × Nat} (h : w.heap[g]? = some (.cells cs t fr)) : ∀ (j : Nat) (u : Value), cs.toList[j]? = some u → w.cell? ((⟨g, 0, none⟩ : Addr).add j) = some u := fun j u hj => by
 rw [add_plain, Nat.zero_add]
 simp only [World.cell?, h]
 simpa using hj
set_option maxRecDepth 100000 in
set_option maxHeartbeats 16000000 in
theorem emit_any {w0 w : World} {P : Nat → Prop} {cb : Nat} {m : MK} {s : CSt} (h : CX w0 P w cb m s) (op a b : Int) (hf : s.code.length ≤ 1000000) : Calls Try.prog 45 #[.pointer (some ⟨cb, 0, none⟩), .int .i64 op, .int .i64 a, .int .i64 b] w fun e w' => e = .returned (.tuple #[]) ∧ CT w0 P w w' cb m (emitP s op a b) := by
 obtain ⟨lv, cv, nv, D, ps, hy, hfw⟩ := h
 obtain ⟨i0, hi, hz0, hz1, hz2⟩ := info_parts infoI
 have hb1 : Below w.heap.size w (w.alloc (.cells #[.int .i64 op, .int .i64 a, .int .i64 b] 37)) := (Below.refl _ _).alloc (Nat.le_refl _) _
 have HYA := Lib.hid (hy.below hb1 (fun _ z => z) (fun _ z => .inl z))
 obtain ⟨A, c, hcv, hle, hmx⟩ := own_slice hy.code
 subst hcv
 obtain ⟨n, hn⟩ : ∃ n, s.code.length = n := ⟨_, rfl⟩
 have HN := Lib.hid hn
 have k5 : w.cell? ⟨cb, 5, none⟩ = some (.slice A n c) := by rw [hy.cell, ← hn]; rfl
 have HG : Hid ((w.alloc (.cells #[.int .i64 op, .int .i64 a, .int .i64 b] 37)).heap[w.heap.size]? = some (.cells #[.int .i64 op, .int .i64 a, .int .i64 b] 37 (0, 0))) := Lib.hid (heap_alloc_new w _)
 have HO : Hid ((w.alloc (.cells #[.int .i64 op, .int .i64 a, .int .i64 b] 37)).ownsRow 0 37 3 (.slice A n c) n (s.code.flatMap insC)) := Lib.hid (by rw [← hn]; exact HYA.out.code)
 rw [hn] at hf
 clear hy hn hb1
 go_enter Try.func45, Try.ntmps45
 go_wp2_with (at_builtin; refine wpList_append_own_at _ rfl _ _ 31 rfl 0 37 i0 (.agg #[.int .i64 0, .int .i64 0, .int .i64 0]) 3 24 Try.underlying31 hi hz0 hz1 hz2 rfl (by decide) _ _ _ rfl HO.out ⟨w.heap.size, 0, none⟩ 1 1 [.int .i64 op, .int .i64 a, .int .i64 b] rfl rfl (cells_block HG.out) (by simp [Value.oneCell']) (by unfold maxLen; omega) (by omega) (Nat.zero_le _) ?_; intro v5 w5 hown hg _ hat; have hpu := HYA.out.push (w' := w5) (cv' := v5) ⟨op, a, b⟩ (by rw [HN.out]; exact hown) (by rw [HN.out]; exact hg) (by rw [HN.out]; exact hat); obtain ⟨A5, c5, hv5, _⟩ := own_slice hown; subst hv5; have q5 : w5.cell? ⟨cb, 5, none⟩ = some (.slice A n c) := (by rw [← HN.out]; simp [World.cell?, hpu.1, boxC]); have r5 : w5.frozen? ⟨cb, 5, none⟩ = false := (by simp [World.frozen?, hpu.1]); have HPU := Lib.hid hpu.2; clear hpu hown hg hat)
 go_returns
 exact ⟨rfl, ⟨_, _, _, _, _, HPU.out.1, hfw⟩, (Turns.of_below ((Below.refl _ _).alloc (Nat.le_refl _) _)).trans (HPU.out.2.mono (fun _ _ z => z))⟩
set_option maxRecDepth 100000 in
set_option maxHeartbeats 16000000 in
theorem own_any (n : ByteArray) (hn : n.size ≤ big63) (w : World) : Calls Try.prog 53 #[.string n] w fun e w' => e = .returned (.bool (ownN n)) ∧ w' = w := by
 cases q0 : n.toList == [115, 101, 108, 102] with
 | true =>
  rw [show ownN n = true from by unfold ownN; simp only [bSelf, bSuper, bNil, bTrue, bFalse, bContext, q0]; rfl]
  clear hn
  go_enter Try.func53, Try.ntmps53
  go_wp2_with fail
  go_ret
  exact ⟨rfl, rfl⟩
 | false =>
  cases q1 : n.toList == [115, 117, 112, 101, 114] with
  | true =>
   rw [show ownN n = true from by unfold ownN; simp only [bSelf, bSuper, bNil, bTrue, bFalse, bContext, q0, q1]; rfl]
   clear hn
   go_enter Try.func53, Try.ntmps53
   go_wp2_with fail
   go_ret
   exact ⟨rfl, rfl⟩
  | false =>
   cases q2 : n.toList == [110, 105, 108] with
   | true =>
    rw [show ownN n = true from by unfold ownN; simp only [bSelf, bSuper, bNil, bTrue, bFalse, bContext, q0, q1, q2]; rfl]
    clear hn
    go_enter Try.func53, Try.ntmps53
    go_wp2_with fail
    go_ret
    exact ⟨rfl, rfl⟩
   | false =>
    cases q3 : n.toList == [116, 114, 117, 101] with
    | true =>
     rw [show ownN n = true from by unfold ownN; simp only [bSelf, bSuper, bNil, bTrue, bFalse, bContext, q0, q1, q2, q3]; rfl]
     clear hn
     go_enter Try.func53, Try.ntmps53
     go_wp2_with fail
     go_ret
     exact ⟨rfl, rfl⟩
    | false =>
     cases q4 : n.toList == [102, 97, 108, 115, 101] with
     | true =>
      rw [show ownN n = true from by unfold ownN; simp only [bSelf, bSuper, bNil, bTrue, bFalse, bContext, q0, q1, q2, q3, q4]; rfl]
      clear hn
      go_enter Try.func53, Try.ntmps53
      go_wp2_with fail
      go_ret
      exact ⟨rfl, rfl⟩
     | false =>
      cases q5 : n.toList == [116, 104, 105, 115, 67, 111, 110, 116, 101, 120, 116] with
      | true =>
       rw [show ownN n = true from by unfold ownN; simp only [bSelf, bSuper, bNil, bTrue, bFalse, bContext, q0, q1, q2, q3, q4, q5]; rfl]
       clear hn
       go_enter Try.func53, Try.ntmps53
       go_wp2_with fail
       go_ret
       exact ⟨rfl, rfl⟩
      | false =>
       rw [show ownN n = false from by unfold ownN; simp only [bSelf, bSuper, bNil, bTrue, bFalse, bContext, q0, q1, q2, q3, q4, q5]; rfl]
       clear hn
       go_enter Try.func53, Try.ntmps53
       go_wp2_with fail
       go_ret
       exact ⟨rfl, rfl⟩
set_option maxRecDepth 100000 in
set_option maxHeartbeats 16000000 in
theorem class_any (n : ByteArray) (hn : n.size ≤ big63) (w : World) : Calls Try.prog 69 #[.string n] w fun e w' => e = .returned (.bool (classN n)) ∧ w' = w := by
 cases hl : n.toList with
 | nil =>
  rw [show classN n = false from by unfold classN; rw [hl]]
  clear hn
  go_enter Try.func69, Try.ntmps69
  go_wp2_with fail
  go_ret
  exact ⟨rfl, rfl⟩
 | cons c r =>
  have h0 : n.data[0]? = some c := by
   rw [ByteArray.toList_eq] at hl
   rw [← Array.getElem?_toList, hl]; rfl
  have hsz : 0 < n.size := by
   rcases Nat.eq_zero_or_pos n.size with q | q
   ·have : n.data.size = 0 := q
    rw [Array.getElem?_eq_none (by omega)] at h0; cases h0
   ·exact q
  have hne : n.toList.isEmpty = false := by rw [hl]; rfl
  have hc0 : n[0] = c := by
   have h3 : n.data[0]? = some (n.data[0]'hsz) := Array.getElem?_eq_getElem hsz
   rw [h0] at h3
   exact (Option.some.inj h3).symm
  have d0 : decide (0 < n.size) = true := decide_eq_true hsz
  have hcv : classN n = (decide (65 ≤ c.toNat) && decide (c.toNat ≤ 90)) := by unfold classN; rw [hl]
  rw [hcv]
  clear hcv
  by_cases h1 : 65 ≤ c.toNat
  ·rw [decide_eq_true h1]
   have d1 : decide ((65 : Int) ≤ (c.toNat : Int)) = true := decide_eq_true (by omega)
   by_cases h2 : c.toNat ≤ 90
   ·rw [decide_eq_true h2]
    have d2 : decide ((c.toNat : Int) ≤ 90) = true := decide_eq_true (by omega)
    clear hl h1 h2 h0
    go_enter Try.func69, Try.ntmps69
    go_wp2_with fail
    go_ret
    exact ⟨rfl, rfl⟩
   ·rw [decide_eq_false h2]
    have d2 : decide ((c.toNat : Int) ≤ 90) = false := decide_eq_false (by omega)
    clear hl h1 h2 h0
    go_enter Try.func69, Try.ntmps69
    go_wp2_with fail
    go_ret
    exact ⟨rfl, rfl⟩
  ·rw [decide_eq_false h1]
   have d1 : decide ((65 : Int) ≤ (c.toNat : Int)) = false := decide_eq_false (by omega)
   clear hl h1 h0
   go_enter Try.func69, Try.ntmps69
   go_wp2_with fail
   go_ret
   exact ⟨rfl, rfl⟩
theorem fail_at {w0 ws w1 w : World} {P : Nat → Prop} {cb : Nat} {m : MK} {s : CSt} (h : CT w0 P ws w1 cb m s) (hb : Below w1.heap.size w1 w) (name : ByteArray) (hn : name.size ≤ big63) (x : Int) : Calls Try.prog 54 #[.pointer (some ⟨cb, 0, none⟩), .string name, .int .i64 x] w fun e w' => e = .returned (.tuple #[]) ∧ CT w0 P ws w' cb m (failP s name x) := by
 have h2 := h.below hb
 refine (fail_any h2.1 name hn x).mono ?_
 rintro e w' ⟨he, hc⟩
 exact ⟨he, h2.go hc⟩
theorem emit_at {w0 ws w1 w : World} {P : Nat → Prop} {cb : Nat} {m : MK} {s : CSt} (h : CT w0 P ws w1 cb m s) (hb : Below w1.heap.size w1 w) (op a b : Int) (hf : s.code.length ≤ 1000000) : Calls Try.prog 45 #[.pointer (some ⟨cb, 0, none⟩), .int .i64 op, .int .i64 a, .int .i64 b] w fun e w' => e = .returned (.tuple #[]) ∧ CT w0 P ws w' cb m (emitP s op a b) := by
 have h2 := h.below hb
 refine (emit_any h2.1 op a b hf).mono ?_
 rintro e w' ⟨he, hc⟩
 exact ⟨he, h2.go hc⟩
end Go.Proofs.Ytnojndgmgkgnpaa
