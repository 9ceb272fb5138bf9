/- Chapter 10: a method is read off a node. -/
import Derived.Test.YtnojndgmgkgnpaaCV
import Derived.Test.YtnojndgmgkgnpaaL1
namespace Go.Proofs.Ytnojndgmgkgnpaa
open Go.ChangeShapes Go.WideShapes Go.ChangeAt Go.RowKit Go.Deep Go.Joins Go.Maps
set_option linter.unusedVariables false
set_option linter.unusedSimpArgs false
theorem six_turns {T : Nat → Prop} {w w' : World} (h : Turns T w w') (b : Nat) (hb : T b) {x0 x1 x2 x3 x4 x5 : Value} : Turns T w ((((((w'.setCell ⟨b, 0, none⟩ x0).setCell ⟨b, 1, none⟩ x1).setCell ⟨b, 2, none⟩ x2).setCell ⟨b, 3, none⟩ x3).setCell ⟨b, 4, none⟩ x4).setCell ⟨b, 5, none⟩ x5) :=
 (((((h.setCell ⟨b, 0, none⟩ x0 (.inl hb)).setCell ⟨b, 1, none⟩ x1 (.inl hb)).setCell ⟨b, 2, none⟩ x2 (.inl hb)).setCell ⟨b, 3, none⟩ x3 (.inl hb)).setCell ⟨b, 4, none⟩ x4 (.inl hb)).setCell ⟨b, 5, none⟩ x5 (.inl hb)
/-- what is told of a method that was read -/
def ReadP (r : MetT × ByteArray × Int) (w : World) (e : Ending) (w' : World) : Prop := ∃ lv cv D ps, e = .returned (.tuple #[.agg #[.string r.1.sel, .int .i64 (r.1.args : Int), .int .i64 (r.1.temps : Int), .int .i64 r.1.prim, lv, cv], .string r.2.1, .int .i64 r.2.2]) ∧
 LitRow w' D lv ps ∧ ps.map Prod.fst = r.1.lits ∧ w'.ownsRow 0 37 3 cv r.1.code.length (r.1.code.flatMap insC) ∧ Below w.heap.size w w' ∧ (∀ k, lv.ownBlock = some k → w.heap.size ≤ k ∧ ¬ D k) ∧ (∀ k, cv.ownBlock = some k → w.heap.size ≤ k) ∧ (∀ k, D k → ∃ cur, w'.heap[k]? = some (.cells cur 40 (0, 0))) ∧ r.2.1.size ≤ big63
theorem ReadP.no {w w' : World} {e : Ending} {nm : ByteArray} {er : Int} (he : e = .returned (.tuple #[.agg #[.string eB, .int .i64 0, .int .i64 0, .int .i64 0, .slice none 0 0, .slice none 0 0], .string nm, .int .i64 er])) (hb : Below w.heap.size w w') (hn : nm.size ≤ big63) : ReadP (noMet, nm, er) w e w' :=
 ⟨.slice none 0 0, .slice none 0 0, fun _ => False, [], he, LitRow.nil _ _, rfl, World.ownsRow_nil _ _ _ _, hb, fun k hk => (by cases hk), fun k hk => (by cases hk), fun k hk => hk.elim, hn⟩
def stK (fields : List ByteArray) (k : Nat) : CSt := ⟨fieldsN (fields.take k), 0, [], [], eB, 0⟩
/-- a method is read off a node that is one -/
def readT (fields : List ByteArray) (value : Bool) (x : NodT) : MetT × ByteArray × Int :=
 let s := wholeP (valP x.size) x value (startC fields)
 if s.err ≠ 0 then (noMet, s.ename, s.err)
 else if 60 < s.lits.length then (noMet, eB, 18)
 else if 400 < s.code.length then (noMet, eB, 12)
 else if s.code.all mayB then (⟨x.text, x.names.length, s.temps, x.num, s.lits, s.code⟩, eB, 0)
 else (noMet, eB, 12)
theorem start_cy (w : World) (x : NodT) (q : NS) (fields : List ByteArray) : CY w (fun k => k < w.heap.size + 2) (((w.alloc (.cells #[.int .i64 x.kind, .string x.text, .int .i64 x.num, .slice q.pn x.names.length q.cn, .slice q.pt x.temps.length q.ct, .slice q.pk x.kids.length q.ck] 25)).alloc (.cells #[.string eB, .int .i64 0, .int .i64 0, .int .i64 0, .slice none 0 0, .slice none 0 0] 33)).alloc (.cells #[.string x.text, .int .i64 (x.names.length : Int), .int .i64 0, .int .i64 x.num, .slice none 0 0, .slice none 0 0, .slice none 0 0, .string eB, .int .i64 0] 73)) (w.heap.size + 2) (⟨x.text, x.names.length, x.num⟩) (stK fields 0) (.slice none 0 0) (.slice none 0 0) (.slice none 0 0) (fun _ => False) [] := by
 have hb := heap_alloc_new ((w.alloc (.cells #[.int .i64 x.kind, .string x.text, .int .i64 x.num, .slice q.pn x.names.length q.cn, .slice q.pt x.temps.length q.ct, .slice q.pk x.kids.length q.ck] 25)).alloc (.cells #[.string eB, .int .i64 0, .int .i64 0, .int .i64 0, .slice none 0 0, .slice none 0 0] 33)) (.cells #[.string x.text, .int .i64 (x.names.length : Int), .int .i64 0, .int .i64 x.num, .slice none 0 0, .slice none 0 0, .slice none 0 0, .string eB, .int .i64 0] 73)
 simp only [World.size_alloc] at hb
 refine ⟨hb, LitRow.nil _ _, rfl, World.ownsRow_nil _ _ _ _, .inl ⟨World.ownsRow_nil _ _ _ _, fun k hk => (by cases hk)⟩, fun k hk => (by simp [stK, fieldsN] at hk), fun z => (by omega), fun k hk => (by cases hk), fun k hk => (by cases hk), fun k hk => hk.elim, fun k hk => hk.elim, ?_, fun k hk => Nat.lt_of_lt_of_le hk (Nat.le_add_right _ _), fun k hk => ?_, by show eB.size ≤ big63; decide⟩
 ·(repeat' first | (with_reducible first | exact bl0 _ _ | assumption | apply bl1 | apply bl2 | apply bl3 | apply bl4) | go_size)
 ·simp only [World.size_alloc]; omega
theorem stK_len (fields : List ByteArray) (k : Nat) (h : k ≤ fields.length) : (stK fields k).names.length = k := by
 show (fieldsN (fields.take k)).length = k
 unfold fieldsN
 rw [List.length_mapIdx, List.length_take]; omega
theorem stK_next (fields : List ByteArray) (k : Nat) (h : k < fields.length) {nm : ByteArray} (hn : fields[k] = nm) : { stK fields k with names := (stK fields k).names ++ [⟨nm, 1, (k : Int)⟩] } = stK fields (k + 1) := by
 unfold stK fieldsN
 simp only
 rw [List.take_succ_eq_append_getElem h, List.mapIdx_append, hn]
 simp
 omega
theorem whole_any {f : Nat} (hv : VSpec f) {w0 w : World} {P : Nat → Prop} {cb : Nat} {m : MK} {s : CSt} (h : CX w0 P w cb m s) {x : NodT} {q : NS} (hn : IsNd w0 (fun _ => True) x q) (hx : x.size ≤ f + 1) (hf : s.code.length + 8 * x.size ≤ 1000000) (hl : s.lits.length + x.size ≤ 100000) (value : Bool) :
  Calls Try.prog 30 #[.pointer (some ⟨cb, 0, none⟩), ndV x q, .bool value] w fun e w' => e = .returned (.tuple #[]) ∧ CT w0 P w w' cb m (wholeP (valP f) x value s) := by
 cases value
 ·exact whole_false hv h hn hx hf hl
 ·exact whole_true hv h hn hx hf hl
set_option maxRecDepth 100000 in
set_option maxHeartbeats 16000000 in
theorem read_any {w : World} {x : NodT} {q : NS} (hn : IsNd w (fun _ => True) x q) {D : Nat → Prop} {p : Option Addr} {n c : Nat} {fields : List ByteArray} (hs : Strs w D p fields) (hl : fields.length = n) (hle : n ≤ 9223372036854775807) (hx : x.size ≤ 100000) (value : Bool) :
  Calls Try.prog 19 #[ndV x q, .slice p n c, .bool value] w (ReadP (readC x.size x fields value) w) := by
 have HN := Lib.hid hn
 have HS := Lib.hid hs
 have HL := Lib.hid hl
 have HSZ := Lib.hid hx
 unfold ndV
 clear hn hs hl hx
 by_cases hk : x.kind = 11
 ·have q1 : (x.kind == 11) = true := by simpa using hk
  have q2 : (x.kind != 11) = false := by simp [hk]
  by_cases h8 : 8 < n
  ·have d1 : decide ((8 : Int) < (n : Int)) = true := decide_eq_true (by omega)
   have d2 : decide (8 < n) = true := decide_eq_true h8
   have HRD : Hid (readC x.size x fields value = (noMet, eB, 1)) := Lib.hid (by unfold readC; rw [if_pos (.inr (by rw [HL.out]; exact h8))])
   rw [HRD.out]
   clear hk h8
   go_enter Try.func19, Try.ntmps19
   go_wp2_with fail
   refine bodyPost_ret (v := .tuple #[.agg #[.string eB, .int .i64 0, .int .i64 0, .int .i64 0, .slice none 0 0, .slice none 0 0], .string eB, .int .i64 1]) (by simp [results, Try.results19, go_sem]) rfl ?_
   exact ReadP.no rfl bel (by decide)
  ·have hm : Hid (readC x.size x fields value = readT fields value x) := Lib.hid (by
    unfold readC readT
    rw [if_neg (fun z => z.elim (fun e => e hk) (fun e => by rw [HL.out] at e; exact h8 e))])
   rw [hm.out]
   have d1 : decide ((8 : Int) < (n : Int)) = false := decide_eq_false (by omega)
   have d2 : decide (8 < n) = false := decide_eq_false h8
   have HN8 : Hid (n ≤ 8) := Lib.hid (by omega)
   have HSC := Lib.hid (start_cy w x q fields)
   have HCB : Hid (∃ cb, cb = w.heap.size + 2) := Lib.hid ⟨_, rfl⟩
   clear hk h8 hm
   go_enter Try.func19, Try.ntmps19
   go_wp2_with fail
   obtain ⟨w3, hw3⟩ : ∃ w3, (((w.alloc (.cells #[.int .i64 x.kind, .string x.text, .int .i64 x.num, .slice q.pn x.names.length q.cn, .slice q.pt x.temps.length q.ct, .slice q.pk x.kids.length q.ck] 25)).alloc (.cells #[.string eB, .int .i64 0, .int .i64 0, .int .i64 0, .slice none 0 0, .slice none 0 0] 33)).alloc (.cells #[.string x.text, .int .i64 (x.names.length : Int), .int .i64 0, .int .i64 x.num, .slice none 0 0, .slice none 0 0, .slice none 0 0, .string eB, .int .i64 0] 73)) = w3 := ⟨_, rfl⟩
   obtain ⟨cb, hcb⟩ : ∃ cb, w.heap.size + 1 + 1 = cb := ⟨_, rfl⟩
   have hsc := HSC.out
   rw [show w.heap.size + 2 = cb from hcb] at hsc
   rw [hw3] at hsc ⊢
   rw [hcb]
   have HSC3 := Lib.hid hsc
   have HB3 : Hid (Below w.heap.size w w3) := Lib.hid (by rw [← hw3]; (repeat' first | (with_reducible first | exact bl0 _ _ | assumption | apply bl1 | apply bl2 | apply bl3 | apply bl4) | go_size))
   have HXB : Hid (w3.heap[w.heap.size]? = some (.cells #[.int .i64 x.kind, .string x.text, .int .i64 x.num, .slice q.pn x.names.length q.cn, .slice q.pt x.temps.length q.ct, .slice q.pk x.kids.length q.ck] 25 (0, 0)) ∧ w3.heap[w.heap.size + 1]? = some (.cells #[.string eB, .int .i64 0, .int .i64 0, .int .i64 0, .slice none 0 0, .slice none 0 0] 33 (0, 0)) ∧ w.heap.size + 1 < cb) := Lib.hid (by
    rw [← hw3]
    have h1 := heap_alloc_new w (.cells #[.int .i64 x.kind, .string x.text, .int .i64 x.num, .slice q.pn x.names.length q.cn, .slice q.pt x.temps.length q.ct, .slice q.pk x.kids.length q.ck] 25)
    have h2 := heap_alloc_new (w.alloc (.cells #[.int .i64 x.kind, .string x.text, .int .i64 x.num, .slice q.pn x.names.length q.cn, .slice q.pt x.temps.length q.ct, .slice q.pk x.kids.length q.ck] 25)) (.cells #[.string eB, .int .i64 0, .int .i64 0, .int .i64 0, .slice none 0 0, .slice none 0 0] 33)
    rw [World.size_alloc] at h2
    have al : ∀ (W : World) (o : Obj) (k : Nat) (v : Obj), W.heap[k]? = some v → (W.alloc o).heap[k]? = some v := fun W o k v h => ((Below.refl _ _).alloc (Nat.le_refl _) _ |>.block _ (lt_of_block h)).trans h
    exact ⟨al _ _ _ _ (al _ _ _ _ h1), al _ _ _ _ h2, by omega⟩)
   clear hsc hw3 HSC hcb
   go_loopw [35] (fun i wr => ∃ (k : Nat) (lv cv nv : Value) (D : Nat → Prop) (ps : List LP), i = .int .i64 k ∧ k ≤ n ∧ CY w (fun k => k < cb) wr cb (⟨x.text, x.names.length, x.num⟩) (stK fields k) lv cv nv D ps ∧ (wr.ownsRow 0 75 4 nv k ((stK fields k).names.flatMap nmC) ∧ ∀ j, nv.ownBlock = some j → ¬ (fun k => k < cb) j ∧ j ≠ cb) ∧ Turns (outP (fun k => k < cb)) w3 wr) (fun i _ => n - (intOf i).toNat)
   case atStart => exact ⟨0, _, _, _, _, _, rfl, Nat.zero_le _, HSC3.out, ⟨World.ownsRow_nil _ _ _ _, fun j hj => (by cases hj)⟩, Turns.refl _ _⟩
   case round =>
    obtain ⟨k, lv, cv, nv, D, ps, rfl, hk, hy, ⟨hown, hat⟩, hts⟩ := hrel
    have HTS := Lib.hid hts
    by_cases hlt : k < n
    ·have d1 : decide (k < n) = true := decide_eq_true hlt
     have d3 : decide ((k : Int) < (n : Int)) = true := decide_eq_true (by omega)
     obtain ⟨b, off, rfl, hbl, _, hc, hsz⟩ := HS.out k (by rw [HL.out]; exact hlt)
     obtain ⟨nm, hnm⟩ : ∃ nm, fields[k]'(by rw [HL.out]; exact hlt) = nm := ⟨_, rfl⟩
     rw [hnm] at hc hsz
     have hcw : wr.cell? ⟨b, off + k, none⟩ = some (.string nm) := (World.cell?_of_block (hy.stat.block b hbl)).trans hc
     have hbw : b < wr.heap.size := Nat.lt_of_lt_of_le hbl hy.stat.size
     have HST : Hid ({ stK fields k with names := (stK fields k).names ++ [⟨nm, 1, (k : Int)⟩] } = stK fields (k + 1)) := Lib.hid (stK_next fields k (by rw [HL.out]; exact hlt) hnm)
     have HSZ9 := Lib.hid hsz
     have HLT := Lib.hid hlt
     have g0 : (0 : Int) ≤ (k : Int) := by omega
     have g1 : (k : Int) < (n : Int) := by omega
     obtain ⟨A, c9, hnv, hcl, hcm⟩ := own_slice hown
     subst hnv
     have k6 : wr.cell? ⟨cb, 6, none⟩ = some (.slice A k c9) := by rw [hy.cell]; rfl
     have hHAT : Hid (∀ j, (Value.slice A k c9).ownBlock = some j → (Value.slice A k c9).ownBlock = some j ∧ ¬ (fun k => k < cb) j ∧ j ≠ cb) := Lib.hid (fun j hj => ⟨hj, hat j hj⟩)
     have HYA : Hid (CY w (fun k => k < cb) (wr.alloc (.cells #[.string nm, .bool true, .bool false, .int .i64 (k : Int)] 75)) cb (⟨x.text, x.names.length, x.num⟩) (stK fields k) lv cv (.slice A k c9) D ps) := Lib.hid (hy.under ((Below.refl _ _).alloc (Nat.le_refl _) _))
     have HGK : Hid ((wr.alloc (.cells #[.string nm, .bool true, .bool false, .int .i64 (k : Int)] 75)).heap[wr.heap.size]? = some (.cells #[.string nm, .bool true, .bool false, .int .i64 (k : Int)] 75 (0, 0))) := Lib.hid (heap_alloc_new wr _)
     have HOK : Hid ((wr.alloc (.cells #[.string nm, .bool true, .bool false, .int .i64 (k : Int)] 75)).ownsRow 0 75 4 (.slice A k c9) k ((stK fields k).names.flatMap nmC)) := Lib.hid (ownsRow_same hown (by rw [World.size_alloc]; exact Nat.le_succ _) (fun j hj => ((Below.refl _ _).alloc (Nat.le_refl _) _ |>.block _ (World.ownsRow.lt hown j hj).2)))
     have HLN : Hid ((stK fields k).names.length = k) := Lib.hid (stK_len fields k (by rw [HL.out]; omega))
     obtain ⟨i0, hi, hz0, hz1, hz2⟩ := info_parts infoK
     clear hy hown hat hts hc hsz hnm hlt
     go_wp2_with (first | (at_builtin; refine wpList_append_own_at _ rfl _ _ 71 rfl 0 75 i0 (.agg #[.string eB, .bool false, .bool false, .int .i64 0]) 4 32 Try.underlying71 hi hz0 hz1 hz2 rfl (by decide) _ _ _ rfl HOK.out ⟨wr.heap.size, 0, none⟩ 1 1 [.string nm, .bool true, .bool false, .int .i64 (k : Int)] rfl rfl (cells_block HGK.out) (by simp [Value.oneCell']) (by unfold maxLen; have := HN8.out; omega) (by have := HN8.out; omega) (Nat.zero_le _) ?_; intro v5 w5 hown hg _ hat4; have hat5 : v5.ownBlock = (Value.slice A k c9).ownBlock ∨ v5.ownBlock = some (wr.alloc (.cells #[.string nm, .bool true, .bool false, .int .i64 (k : Int)] 75)).heap.size := hat4; clear hat4; have hg6 : (wr.alloc (.cells #[.string nm, .bool true, .bool false, .int .i64 (k : Int)] 75)).grownBy w5 (Value.slice A k c9).ownBlock := hg; have hna := HYA.out.named (w' := w5) (nv' := v5) ⟨nm, 1, (k : Int)⟩ ⟨HSZ9.out, (by show (0 : Int) ≤ (k : Int); omega), (by show (k : Int) ≤ 1000; have := HN8.out; have := HLT.out; omega)⟩ (by rw [HLN.out]; exact hown) hg6 hHAT.out (fun j hj => by rcases hat5 with e | e; exact .inl (by rw [← e]; exact hj); rw [e] at hj; cases hj; exact .inr (Nat.le_refl _)); have HOW : Hid (w5.ownsRow 0 75 4 v5 (k + 1) ((stK fields k).names.flatMap nmC ++ nmC ⟨nm, 1, (k : Int)⟩) ∧ ∀ j, v5.ownBlock = some j → ¬ (fun k => k < cb) j ∧ j ≠ cb) := Lib.hid ⟨hown, fun j hj => (by rcases hat5 with e | e; exact (hHAT.out j (by rw [← e]; exact hj)).2; rw [e] at hj; cases hj; have h9 := lt_of_block HYA.out.box; exact ⟨fun z => (by have z' : wr.heap.size + 1 < cb := (by simpa using z); rw [World.size_alloc] at h9; omega), fun z => (by rw [World.size_alloc] at z h9; omega)⟩)⟩; obtain ⟨A5, n5, c5, hnv5⟩ := hna.sl; subst hnv5; have HNA := Lib.hid hna; have s5 : w5.cell? ⟨cb, 6, none⟩ = some (.slice A k c9) := (by simp [World.cell?, hna.box, boxC]); have sf5 : w5.frozen? ⟨cb, 6, none⟩ = false := (by simp [World.frozen?, hna.box]); clear hna hown hg hg6 hat5))
     go_roundw
     case rel =>
      have hcy := HNA.out.cy
      rw [HST.out] at hcy
      refine ⟨k + 1, _, _, _, _, _, by go_num, HLT.out, hcy, ⟨?_, HOW.out.2⟩, (HTS.out.trans (Turns.of_below ((Below.refl _ _).alloc (Nat.le_refl _) _))).trans HNA.out.ts⟩
      rw [← HST.out]
      show World.ownsRow _ 0 75 4 _ (k + 1) (((stK fields k).names ++ [_]).flatMap nmC)
      rw [List.flatMap_append]
      refine ownsRow_same HOW.out.1 (by simp) (fun j hj => Below.heap_setCell _ _ _ _ (fun e => (HOW.out.2 j hj).2 e))
     case measure => simp [intOf]; have := HLT.out; omega
    ·have hkn : k = n := by omega
     have d1 : decide (k < n) = false := decide_eq_false hlt
     have d3 : decide ((k : Int) < (n : Int)) = false := decide_eq_false (by omega)
     have hst : stK fields k = startC fields := by unfold stK startC; rw [hkn, ← HL.out, List.take_length]
     clear hlt
     subst hkn
     rw [hst] at hy
     have hfl : (startC fields).names.length = k := by rw [← hst]; exact stK_len fields k (by rw [HL.out]; exact Nat.le_refl _)
     have HX : Hid (CX w (fun k => k < cb) wr cb (⟨x.text, x.names.length, x.num⟩) (startC fields)) := Lib.hid ⟨_, _, _, _, _, hy, Nat.zero_le _, by rw [hfl]; have := HN8.out; show k ≤ 8 + 0; omega⟩
     clear hy hown hat hts hst hfl
     have hxb := (HTS.out.block w.heap.size (lt_of_block HXB.out.1) (fun z => z (by have h9 := HXB.out.2.2; show w.heap.size < cb; omega))).trans HXB.out.1
     obtain ⟨e0, e1, e2, e3, e4, e5⟩ := cc6 hxb
     obtain ⟨S, hS⟩ : ∃ S, wholeP (valP x.size) x value (startC fields) = S := ⟨_, rfl⟩
     have hwc : ∀ W, Below wr.heap.size wr W → Calls Try.prog 30 #[.pointer (some ⟨cb, 0, none⟩), ndV x q, .bool value] W fun e w' => e = .returned (.tuple #[]) ∧ CT w (fun k => k < cb) wr w' cb (⟨x.text, x.names.length, x.num⟩) S := fun W hb => by
      have h2 := HX.out.ct.below hb
      refine (whole_any (vspec x.size) h2.1 HN.out (Nat.le_succ _) (by have h9 := HSZ.out; show 0 + 8 * x.size ≤ 1000000; omega) (by have h9 := HSZ.out; show 0 + x.size ≤ 100000; omega) value).mono ?_
      rw [hS]
      rintro e w' ⟨he, hc⟩
      exact ⟨he, h2.go hc⟩
     unfold ndV at hwc
     have HWC := Lib.hid hwc
     have HRT : Hid (readT fields value x = if S.err ≠ 0 then (noMet, S.ename, S.err)
 else if 60 < S.lits.length then (noMet, eB, 18)
 else if 400 < S.code.length then (noMet, eB, 12)
 else if S.code.all mayB then (⟨x.text, x.names.length, S.temps, x.num, S.lits, S.code⟩, eB, 0)
 else (noMet, eB, 12)) := Lib.hid (by unfold readT; rw [hS])
     clear hwc hS hxb
     go_upto_block 2 with (first | (go_at_call 30; (with_reducible refine (HWC.out _ bel).mono ?_); rintro e w9 ⟨rfl, hx3⟩; have HX9 := Lib.hid hx3; clear hx3))
     have HTS9 : Hid (Turns (outP (fun k => k < cb)) w3 w9) := Lib.hid (HTS.out.trans HX9.out.2)
     have HTB : Hid (w9.heap[w.heap.size + 1]? = some (.cells #[.string eB, .int .i64 0, .int .i64 0, .int .i64 0, .slice none 0 0, .slice none 0 0] 33 (0, 0))) := Lib.hid ((HTS9.out.block (w.heap.size + 1) (lt_of_block HXB.out.2.1) (fun z => z HXB.out.2.2)).trans HXB.out.2.1)
     have HBW : Hid (Below w.heap.size w w9) := Lib.hid HX9.out.1.stat
     obtain ⟨lv, cv, nv, D, ps, hy, hfw⟩ := HX9.out.1
     obtain ⟨Al, cl, hlv, hll, _⟩ := own_slice hy.lits.own
     obtain ⟨Ac, cc, hcv, hcl, _⟩ := own_slice hy.code
     subst hlv
     subst hcv
     obtain ⟨nl, hnl⟩ : ∃ nl, S.lits.length = nl := ⟨_, rfl⟩
     obtain ⟨nc, hnc⟩ : ∃ nc, S.code.length = nc := ⟨_, rfl⟩
     have hpl : ps.length = nl := by rw [← hnl, ← hy.lps, List.length_map]
     rw [hpl] at hy
     rw [hnc] at hy
     have k0 : w9.cell? ⟨cb, 0, none⟩ = some (.string x.text) := by rw [hy.cell]; rfl
     have k1 : w9.cell? ⟨cb, 1, none⟩ = some (.int .i64 (x.names.length : Int)) := by rw [hy.cell]; rfl
     have k2 : w9.cell? ⟨cb, 2, none⟩ = some (.int .i64 (S.temps : Int)) := by rw [hy.cell]; rfl
     have k3 : w9.cell? ⟨cb, 3, none⟩ = some (.int .i64 x.num) := by rw [hy.cell]; rfl
     have k4 : w9.cell? ⟨cb, 4, none⟩ = some (.slice Al nl cl) := by rw [hy.cell]; rfl
     have k5 : w9.cell? ⟨cb, 5, none⟩ = some (.slice Ac nc cc) := by rw [hy.cell]; rfl
     have k7 : w9.cell? ⟨cb, 7, none⟩ = some (.string S.ename) := by rw [hy.cell]; rfl
     have k8 : w9.cell? ⟨cb, 8, none⟩ = some (.int .i64 S.err) := by rw [hy.cell]; rfl
     have t0 : w9.cell? ⟨w.heap.size + 1, 0, none⟩ = some (.string eB) := cell_in HTB.out rfl
     have f0 : w9.frozen? ⟨w.heap.size + 1, 0, none⟩ = false := (by simp [World.frozen?, HTB.out])
     have t1 : w9.cell? ⟨w.heap.size + 1, 1, none⟩ = some (.int .i64 0) := cell_in HTB.out rfl
     have f1 : w9.frozen? ⟨w.heap.size + 1, 1, none⟩ = false := (by simp [World.frozen?, HTB.out])
     have t2 : w9.cell? ⟨w.heap.size + 1, 2, none⟩ = some (.int .i64 0) := cell_in HTB.out rfl
     have f2 : w9.frozen? ⟨w.heap.size + 1, 2, none⟩ = false := (by simp [World.frozen?, HTB.out])
     have t3 : w9.cell? ⟨w.heap.size + 1, 3, none⟩ = some (.int .i64 0) := cell_in HTB.out rfl
     have f3 : w9.frozen? ⟨w.heap.size + 1, 3, none⟩ = false := (by simp [World.frozen?, HTB.out])
     have t4 : w9.cell? ⟨w.heap.size + 1, 4, none⟩ = some (.slice none 0 0) := cell_in HTB.out rfl
     have f4 : w9.frozen? ⟨w.heap.size + 1, 4, none⟩ = false := (by simp [World.frozen?, HTB.out])
     have t5 : w9.cell? ⟨w.heap.size + 1, 5, none⟩ = some (.slice none 0 0) := cell_in HTB.out rfl
     have f5 : w9.frozen? ⟨w.heap.size + 1, 5, none⟩ = false := (by simp [World.frozen?, HTB.out])
     have HY := Lib.hid hy
     have HNL := Lib.hid hnl
     have HNC := Lib.hid hnc
     have HPL := Lib.hid hpl
     clear e0 e1 e2 e3 e4 e5 hy hfw hll hcl hnl hnc hpl
     by_cases he : S.err = 0
     ·rw [he] at k8
      have HE := Lib.hid he
      clear he
      have y1 : (0 : Int) = 0 := rfl
      by_cases h60 : 60 < nl
      ·have v1 : decide ((60 : Int) < (nl : Int)) = true := decide_eq_true (by omega)
       have HR2 : Hid (readT fields value x = (noMet, eB, 18)) := Lib.hid (by rw [HRT.out, if_neg (fun z => z HE.out), if_pos (by rw [HNL.out]; exact h60)])
       rw [HR2.out]
       clear h60
       go_wp2_with fail
       obtain ⟨W9, hW9⟩ : ∃ W9, W9 = ((((((w9.setCell ⟨w.heap.size + 1, 0, none⟩ (.string eB)).setCell ⟨w.heap.size + 1, 1, none⟩ (.int .i64 0)).setCell ⟨w.heap.size + 1, 2, none⟩ (.int .i64 0)).setCell ⟨w.heap.size + 1, 3, none⟩ (.int .i64 0)).setCell ⟨w.heap.size + 1, 4, none⟩ (.slice none 0 0)).setCell ⟨w.heap.size + 1, 5, none⟩ (.slice none 0 0)) := ⟨_, rfl⟩
       have h9 : W9.heap[w.heap.size + 1]? = some (.cells #[.string eB, .int .i64 0, .int .i64 0, .int .i64 0, .slice none 0 0, .slice none 0 0] 33 (0, 0)) := by rw [hW9]; exact agg_set6 HTB.out
       obtain ⟨z0, z1, z2, z3, z4, z5⟩ := cc6 h9
       have HW9 : Hid (Below w.heap.size w9 W9) := Lib.hid (by rw [hW9]; exact setCells6_below (Below.refl _ _) (Nat.le_succ _))
       rw [← hW9]
       clear hW9 h9
       refine bodyPost_ret (v := .tuple #[.agg #[.string eB, .int .i64 0, .int .i64 0, .int .i64 0, .slice none 0 0, .slice none 0 0], .string eB, .int .i64 18]) (by simp [results, Try.results19, go_sem, z0, z1, z2, z3, z4, z5]) rfl ?_
       exact ReadP.no rfl (HBW.out.trans HW9.out) (by decide)
      ·have v1 : decide ((60 : Int) < (nl : Int)) = false := decide_eq_false (by omega)
       by_cases h400 : 400 < nc
       ·have v2 : decide ((400 : Int) < (nc : Int)) = true := decide_eq_true (by omega)
        have HR2 : Hid (readT fields value x = (noMet, eB, 12)) := Lib.hid (by rw [HRT.out, if_neg (fun z => z HE.out), if_neg (by rw [HNL.out]; exact h60), if_pos (by rw [HNC.out]; exact h400)])
        rw [HR2.out]
        clear h60 h400
        go_wp2_with fail
        obtain ⟨W9, hW9⟩ : ∃ W9, W9 = ((((((w9.setCell ⟨w.heap.size + 1, 0, none⟩ (.string eB)).setCell ⟨w.heap.size + 1, 1, none⟩ (.int .i64 0)).setCell ⟨w.heap.size + 1, 2, none⟩ (.int .i64 0)).setCell ⟨w.heap.size + 1, 3, none⟩ (.int .i64 0)).setCell ⟨w.heap.size + 1, 4, none⟩ (.slice none 0 0)).setCell ⟨w.heap.size + 1, 5, none⟩ (.slice none 0 0)) := ⟨_, rfl⟩
        have h9 : W9.heap[w.heap.size + 1]? = some (.cells #[.string eB, .int .i64 0, .int .i64 0, .int .i64 0, .slice none 0 0, .slice none 0 0] 33 (0, 0)) := by rw [hW9]; exact agg_set6 HTB.out
        obtain ⟨z0, z1, z2, z3, z4, z5⟩ := cc6 h9
        have HW9 : Hid (Below w.heap.size w9 W9) := Lib.hid (by rw [hW9]; exact setCells6_below (Below.refl _ _) (Nat.le_succ _))
        rw [← hW9]
        clear hW9 h9
        refine bodyPost_ret (v := .tuple #[.agg #[.string eB, .int .i64 0, .int .i64 0, .int .i64 0, .slice none 0 0, .slice none 0 0], .string eB, .int .i64 12]) (by simp [results, Try.results19, go_sem, z0, z1, z2, z3, z4, z5]) rfl ?_
        exact ReadP.no rfl (HBW.out.trans HW9.out) (by decide)
       ·have v2 : decide ((400 : Int) < (nc : Int)) = false := decide_eq_false (by omega)
        have HRT2 : Hid (readT fields value x = if S.code.all mayB then (⟨x.text, x.names.length, S.temps, x.num, S.lits, S.code⟩, eB, 0) else (noMet, eB, 12)) := Lib.hid (by rw [HRT.out, if_neg (fun z => z HE.out), if_neg (by rw [HNL.out]; exact h60), if_neg (by rw [HNC.out]; exact h400)])
        have hnc4 : nc ≤ 400 := by omega
        clear h60 h400
        obtain ⟨curc, hcurc⟩ : ∃ cur, ∀ kk, (Value.slice Ac nc cc).ownBlock = some kk → w9.heap[kk]? = some (.cells cur 37 (0, 0)) := by
         rcases hA : (Value.slice Ac nc cc).ownBlock with _ | kk
         ·exact ⟨#[], fun kk e => (by cases e)⟩
         ·obtain ⟨cur, hc⟩ := own_type HY.out.code hA
          exact ⟨cur, fun kk' e => (by cases e; exact hc)⟩
        clear hcurc curc
        go_wp2_with fail
        go_loopw [96] (fun i wr => ∃ (k : Nat), i = .int .i64 k ∧ k ≤ nc ∧ (S.code.take k).all mayB = true ∧ Below w9.heap.size w9 wr) (fun i _ => nc - (intOf i).toNat)
        case atStart => exact ⟨0, rfl, Nat.zero_le _, rfl, Below.refl _ _⟩
        case round =>
         obtain ⟨j, rfl, hj, hall, hbr⟩ := hrel
         have HBR := Lib.hid hbr
         have HALL := Lib.hid hall
         have hsz9 := hbr.size
         clear t0 t1 t2 t3 t4 t5 f0 f1 f2 f3 f4 f5 k0 k1 k2 k3 k4 k5 k7 k8
         by_cases hlt : j < nc
         ·have d1 : decide (j < nc) = true := decide_eq_true hlt
          have d2 : decide ((j : Int) < (nc : Int)) = true := decide_eq_true (by omega)
          have hjl : j < S.code.length := by rw [HNC.out]; exact hlt
          obtain ⟨⟨yo, ya, yb⟩, hy9⟩ : ∃ y, S.code[j] = y := ⟨_, rfl⟩
          obtain ⟨g, rfl⟩ : ∃ g, Ac = some ⟨g, 0, none⟩ := by
           rcases HY.out.code.2 with ⟨_, h0⟩ | ⟨g, cap, cur, hv, _⟩
           ·rw [HNC.out] at h0; omega
           ·simp only [Value.slice.injEq] at hv; exact ⟨g, hv.1⟩
          have hgl := (World.ownsRow.lt HY.out.code g rfl).2
          have hcl : ∀ jj, jj < 3 → wr.cell? ⟨g, j * 3 + jj, none⟩ = (insC ⟨yo, ya, yb⟩)[jj]? := fun jj hjj => by
           rw [hbr.cell (p := ⟨g, j * 3 + jj, none⟩) hgl]
           have ho := HY.out.code
           rw [HNC.out] at ho
           rw [World.ownsRow.cellAt ho (j * 3 + jj) (by omega), flat_at insC_len S.code j jj hjl hjj, hy9]
          have i0 : wr.cell? ⟨g, j * 3, none⟩ = some (.int .i64 yo) := hcl 0 (by omega)
          have i1 : wr.cell? ⟨g, j * 3 + 1, none⟩ = some (.int .i64 ya) := hcl 1 (by omega)
          have i2 : wr.cell? ⟨g, j * 3 + 2, none⟩ = some (.int .i64 yb) := hcl 2 (by omega)
          have HYJ : Hid (∃ h : j < S.code.length, S.code[j] = ⟨yo, ya, yb⟩) := Lib.hid ⟨hjl, hy9⟩
          have HLT := Lib.hid hlt
          have g0 : (0 : Int) ≤ (j : Int) := by omega
          have g1 : (j : Int) < (nc : Int) := by omega
          have hgw : g < wr.heap.size := Nat.lt_of_lt_of_le hgl hbr.size
          obtain ⟨mv, hmv⟩ : ∃ mv, mayB ⟨yo, ya, yb⟩ = mv := ⟨_, rfl⟩
          have HMV := Lib.hid hmv
          have HMC : Hid (∀ W, Calls Try.prog 31 #[.agg #[.int .i64 yo, .int .i64 ya, .int .i64 yb]] W fun e w' => e = .returned (.bool mv) ∧ Below W.heap.size W w') := Lib.hid (fun W => by rw [← hmv]; exact Lv.may_any yo ya yb W)
          clear hcl hgl hy9 hjl hlt hall hmv hbr
          cases mv with
          | true =>
           go_wp2_with (first | (go_at_call 31; (with_reducible refine (HMC.out _).mono ?_); rintro e w10 ⟨rfl, hb10⟩; have HB10 := Lib.hid hb10; clear hb10))
           go_roundw
           case rel => exact ⟨j + 1, by go_num, HLT.out, by obtain ⟨hjl, hy9⟩ := HYJ.out; rw [List.take_succ_eq_append_getElem hjl, List.all_append, HALL.out, hy9]; simp [HMV.out], HBR.out.trans (((Below.refl _ _).alloc (Nat.le_refl _) _).trans (HB10.out.mono (by go_size)) |>.mono HBR.out.size)⟩
           case measure => simp [intOf]; have := HLT.out; omega
          | false =>
           have HR2 : Hid (readT fields value x = (noMet, eB, 12)) := Lib.hid (by rw [HRT2.out, if_neg (fun z => by
            rw [List.all_eq_true] at z
            obtain ⟨hjl, hy9⟩ := HYJ.out
            have h9 := z _ (List.getElem_mem hjl)
            rw [hy9, HMV.out] at h9
            cases h9)])
           go_wp2_with (first | (go_at_call 31; (with_reducible refine (HMC.out _).mono ?_); rintro e w10 ⟨rfl, hb10⟩; have HB10 := Lib.hid hb10; have HB11 : Hid (Below w9.heap.size w9 w10) := Lib.hid (HBR.out.trans ((((Below.refl _ _).alloc (Nat.le_refl _) _).trans (hb10.mono (by go_size))).mono HBR.out.size)); have HT10 : Hid (w10.heap[w.heap.size + 1]? = some (.cells #[.string eB, .int .i64 0, .int .i64 0, .int .i64 0, .slice none 0 0, .slice none 0 0] 33 (0, 0))) := Lib.hid ((HB11.out.block _ (lt_of_block HTB.out)).trans HTB.out); have t0 : w10.cell? ⟨w.heap.size + 1, 0, none⟩ = some (.string eB) := cell_in HT10.out rfl; have f0 : w10.frozen? ⟨w.heap.size + 1, 0, none⟩ = false := (by simp [World.frozen?, HT10.out]); have t1 : w10.cell? ⟨w.heap.size + 1, 1, none⟩ = some (.int .i64 0) := cell_in HT10.out rfl; have f1 : w10.frozen? ⟨w.heap.size + 1, 1, none⟩ = false := (by simp [World.frozen?, HT10.out]); have t2 : w10.cell? ⟨w.heap.size + 1, 2, none⟩ = some (.int .i64 0) := cell_in HT10.out rfl; have f2 : w10.frozen? ⟨w.heap.size + 1, 2, none⟩ = false := (by simp [World.frozen?, HT10.out]); have t3 : w10.cell? ⟨w.heap.size + 1, 3, none⟩ = some (.int .i64 0) := cell_in HT10.out rfl; have f3 : w10.frozen? ⟨w.heap.size + 1, 3, none⟩ = false := (by simp [World.frozen?, HT10.out]); have t4 : w10.cell? ⟨w.heap.size + 1, 4, none⟩ = some (.slice none 0 0) := cell_in HT10.out rfl; have f4 : w10.frozen? ⟨w.heap.size + 1, 4, none⟩ = false := (by simp [World.frozen?, HT10.out]); have t5 : w10.cell? ⟨w.heap.size + 1, 5, none⟩ = some (.slice none 0 0) := cell_in HT10.out rfl; have f5 : w10.frozen? ⟨w.heap.size + 1, 5, none⟩ = false := (by simp [World.frozen?, HT10.out]); clear hb10))
           obtain ⟨W9, hW9⟩ : ∃ W9, W9 = ((((((w10.setCell ⟨w.heap.size + 1, 0, none⟩ (.string eB)).setCell ⟨w.heap.size + 1, 1, none⟩ (.int .i64 0)).setCell ⟨w.heap.size + 1, 2, none⟩ (.int .i64 0)).setCell ⟨w.heap.size + 1, 3, none⟩ (.int .i64 0)).setCell ⟨w.heap.size + 1, 4, none⟩ (.slice none 0 0)).setCell ⟨w.heap.size + 1, 5, none⟩ (.slice none 0 0)) := ⟨_, rfl⟩
           have h9 : W9.heap[w.heap.size + 1]? = some (.cells #[.string eB, .int .i64 0, .int .i64 0, .int .i64 0, .slice none 0 0, .slice none 0 0] 33 (0, 0)) := by rw [hW9]; exact agg_set6 HT10.out
           obtain ⟨z0, z1, z2, z3, z4, z5⟩ := cc6 h9
           have HW9 : Hid (Below w.heap.size w10 W9) := Lib.hid (by rw [hW9]; exact setCells6_below (Below.refl _ _) (Nat.le_succ _))
           rw [← hW9]
           clear hW9 h9
           refine bodyPost_ret (v := .tuple #[.agg #[.string eB, .int .i64 0, .int .i64 0, .int .i64 0, .slice none 0 0, .slice none 0 0], .string eB, .int .i64 12]) (by simp [results, Try.results19, go_sem, z0, z1, z2, z3, z4, z5]) rfl ?_
           rw [HR2.out]; exact ReadP.no rfl ((HBW.out.trans (HB11.out.mono HBW.out.size)).trans HW9.out) (by decide)
         ·have hjn : j = nc := by omega
          have d1 : decide (j < nc) = false := decide_eq_false hlt
          have d2 : decide ((j : Int) < (nc : Int)) = false := decide_eq_false (by omega)
          clear hlt
          have HR2 : Hid (readT fields value x = (⟨x.text, x.names.length, S.temps, x.num, S.lits, S.code⟩, eB, 0)) := Lib.hid (by
           have h9 := HALL.out
           rw [hjn, ← HNC.out, List.take_length] at h9
           rw [HRT2.out, if_pos h9])
          subst hjn
          have hcw : ∀ i, wr.cell? ⟨cb, i, none⟩ = w9.cell? ⟨cb, i, none⟩ := fun i => World.cell?_of_block (hbr.block cb (lt_of_block HY.out.box))
          have k0 : wr.cell? ⟨cb, 0, none⟩ = some (.string x.text) := by rw [hcw, HY.out.cell]; rfl
          have k1 : wr.cell? ⟨cb, 1, none⟩ = some (.int .i64 (x.names.length : Int)) := by rw [hcw, HY.out.cell]; rfl
          have k2 : wr.cell? ⟨cb, 2, none⟩ = some (.int .i64 (S.temps : Int)) := by rw [hcw, HY.out.cell]; rfl
          have k3 : wr.cell? ⟨cb, 3, none⟩ = some (.int .i64 x.num) := by rw [hcw, HY.out.cell]; rfl
          have k4 : wr.cell? ⟨cb, 4, none⟩ = some (.slice Al nl cl) := by rw [hcw, HY.out.cell]; rfl
          have k5 : wr.cell? ⟨cb, 5, none⟩ = some (.slice Ac j cc) := by rw [hcw, HY.out.cell]; rfl
          have HT10 : Hid (wr.heap[w.heap.size + 1]? = some (.cells #[.string eB, .int .i64 0, .int .i64 0, .int .i64 0, .slice none 0 0, .slice none 0 0] 33 (0, 0))) := Lib.hid ((hbr.block _ (lt_of_block HTB.out)).trans HTB.out)
          have t0 : wr.cell? ⟨w.heap.size + 1, 0, none⟩ = some (.string eB) := cell_in HT10.out rfl
          have f0 : wr.frozen? ⟨w.heap.size + 1, 0, none⟩ = false := (by simp [World.frozen?, HT10.out])
          have t1 : wr.cell? ⟨w.heap.size + 1, 1, none⟩ = some (.int .i64 0) := cell_in HT10.out rfl
          have f1 : wr.frozen? ⟨w.heap.size + 1, 1, none⟩ = false := (by simp [World.frozen?, HT10.out])
          have t2 : wr.cell? ⟨w.heap.size + 1, 2, none⟩ = some (.int .i64 0) := cell_in HT10.out rfl
          have f2 : wr.frozen? ⟨w.heap.size + 1, 2, none⟩ = false := (by simp [World.frozen?, HT10.out])
          have t3 : wr.cell? ⟨w.heap.size + 1, 3, none⟩ = some (.int .i64 0) := cell_in HT10.out rfl
          have f3 : wr.frozen? ⟨w.heap.size + 1, 3, none⟩ = false := (by simp [World.frozen?, HT10.out])
          have t4 : wr.cell? ⟨w.heap.size + 1, 4, none⟩ = some (.slice none 0 0) := cell_in HT10.out rfl
          have f4 : wr.frozen? ⟨w.heap.size + 1, 4, none⟩ = false := (by simp [World.frozen?, HT10.out])
          have t5 : wr.cell? ⟨w.heap.size + 1, 5, none⟩ = some (.slice none 0 0) := cell_in HT10.out rfl
          have f5 : wr.frozen? ⟨w.heap.size + 1, 5, none⟩ = false := (by simp [World.frozen?, HT10.out])
          have HFIN : Hid (∀ W, Turns (fun k => k = w.heap.size + 1) w9 W → ReadP (⟨x.text, x.names.length, S.temps, x.num, S.lits, S.code⟩, eB, 0) w (.returned (.tuple #[.agg #[.string x.text, .int .i64 (x.names.length : Int), .int .i64 (S.temps : Int), .int .i64 x.num, .slice Al nl cl, .slice Ac j cc], .string eB, .int .i64 0])) W) := Lib.hid (fun W hT => by
           have hcb9 := HXB.out.2.2
           have hne : ∀ kk, ¬ (fun k => k < cb) kk → ¬ kk = w.heap.size + 1 := fun kk z e => z (by show kk < cb; omega)
           refine ⟨.slice Al nl cl, .slice Ac j cc, D, ps, rfl, ?_, HY.out.lps, ?_, HBW.out.trans (hT.below (fun k e => by omega) HBW.out.size), fun k hk => ⟨?_, (HY.out.lvP k hk).2⟩, fun k hk => ?_, fun k hk => ?_, Nat.zero_le _⟩
           ·have hl9 := HY.out.lits
            exact hl9.same hT.size (fun k hk => hT.block k (World.ownsRow.lt hl9.own k hk).2 (hne k (HY.out.lvP k hk).1)) (fun b hb hl => hT.block b hl (fun e => by
             obtain ⟨cur, hc⟩ := HY.out.dty b hb
             rw [e, HTB.out] at hc; simp at hc)) (fun _ z => z)
           ·exact ownsRow_same HY.out.code hT.size (fun k hk => hT.block k (World.ownsRow.lt HY.out.code k hk).2 (hne k (HY.out.cvP k hk)))
           ·have h9 : ¬ k < cb := (HY.out.lvP k hk).1
            omega
           ·have h9 : ¬ k < cb := HY.out.cvP k hk
            omega
           ·obtain ⟨cur, hc⟩ := HY.out.dty k hk
            exact ⟨cur, (hT.block k (lt_of_block hc) (fun e => by rw [e, HTB.out] at hc; simp at hc)).trans hc⟩)
          clear hcw hbr hall
          go_wp2_with fail
          obtain ⟨W9, hW9⟩ : ∃ W9, W9 = ((((((wr.setCell ⟨w.heap.size + 1, 0, none⟩ (.string x.text)).setCell ⟨w.heap.size + 1, 1, none⟩ (.int .i64 (x.names.length : Int))).setCell ⟨w.heap.size + 1, 2, none⟩ (.int .i64 (S.temps : Int))).setCell ⟨w.heap.size + 1, 3, none⟩ (.int .i64 x.num)).setCell ⟨w.heap.size + 1, 4, none⟩ (.slice Al nl cl)).setCell ⟨w.heap.size + 1, 5, none⟩ (.slice Ac j cc)) := ⟨_, rfl⟩
          have h9 : W9.heap[w.heap.size + 1]? = some (.cells #[.string x.text, .int .i64 (x.names.length : Int), .int .i64 (S.temps : Int), .int .i64 x.num, .slice Al nl cl, .slice Ac j cc] 33 (0, 0)) := by rw [hW9]; exact agg_set6 HT10.out
          obtain ⟨z0, z1, z2, z3, z4, z5⟩ := cc6 h9
          have HW9 : Hid (Below w.heap.size wr W9) := Lib.hid (by rw [hW9]; exact setCells6_below (Below.refl _ _) (Nat.le_succ _))
          have HWT : Hid (Turns (fun k => k = w.heap.size + 1) w9 W9) := Lib.hid (by rw [hW9]; exact six_turns (T := fun k => k = w.heap.size + 1) (Turns.of_below HBR.out) (w.heap.size + 1) rfl)
          rw [← hW9]
          clear hW9 h9
          refine bodyPost_ret (v := .tuple #[.agg #[.string x.text, .int .i64 (x.names.length : Int), .int .i64 (S.temps : Int), .int .i64 x.num, .slice Al nl cl, .slice Ac j cc], .string eB, .int .i64 0]) (by simp [results, Try.results19, go_sem, z0, z1, z2, z3, z4, z5]) rfl ?_
          rw [HR2.out]; exact HFIN.out W9 HWT.out
     ·have HR2 : Hid (readT fields value x = (noMet, S.ename, S.err)) := Lib.hid (by rw [HRT.out, if_pos he])
      have z1 : (S.err == 0) = false := by simpa using he
      have z2 : (S.err != 0) = true := by simpa using he
      rw [HR2.out]
      clear he
      go_upto_region 11 with fail
      go_region
      all_goals
       go_wp2_with fail
       obtain ⟨W9, hW9⟩ : ∃ W9, W9 = ((((((w9.setCell ⟨w.heap.size + 1, 0, none⟩ (.string eB)).setCell ⟨w.heap.size + 1, 1, none⟩ (.int .i64 0)).setCell ⟨w.heap.size + 1, 2, none⟩ (.int .i64 0)).setCell ⟨w.heap.size + 1, 3, none⟩ (.int .i64 0)).setCell ⟨w.heap.size + 1, 4, none⟩ (.slice none 0 0)).setCell ⟨w.heap.size + 1, 5, none⟩ (.slice none 0 0)) := ⟨_, rfl⟩
       have h9 : W9.heap[w.heap.size + 1]? = some (.cells #[.string eB, .int .i64 0, .int .i64 0, .int .i64 0, .slice none 0 0, .slice none 0 0] 33 (0, 0)) := by rw [hW9]; exact agg_set6 HTB.out
       obtain ⟨z0, z1, z2, z3, z4, z5⟩ := cc6 h9
       have HW9 : Hid (Below w.heap.size w9 W9) := Lib.hid (by rw [hW9]; exact setCells6_below (Below.refl _ _) (Nat.le_succ _))
       rw [← hW9]
       clear hW9 h9
       refine bodyPost_ret (v := .tuple #[.agg #[.string eB, .int .i64 0, .int .i64 0, .int .i64 0, .slice none 0 0, .slice none 0 0], .string S.ename, .int .i64 S.err]) (by simp [results, Try.results19, go_sem, z0, z1, z2, z3, z4, z5]) rfl ?_
       exact ReadP.no rfl (HBW.out.trans (by first | exact HW9.out | exact HW9.out.drew)) HY.out.enm
 ·have q1 : (x.kind == 11) = false := by simpa using hk
  have q2 : (x.kind != 11) = true := by simpa using hk
  have HRD : Hid (readC x.size x fields value = (noMet, eB, 1)) := Lib.hid (by unfold readC; rw [if_pos (.inl hk)])
  rw [HRD.out]
  clear hk
  go_enter Try.func19, Try.ntmps19
  go_wp2_with fail
  refine bodyPost_ret (v := .tuple #[.agg #[.string eB, .int .i64 0, .int .i64 0, .int .i64 0, .slice none 0 0, .slice none 0 0], .string eB, .int .i64 1]) (by simp [results, Try.results19, go_sem]) rfl ?_
  exact ReadP.no rfl bel (by decide)
end Go.Proofs.Ytnojndgmgkgnpaa
