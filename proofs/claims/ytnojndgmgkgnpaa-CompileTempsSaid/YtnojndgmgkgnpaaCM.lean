/- Chapter 10: a value given to a name. -/
import Derived.Test.YtnojndgmgkgnpaaCL
namespace Go.Proofs.Ytnojndgmgkgnpaa
open Go.ChangeShapes Go.WideShapes Go.ChangeAt Go.RowKit Go.Deep Go.Joins Go.Maps
set_option linter.unusedVariables false
set_option linter.unusedSimpArgs false
structure Six1 (w : World) (b : Nat) (x : NodT) (q : NS) (p : Option Addr) : Prop where
 c0 : w.cell? ⟨b, 0, none⟩ = some (.int .i64 x.kind)
 c1 : w.cell? ⟨b, 1, none⟩ = some (.string x.text)
 c2 : w.cell? ⟨b, 2, none⟩ = some (.int .i64 x.num)
 c3 : w.cell? ⟨b, 3, none⟩ = some (.slice q.pn x.names.length q.cn)
 c4 : w.cell? ⟨b, 4, none⟩ = some (.slice q.pt x.temps.length q.ct)
 c5 : w.cell? ⟨b, 5, none⟩ = some (.slice p 1 q.ck)
theorem cells_six1 {w : World} {b : Nat} {x : NodT} {q : NS} {p : Option Addr} (h : w.heap[b]? = some (.cells #[.int .i64 x.kind, .string x.text, .int .i64 x.num, .slice q.pn x.names.length q.cn, .slice q.pt x.temps.length q.ct, .slice p 1 q.ck] 25 (0, 0))) : Six1 w b x q p :=
 ⟨by simp [World.cell?, h], by simp [World.cell?, h], by simp [World.cell?, h], by simp [World.cell?, h], by simp [World.cell?, h], by simp [World.cell?, h]⟩
theorem Six1.same {w w' : World} {b : Nat} {x : NodT} {q : NS} {p : Option Addr} (h : Six1 w b x q p) (hb : w'.heap[b]? = w.heap[b]?) : Six1 w' b x q p := by
 have e : ∀ k, w'.cell? ⟨b, k, none⟩ = w.cell? ⟨b, k, none⟩ := fun k => World.cell?_of_block hb
 exact ⟨(e _).trans h.c0, (e _).trans h.c1, (e _).trans h.c2, (e _).trans h.c3, (e _).trans h.c4, (e _).trans h.c5⟩
structure Kn (w : World) (b : Nat) (a0 : ByteArray) (a1 a2 : Bool) (a3 : Int) : Prop where
 k0 : w.cell? ⟨b, 0, none⟩ = some (.string a0)
 k1 : w.cell? ⟨b, 1, none⟩ = some (.bool a1)
 k2 : w.cell? ⟨b, 2, none⟩ = some (.bool a2)
 k3 : w.cell? ⟨b, 3, none⟩ = some (.int .i64 a3)
theorem kn_of {w : World} {b : Nat} {a0 : ByteArray} {a1 a2 : Bool} {a3 : Int} (h : w.heap[b]? = some (.cells #[.string a0, .bool a1, .bool a2, .int .i64 a3] 75 (0, 0))) : Kn w b a0 a1 a2 a3 :=
 ⟨by simp [World.cell?, h], by simp [World.cell?, h], by simp [World.cell?, h], by simp [World.cell?, h]⟩
set_option maxRecDepth 100000 in
set_option maxHeartbeats 16000000 in
theorem assign_any {f : Nat} (hv : VSpec f) {w0 w : World} {P : Nat → Prop} {cb : Nat} {m : MK} {s : CSt} (h : CX w0 P w cb m s) {x : NodT} {q : NS} (hn : IsNd w0 (fun _ => True) x q) (hx : x.size ≤ f + 1) (hf : s.code.length + 8 * x.size ≤ 1000000) (hl : s.lits.length + x.size ≤ 100000) :
  Calls Try.prog 58 #[.pointer (some ⟨cb, 0, none⟩), ndV x q] w fun e w' => e = .returned (.tuple #[]) ∧ CT w0 P w w' cb m (assignP (valP f) x s) := by
 have HT : Hid (x.text.size ≤ big63) := Lib.hid hn.ok.text
 have HH := Lib.hid h
 by_cases e1 : x.kids.length = 1
 ·obtain ⟨kd, hkd⟩ := List.length_eq_one_iff.1 e1
  obtain ⟨b, off, q', hpk, hbl, _, hc6, hkn⟩ := hn.kid (i := 0) (by omega)
  have hb : Below w.heap.size w (w.alloc (.cells #[.int .i64 x.kind, .string x.text, .int .i64 x.num, .slice q.pn x.names.length q.cn, .slice q.pt x.temps.length q.ct, .slice (some ⟨b, off, none⟩) 1 q.ck] 25)) := (Below.refl _ _).alloc (Nat.le_refl _) _
  have HB := Lib.hid hb
  have HBX : Hid ((w.alloc (.cells #[.int .i64 x.kind, .string x.text, .int .i64 x.num, .slice q.pn x.names.length q.cn, .slice q.pt x.temps.length q.ct, .slice (some ⟨b, off, none⟩) 1 q.ck] 25)).heap[w.heap.size]? = some (.cells #[.int .i64 x.kind, .string x.text, .int .i64 x.num, .slice q.pn x.names.length q.cn, .slice q.pt x.temps.length q.ct, .slice (some ⟨b, off, none⟩) 1 q.ck] 25 (0, 0))) := Lib.hid (heap_alloc_new w _)
  have hone : ∀ W, Below (w.alloc (.cells #[.int .i64 x.kind, .string x.text, .int .i64 x.num, .slice q.pn x.names.length q.cn, .slice q.pt x.temps.length q.ct, .slice (some ⟨b, off, none⟩) 1 q.ck] 25)).heap.size (w.alloc (.cells #[.int .i64 x.kind, .string x.text, .int .i64 x.num, .slice q.pn x.names.length q.cn, .slice q.pt x.temps.length q.ct, .slice (some ⟨b, off, none⟩) 1 q.ck] 25)) W → Calls Try.prog 63 #[.pointer (some ⟨cb, 0, none⟩), ndV x q] W fun e w' => e = .returned (.bool true) ∧ CT w0 (fun k => P k ∨ w.heap.size ≤ k ∧ k < (w.alloc (.cells #[.int .i64 x.kind, .string x.text, .int .i64 x.num, .slice q.pn x.names.length q.cn, .slice q.pt x.temps.length q.ct, .slice (some ⟨b, off, none⟩) 1 q.ck] 25)).heap.size) (w.alloc (.cells #[.int .i64 x.kind, .string x.text, .int .i64 x.num, .slice q.pn x.names.length q.cn, .slice q.pt x.temps.length q.ct, .slice (some ⟨b, off, none⟩) 1 q.ck] 25)) w' cb m s := fun W hW => by
   have hk := (h.keep hb).ct.below hW
   refine (one_any hk.1 hn.ok).mono ?_
   rintro e w' ⟨he, hc⟩
   rw [show oneP x s = s from by unfold oneP; rw [if_pos e1]] at hc
   exact ⟨by rw [he, e1]; rfl, hk.go hc⟩
  rw [show x.kids[0]'(by omega) = kd from by simp [hkd], Nat.zero_mul, Nat.add_zero] at hc6
  rw [show x.kids[0]'(by omega) = kd from by simp [hkd]] at hkn
  have hsz := size_one hkd
  have hgr := valP_gr f kd s (by omega)
  have hva : ∀ {P' : Nat → Prop} {wa W : World}, CX w0 P' wa cb m s → Below wa.heap.size wa W → Calls Try.prog 44 #[.pointer (some ⟨cb, 0, none⟩), ndV kd q'] W fun e w' => e = .returned (.tuple #[]) ∧ CT w0 P' wa w' cb m (valP f kd s) := fun hc hb => hv.at_ (by omega) hc.ct hb hkn (by omega) (by omega)
  rw [show assignP (valP f) x s = storeP (valP f kd s) (findN s.names x.text) x.text from by unfold assignP; rw [hkd]]
  have HC6 := Lib.hid hc6
  have HBL := Lib.hid hbl
  have HF5 : Hid ((valP f kd s).code.length ≤ 1000000) := Lib.hid (by have := hgr.code; omega)
  unfold ndV at hone hva ⊢
  rw [e1, hpk] at hone ⊢
  have HONE := Lib.hid hone
  have HVA : Hid (∀ {P' : Nat → Prop} {wa W : World}, CX w0 P' wa cb m s → Below wa.heap.size wa W → _) := Lib.hid hva
  obtain ⟨o, ho⟩ : ∃ o, findN s.names x.text = o := ⟨_, rfl⟩
  obtain ⟨ow, hO⟩ : ∃ b, ownN x.text = b := ⟨_, rfl⟩
  obtain ⟨cl, hC⟩ : ∃ b, classN x.text = b := ⟨_, rfl⟩
  rw [ho]
  have HO := Lib.hid hO
  have HC := Lib.hid hC
  clear hone hva hgr hsz hkn hc6 hbl hkd e1 hb hn hx hf hl h hv hO hC hpk
  cases o with
  | some k =>
   obtain ⟨kn, kk, ka⟩ := k
   have HFV : Hid (fndV (findN s.names x.text) = .tuple #[.agg #[.string kn, .bool (decide (kk = 1)), .bool (decide (kk = 3)), .int .i64 ka], .bool true]) := Lib.hid (by rw [ho]; rfl)
   clear ho
   by_cases e3 : kk = 3
   ·rw [show storeP (valP f kd s) (some ⟨kn, kk, ka⟩) x.text = failP (valP f kd s) x.text 17 from by unfold storeP; simp [e3]]
    rw [decide_eq_true e3, show decide (kk = 1) = false from decide_eq_false (by omega)] at HFV
    clear e3
    go_enter Try.func58, Try.ntmps58
    go_wp2_with (first | (go_at_call 63; (with_reducible refine (HONE.out _ bel).mono ?_); rintro e w2 ⟨rfl, hx2⟩; have HX2 := Lib.hid hx2; have HB2 := Lib.hid ((hx2.2.block w.heap.size (by simp) (fun z => z (.inr ⟨Nat.le_refl _, by simp⟩))).trans HBX.out); obtain ⟨c0, c1, c2, c3, c4, c5⟩ := cells_six1 HB2.out; clear hx2) | (go_at_call 52; (with_reducible refine (find_any (HX2.out.below bel).1 x.text HT.out).mono ?_); rw [HFV.out]; rintro e w3 ⟨rfl, hb3⟩; have HB3 := Lib.hid ((show Below w2.heap.size w2 _ from bel).trans (hb3.mono (by go_size))); have HX3 := Lib.hid (HX2.out.below HB3.out); have HK4 := Lib.hid (HX3.out.1.keep ((Below.refl _ w3).alloc (Nat.le_refl _) (.cells #[.string kn, .bool false, .bool true, .int .i64 ka] 75))); have HBX3 := Lib.hid ((HB3.out.block w.heap.size (lt_of_block HB2.out)).trans HB2.out); have hb34 := ((Below.refl w3.heap.size w3).alloc (Nat.le_refl _) (.cells #[.string kn, .bool false, .bool true, .int .i64 ka] 75)); obtain ⟨c0, c1, c2, c3, c4, c5⟩ := cells_six1 ((hb34.block _ (lt_of_block HBX3.out)).trans HBX3.out); have hst3 := HX3.out.1.stat.trans (hb34.mono HX3.out.1.stat.size); obtain ⟨d0, d1, d2, d3, d4, d5⟩ := HC6.out.same (hst3.block b HBL.out); have hbw3 : b < w3.heap.size := Nat.lt_of_lt_of_le HBL.out HX3.out.1.stat.size; clear hb34 hb3 hst3) | (go_at_call 44; (with_reducible refine (HVA.out HK4.out bel).mono ?_); rintro e w5 ⟨rfl, hx5⟩; have HX5 := Lib.hid hx5; have hx6 := (hx5.2.block w.heap.size (by rw [World.size_alloc]; have := lt_of_block HBX3.out; omega) (fun z => z (.inl (.inr ⟨Nat.le_refl _, by simp⟩)))).trans (((Below.refl _ w3).alloc (Nat.le_refl _) (.cells #[.string kn, .bool false, .bool true, .int .i64 ka] 75) |>.block _ (lt_of_block HBX3.out)).trans HBX3.out); obtain ⟨c0, c1, c2, c3, c4, c5⟩ := cells_six1 hx6; have hk6 := (hx5.2.block w3.heap.size (by simp) (fun z => z (.inr ⟨Nat.le_refl _, by simp⟩))).trans (heap_alloc_new w3 (.cells #[.string kn, .bool false, .bool true, .int .i64 ka] 75)); obtain ⟨k0, k1, k2, k3⟩ := kn_of hk6; clear hx5 hx6 hk6) | (go_at_call 53; (with_reducible refine (own_any x.text HT.out _).mono ?_); rw [HO.out]; rintro e w6 ⟨rfl, hw6⟩; replace hw6 := hw6.symm; subst hw6) | (go_at_call 54; (with_reducible refine (fail_at HX5.out bel x.text HT.out 17).mono ?_); rintro e w7 ⟨rfl, hx3⟩; have HY := Lib.hid hx3; clear hx3))
    go_returns
    exact ⟨rfl, HH.out.ct.back HB.out (HX3.out.back ((Below.refl _ w3).alloc (Nat.le_refl _) (.cells #[.string kn, .bool false, .bool true, .int .i64 ka] 75)) HY.out (fun k z => .inl z)) (fun k z => .inl z)⟩
   ·cases ow with
    | true =>
     rw [show storeP (valP f kd s) (some ⟨kn, kk, ka⟩) x.text = failP (valP f kd s) x.text 17 from by unfold storeP; simp [HO.out]]
     rw [decide_eq_false e3] at HFV
     clear e3
     go_enter Try.func58, Try.ntmps58
     go_wp2_with (first | (go_at_call 63; (with_reducible refine (HONE.out _ bel).mono ?_); rintro e w2 ⟨rfl, hx2⟩; have HX2 := Lib.hid hx2; have HB2 := Lib.hid ((hx2.2.block w.heap.size (by simp) (fun z => z (.inr ⟨Nat.le_refl _, by simp⟩))).trans HBX.out); obtain ⟨c0, c1, c2, c3, c4, c5⟩ := cells_six1 HB2.out; clear hx2) | (go_at_call 52; (with_reducible refine (find_any (HX2.out.below bel).1 x.text HT.out).mono ?_); rw [HFV.out]; rintro e w3 ⟨rfl, hb3⟩; have HB3 := Lib.hid ((show Below w2.heap.size w2 _ from bel).trans (hb3.mono (by go_size))); have HX3 := Lib.hid (HX2.out.below HB3.out); have HK4 := Lib.hid (HX3.out.1.keep ((Below.refl _ w3).alloc (Nat.le_refl _) (.cells #[.string kn, .bool (decide (kk = 1)), .bool false, .int .i64 ka] 75))); have HBX3 := Lib.hid ((HB3.out.block w.heap.size (lt_of_block HB2.out)).trans HB2.out); have hb34 := ((Below.refl w3.heap.size w3).alloc (Nat.le_refl _) (.cells #[.string kn, .bool (decide (kk = 1)), .bool false, .int .i64 ka] 75)); obtain ⟨c0, c1, c2, c3, c4, c5⟩ := cells_six1 ((hb34.block _ (lt_of_block HBX3.out)).trans HBX3.out); have hst3 := HX3.out.1.stat.trans (hb34.mono HX3.out.1.stat.size); obtain ⟨d0, d1, d2, d3, d4, d5⟩ := HC6.out.same (hst3.block b HBL.out); have hbw3 : b < w3.heap.size := Nat.lt_of_lt_of_le HBL.out HX3.out.1.stat.size; clear hb34 hb3 hst3) | (go_at_call 44; (with_reducible refine (HVA.out HK4.out bel).mono ?_); rintro e w5 ⟨rfl, hx5⟩; have HX5 := Lib.hid hx5; have hx6 := (hx5.2.block w.heap.size (by rw [World.size_alloc]; have := lt_of_block HBX3.out; omega) (fun z => z (.inl (.inr ⟨Nat.le_refl _, by simp⟩)))).trans (((Below.refl _ w3).alloc (Nat.le_refl _) (.cells #[.string kn, .bool (decide (kk = 1)), .bool false, .int .i64 ka] 75) |>.block _ (lt_of_block HBX3.out)).trans HBX3.out); obtain ⟨c0, c1, c2, c3, c4, c5⟩ := cells_six1 hx6; have hk6 := (hx5.2.block w3.heap.size (by simp) (fun z => z (.inr ⟨Nat.le_refl _, by simp⟩))).trans (heap_alloc_new w3 (.cells #[.string kn, .bool (decide (kk = 1)), .bool false, .int .i64 ka] 75)); obtain ⟨k0, k1, k2, k3⟩ := kn_of hk6; clear hx5 hx6 hk6) | (go_at_call 53; (with_reducible refine (own_any x.text HT.out _).mono ?_); rw [HO.out]; rintro e w6 ⟨rfl, hw6⟩; replace hw6 := hw6.symm; subst hw6) | (go_at_call 54; (with_reducible refine (fail_at HX5.out bel x.text HT.out 17).mono ?_); rintro e w7 ⟨rfl, hx3⟩; have HY := Lib.hid hx3; clear hx3))
     go_returns
     exact ⟨rfl, HH.out.ct.back HB.out (HX3.out.back ((Below.refl _ w3).alloc (Nat.le_refl _) (.cells #[.string kn, .bool (decide (kk = 1)), .bool false, .int .i64 ka] 75)) HY.out (fun k z => .inl z)) (fun k z => .inl z)⟩
    | false =>
     rw [decide_eq_false e3] at HFV
     by_cases e4 : kk = 1
     ·rw [show storeP (valP f kd s) (some ⟨kn, kk, ka⟩) x.text = emitP (valP f kd s) 11 ka 0 from by unfold storeP; simp [e4, HO.out]]
      rw [decide_eq_true e4] at HFV
      clear e3 e4
      go_enter Try.func58, Try.ntmps58
      go_wp2_with (first | (go_at_call 63; (with_reducible refine (HONE.out _ bel).mono ?_); rintro e w2 ⟨rfl, hx2⟩; have HX2 := Lib.hid hx2; have HB2 := Lib.hid ((hx2.2.block w.heap.size (by simp) (fun z => z (.inr ⟨Nat.le_refl _, by simp⟩))).trans HBX.out); obtain ⟨c0, c1, c2, c3, c4, c5⟩ := cells_six1 HB2.out; clear hx2) | (go_at_call 52; (with_reducible refine (find_any (HX2.out.below bel).1 x.text HT.out).mono ?_); rw [HFV.out]; rintro e w3 ⟨rfl, hb3⟩; have HB3 := Lib.hid ((show Below w2.heap.size w2 _ from bel).trans (hb3.mono (by go_size))); have HX3 := Lib.hid (HX2.out.below HB3.out); have HK4 := Lib.hid (HX3.out.1.keep ((Below.refl _ w3).alloc (Nat.le_refl _) (.cells #[.string kn, .bool true, .bool false, .int .i64 ka] 75))); have HBX3 := Lib.hid ((HB3.out.block w.heap.size (lt_of_block HB2.out)).trans HB2.out); have hb34 := ((Below.refl w3.heap.size w3).alloc (Nat.le_refl _) (.cells #[.string kn, .bool true, .bool false, .int .i64 ka] 75)); obtain ⟨c0, c1, c2, c3, c4, c5⟩ := cells_six1 ((hb34.block _ (lt_of_block HBX3.out)).trans HBX3.out); have hst3 := HX3.out.1.stat.trans (hb34.mono HX3.out.1.stat.size); obtain ⟨d0, d1, d2, d3, d4, d5⟩ := HC6.out.same (hst3.block b HBL.out); have hbw3 : b < w3.heap.size := Nat.lt_of_lt_of_le HBL.out HX3.out.1.stat.size; clear hb34 hb3 hst3) | (go_at_call 44; (with_reducible refine (HVA.out HK4.out bel).mono ?_); rintro e w5 ⟨rfl, hx5⟩; have HX5 := Lib.hid hx5; have hx6 := (hx5.2.block w.heap.size (by rw [World.size_alloc]; have := lt_of_block HBX3.out; omega) (fun z => z (.inl (.inr ⟨Nat.le_refl _, by simp⟩)))).trans (((Below.refl _ w3).alloc (Nat.le_refl _) (.cells #[.string kn, .bool true, .bool false, .int .i64 ka] 75) |>.block _ (lt_of_block HBX3.out)).trans HBX3.out); obtain ⟨c0, c1, c2, c3, c4, c5⟩ := cells_six1 hx6; have hk6 := (hx5.2.block w3.heap.size (by simp) (fun z => z (.inr ⟨Nat.le_refl _, by simp⟩))).trans (heap_alloc_new w3 (.cells #[.string kn, .bool true, .bool false, .int .i64 ka] 75)); obtain ⟨k0, k1, k2, k3⟩ := kn_of hk6; clear hx5 hx6 hk6) | (go_at_call 53; (with_reducible refine (own_any x.text HT.out _).mono ?_); rw [HO.out]; rintro e w6 ⟨rfl, hw6⟩; replace hw6 := hw6.symm; subst hw6) | (go_at_call 45; (with_reducible refine (emit_at HX5.out bel 11 ka 0 HF5.out).mono ?_); rintro e w7 ⟨rfl, hx3⟩; have HY := Lib.hid hx3; clear hx3))
      go_returns
      exact ⟨rfl, HH.out.ct.back HB.out (HX3.out.back ((Below.refl _ w3).alloc (Nat.le_refl _) (.cells #[.string kn, .bool true, .bool false, .int .i64 ka] 75)) HY.out (fun k z => .inl z)) (fun k z => .inl z)⟩
     ·rw [show storeP (valP f kd s) (some ⟨kn, kk, ka⟩) x.text = emitP (valP f kd s) 10 ka 0 from by unfold storeP; simp [e3, e4, HO.out]]
      rw [decide_eq_false e4] at HFV
      clear e3 e4
      go_enter Try.func58, Try.ntmps58
      go_wp2_with (first | (go_at_call 63; (with_reducible refine (HONE.out _ bel).mono ?_); rintro e w2 ⟨rfl, hx2⟩; have HX2 := Lib.hid hx2; have HB2 := Lib.hid ((hx2.2.block w.heap.size (by simp) (fun z => z (.inr ⟨Nat.le_refl _, by simp⟩))).trans HBX.out); obtain ⟨c0, c1, c2, c3, c4, c5⟩ := cells_six1 HB2.out; clear hx2) | (go_at_call 52; (with_reducible refine (find_any (HX2.out.below bel).1 x.text HT.out).mono ?_); rw [HFV.out]; rintro e w3 ⟨rfl, hb3⟩; have HB3 := Lib.hid ((show Below w2.heap.size w2 _ from bel).trans (hb3.mono (by go_size))); have HX3 := Lib.hid (HX2.out.below HB3.out); have HK4 := Lib.hid (HX3.out.1.keep ((Below.refl _ w3).alloc (Nat.le_refl _) (.cells #[.string kn, .bool false, .bool false, .int .i64 ka] 75))); have HBX3 := Lib.hid ((HB3.out.block w.heap.size (lt_of_block HB2.out)).trans HB2.out); have hb34 := ((Below.refl w3.heap.size w3).alloc (Nat.le_refl _) (.cells #[.string kn, .bool false, .bool false, .int .i64 ka] 75)); obtain ⟨c0, c1, c2, c3, c4, c5⟩ := cells_six1 ((hb34.block _ (lt_of_block HBX3.out)).trans HBX3.out); have hst3 := HX3.out.1.stat.trans (hb34.mono HX3.out.1.stat.size); obtain ⟨d0, d1, d2, d3, d4, d5⟩ := HC6.out.same (hst3.block b HBL.out); have hbw3 : b < w3.heap.size := Nat.lt_of_lt_of_le HBL.out HX3.out.1.stat.size; clear hb34 hb3 hst3) | (go_at_call 44; (with_reducible refine (HVA.out HK4.out bel).mono ?_); rintro e w5 ⟨rfl, hx5⟩; have HX5 := Lib.hid hx5; have hx6 := (hx5.2.block w.heap.size (by rw [World.size_alloc]; have := lt_of_block HBX3.out; omega) (fun z => z (.inl (.inr ⟨Nat.le_refl _, by simp⟩)))).trans (((Below.refl _ w3).alloc (Nat.le_refl _) (.cells #[.string kn, .bool false, .bool false, .int .i64 ka] 75) |>.block _ (lt_of_block HBX3.out)).trans HBX3.out); obtain ⟨c0, c1, c2, c3, c4, c5⟩ := cells_six1 hx6; have hk6 := (hx5.2.block w3.heap.size (by simp) (fun z => z (.inr ⟨Nat.le_refl _, by simp⟩))).trans (heap_alloc_new w3 (.cells #[.string kn, .bool false, .bool false, .int .i64 ka] 75)); obtain ⟨k0, k1, k2, k3⟩ := kn_of hk6; clear hx5 hx6 hk6) | (go_at_call 53; (with_reducible refine (own_any x.text HT.out _).mono ?_); rw [HO.out]; rintro e w6 ⟨rfl, hw6⟩; replace hw6 := hw6.symm; subst hw6) | (go_at_call 45; (with_reducible refine (emit_at HX5.out bel 10 ka 0 HF5.out).mono ?_); rintro e w7 ⟨rfl, hx3⟩; have HY := Lib.hid hx3; clear hx3))
      go_returns
      exact ⟨rfl, HH.out.ct.back HB.out (HX3.out.back ((Below.refl _ w3).alloc (Nat.le_refl _) (.cells #[.string kn, .bool false, .bool false, .int .i64 ka] 75)) HY.out (fun k z => .inl z)) (fun k z => .inl z)⟩
  | none =>
   have HFV : Hid (fndV (findN s.names x.text) = .tuple #[.agg #[.string eB, .bool false, .bool false, .int .i64 0], .bool false]) := Lib.hid (by rw [ho]; rfl)
   clear ho
   cases ow with
   | true =>
    rw [show storeP (valP f kd s) none x.text = failP (valP f kd s) x.text 17 from by unfold storeP; simp [HO.out]]
    go_enter Try.func58, Try.ntmps58
    go_wp2_with (first | (go_at_call 63; (with_reducible refine (HONE.out _ bel).mono ?_); rintro e w2 ⟨rfl, hx2⟩; have HX2 := Lib.hid hx2; have HB2 := Lib.hid ((hx2.2.block w.heap.size (by simp) (fun z => z (.inr ⟨Nat.le_refl _, by simp⟩))).trans HBX.out); obtain ⟨c0, c1, c2, c3, c4, c5⟩ := cells_six1 HB2.out; clear hx2) | (go_at_call 52; (with_reducible refine (find_any (HX2.out.below bel).1 x.text HT.out).mono ?_); rw [HFV.out]; rintro e w3 ⟨rfl, hb3⟩; have HB3 := Lib.hid ((show Below w2.heap.size w2 _ from bel).trans (hb3.mono (by go_size))); have HX3 := Lib.hid (HX2.out.below HB3.out); have HK4 := Lib.hid (HX3.out.1.keep ((Below.refl _ w3).alloc (Nat.le_refl _) (.cells #[.string eB, .bool false, .bool false, .int .i64 0] 75))); have HBX3 := Lib.hid ((HB3.out.block w.heap.size (lt_of_block HB2.out)).trans HB2.out); have hb34 := ((Below.refl w3.heap.size w3).alloc (Nat.le_refl _) (.cells #[.string eB, .bool false, .bool false, .int .i64 0] 75)); obtain ⟨c0, c1, c2, c3, c4, c5⟩ := cells_six1 ((hb34.block _ (lt_of_block HBX3.out)).trans HBX3.out); have hst3 := HX3.out.1.stat.trans (hb34.mono HX3.out.1.stat.size); obtain ⟨d0, d1, d2, d3, d4, d5⟩ := HC6.out.same (hst3.block b HBL.out); have hbw3 : b < w3.heap.size := Nat.lt_of_lt_of_le HBL.out HX3.out.1.stat.size; clear hb34 hb3 hst3) | (go_at_call 44; (with_reducible refine (HVA.out HK4.out bel).mono ?_); rintro e w5 ⟨rfl, hx5⟩; have HX5 := Lib.hid hx5; have hx6 := (hx5.2.block w.heap.size (by rw [World.size_alloc]; have := lt_of_block HBX3.out; omega) (fun z => z (.inl (.inr ⟨Nat.le_refl _, by simp⟩)))).trans (((Below.refl _ w3).alloc (Nat.le_refl _) (.cells #[.string eB, .bool false, .bool false, .int .i64 0] 75) |>.block _ (lt_of_block HBX3.out)).trans HBX3.out); obtain ⟨c0, c1, c2, c3, c4, c5⟩ := cells_six1 hx6; have hk6 := (hx5.2.block w3.heap.size (by simp) (fun z => z (.inr ⟨Nat.le_refl _, by simp⟩))).trans (heap_alloc_new w3 (.cells #[.string eB, .bool false, .bool false, .int .i64 0] 75)); obtain ⟨k0, k1, k2, k3⟩ := kn_of hk6; clear hx5 hx6 hk6) | (go_at_call 53; (with_reducible refine (own_any x.text HT.out _).mono ?_); rw [HO.out]; rintro e w6 ⟨rfl, hw6⟩; replace hw6 := hw6.symm; subst hw6) | (go_at_call 69; (with_reducible refine (class_any x.text HT.out _).mono ?_); rw [HC.out]; rintro e w6 ⟨rfl, hw6⟩; replace hw6 := hw6.symm; subst hw6) | (go_at_call 54; (with_reducible refine (fail_at HX5.out bel x.text HT.out 17).mono ?_); rintro e w7 ⟨rfl, hx3⟩; have HY := Lib.hid hx3; clear hx3))
    go_returns
    exact ⟨rfl, HH.out.ct.back HB.out (HX3.out.back ((Below.refl _ w3).alloc (Nat.le_refl _) (.cells #[.string eB, .bool false, .bool false, .int .i64 0] 75)) HY.out (fun k z => .inl z)) (fun k z => .inl z)⟩
   | false =>
    cases cl with
    | true =>
     rw [show storeP (valP f kd s) none x.text = failP (valP f kd s) x.text 17 from by unfold storeP; simp [HO.out, HC.out]]
     go_enter Try.func58, Try.ntmps58
     go_wp2_with (first | (go_at_call 63; (with_reducible refine (HONE.out _ bel).mono ?_); rintro e w2 ⟨rfl, hx2⟩; have HX2 := Lib.hid hx2; have HB2 := Lib.hid ((hx2.2.block w.heap.size (by simp) (fun z => z (.inr ⟨Nat.le_refl _, by simp⟩))).trans HBX.out); obtain ⟨c0, c1, c2, c3, c4, c5⟩ := cells_six1 HB2.out; clear hx2) | (go_at_call 52; (with_reducible refine (find_any (HX2.out.below bel).1 x.text HT.out).mono ?_); rw [HFV.out]; rintro e w3 ⟨rfl, hb3⟩; have HB3 := Lib.hid ((show Below w2.heap.size w2 _ from bel).trans (hb3.mono (by go_size))); have HX3 := Lib.hid (HX2.out.below HB3.out); have HK4 := Lib.hid (HX3.out.1.keep ((Below.refl _ w3).alloc (Nat.le_refl _) (.cells #[.string eB, .bool false, .bool false, .int .i64 0] 75))); have HBX3 := Lib.hid ((HB3.out.block w.heap.size (lt_of_block HB2.out)).trans HB2.out); have hb34 := ((Below.refl w3.heap.size w3).alloc (Nat.le_refl _) (.cells #[.string eB, .bool false, .bool false, .int .i64 0] 75)); obtain ⟨c0, c1, c2, c3, c4, c5⟩ := cells_six1 ((hb34.block _ (lt_of_block HBX3.out)).trans HBX3.out); have hst3 := HX3.out.1.stat.trans (hb34.mono HX3.out.1.stat.size); obtain ⟨d0, d1, d2, d3, d4, d5⟩ := HC6.out.same (hst3.block b HBL.out); have hbw3 : b < w3.heap.size := Nat.lt_of_lt_of_le HBL.out HX3.out.1.stat.size; clear hb34 hb3 hst3) | (go_at_call 44; (with_reducible refine (HVA.out HK4.out bel).mono ?_); rintro e w5 ⟨rfl, hx5⟩; have HX5 := Lib.hid hx5; have hx6 := (hx5.2.block w.heap.size (by rw [World.size_alloc]; have := lt_of_block HBX3.out; omega) (fun z => z (.inl (.inr ⟨Nat.le_refl _, by simp⟩)))).trans (((Below.refl _ w3).alloc (Nat.le_refl _) (.cells #[.string eB, .bool false, .bool false, .int .i64 0] 75) |>.block _ (lt_of_block HBX3.out)).trans HBX3.out); obtain ⟨c0, c1, c2, c3, c4, c5⟩ := cells_six1 hx6; have hk6 := (hx5.2.block w3.heap.size (by simp) (fun z => z (.inr ⟨Nat.le_refl _, by simp⟩))).trans (heap_alloc_new w3 (.cells #[.string eB, .bool false, .bool false, .int .i64 0] 75)); obtain ⟨k0, k1, k2, k3⟩ := kn_of hk6; clear hx5 hx6 hk6) | (go_at_call 53; (with_reducible refine (own_any x.text HT.out _).mono ?_); rw [HO.out]; rintro e w6 ⟨rfl, hw6⟩; replace hw6 := hw6.symm; subst hw6) | (go_at_call 69; (with_reducible refine (class_any x.text HT.out _).mono ?_); rw [HC.out]; rintro e w6 ⟨rfl, hw6⟩; replace hw6 := hw6.symm; subst hw6) | (go_at_call 54; (with_reducible refine (fail_at HX5.out bel x.text HT.out 17).mono ?_); rintro e w7 ⟨rfl, hx3⟩; have HY := Lib.hid hx3; clear hx3))
     go_returns
     exact ⟨rfl, HH.out.ct.back HB.out (HX3.out.back ((Below.refl _ w3).alloc (Nat.le_refl _) (.cells #[.string eB, .bool false, .bool false, .int .i64 0] 75)) HY.out (fun k z => .inl z)) (fun k z => .inl z)⟩
    | false =>
     rw [show storeP (valP f kd s) none x.text = failP (valP f kd s) x.text 15 from by unfold storeP; simp [HO.out, HC.out]]
     go_enter Try.func58, Try.ntmps58
     go_wp2_with (first | (go_at_call 63; (with_reducible refine (HONE.out _ bel).mono ?_); rintro e w2 ⟨rfl, hx2⟩; have HX2 := Lib.hid hx2; have HB2 := Lib.hid ((hx2.2.block w.heap.size (by simp) (fun z => z (.inr ⟨Nat.le_refl _, by simp⟩))).trans HBX.out); obtain ⟨c0, c1, c2, c3, c4, c5⟩ := cells_six1 HB2.out; clear hx2) | (go_at_call 52; (with_reducible refine (find_any (HX2.out.below bel).1 x.text HT.out).mono ?_); rw [HFV.out]; rintro e w3 ⟨rfl, hb3⟩; have HB3 := Lib.hid ((show Below w2.heap.size w2 _ from bel).trans (hb3.mono (by go_size))); have HX3 := Lib.hid (HX2.out.below HB3.out); have HK4 := Lib.hid (HX3.out.1.keep ((Below.refl _ w3).alloc (Nat.le_refl _) (.cells #[.string eB, .bool false, .bool false, .int .i64 0] 75))); have HBX3 := Lib.hid ((HB3.out.block w.heap.size (lt_of_block HB2.out)).trans HB2.out); have hb34 := ((Below.refl w3.heap.size w3).alloc (Nat.le_refl _) (.cells #[.string eB, .bool false, .bool false, .int .i64 0] 75)); obtain ⟨c0, c1, c2, c3, c4, c5⟩ := cells_six1 ((hb34.block _ (lt_of_block HBX3.out)).trans HBX3.out); have hst3 := HX3.out.1.stat.trans (hb34.mono HX3.out.1.stat.size); obtain ⟨d0, d1, d2, d3, d4, d5⟩ := HC6.out.same (hst3.block b HBL.out); have hbw3 : b < w3.heap.size := Nat.lt_of_lt_of_le HBL.out HX3.out.1.stat.size; clear hb34 hb3 hst3) | (go_at_call 44; (with_reducible refine (HVA.out HK4.out bel).mono ?_); rintro e w5 ⟨rfl, hx5⟩; have HX5 := Lib.hid hx5; have hx6 := (hx5.2.block w.heap.size (by rw [World.size_alloc]; have := lt_of_block HBX3.out; omega) (fun z => z (.inl (.inr ⟨Nat.le_refl _, by simp⟩)))).trans (((Below.refl _ w3).alloc (Nat.le_refl _) (.cells #[.string eB, .bool false, .bool false, .int .i64 0] 75) |>.block _ (lt_of_block HBX3.out)).trans HBX3.out); obtain ⟨c0, c1, c2, c3, c4, c5⟩ := cells_six1 hx6; have hk6 := (hx5.2.block w3.heap.size (by simp) (fun z => z (.inr ⟨Nat.le_refl _, by simp⟩))).trans (heap_alloc_new w3 (.cells #[.string eB, .bool false, .bool false, .int .i64 0] 75)); obtain ⟨k0, k1, k2, k3⟩ := kn_of hk6; clear hx5 hx6 hk6) | (go_at_call 53; (with_reducible refine (own_any x.text HT.out _).mono ?_); rw [HO.out]; rintro e w6 ⟨rfl, hw6⟩; replace hw6 := hw6.symm; subst hw6) | (go_at_call 69; (with_reducible refine (class_any x.text HT.out _).mono ?_); rw [HC.out]; rintro e w6 ⟨rfl, hw6⟩; replace hw6 := hw6.symm; subst hw6) | (go_at_call 54; (with_reducible refine (fail_at HX5.out bel x.text HT.out 15).mono ?_); rintro e w7 ⟨rfl, hx3⟩; have HY := Lib.hid hx3; clear hx3))
     go_returns
     exact ⟨rfl, HH.out.ct.back HB.out (HX3.out.back ((Below.refl _ w3).alloc (Nat.le_refl _) (.cells #[.string eB, .bool false, .bool false, .int .i64 0] 75)) HY.out (fun k z => .inl z)) (fun k z => .inl z)⟩
 ·have hone : ∀ W, Below w.heap.size w W → Calls Try.prog 63 #[.pointer (some ⟨cb, 0, none⟩), ndV x q] W fun e w' => e = .returned (.bool false) ∧ CT w0 P w w' cb m (failP s eB 1) := fun W hW => by
   have hk := h.ct.below hW
   refine (one_any hk.1 hn.ok).mono ?_
   rintro e w' ⟨he, hc⟩
   rw [show oneP x s = failP s eB 1 from by unfold oneP; rw [if_neg e1]] at hc
   exact ⟨by rw [he, show (x.kids.length == 1) = false from by simpa using e1], hk.go hc⟩
  rw [show assignP (valP f) x s = failP s eB 1 from by
   unfold assignP
   split
   ·rename_i k hk
    exact absurd (by rw [hk]; rfl) e1
   ·rfl]
  unfold ndV at hone ⊢
  have HONE := Lib.hid hone
  clear hone hn hx hf hl h hv e1
  go_enter Try.func58, Try.ntmps58
  go_wp2_with (first | (go_at_call 63; (with_reducible refine (HONE.out _ bel).mono ?_); rintro e w2 ⟨rfl, hx2⟩; have HX2 := Lib.hid hx2; clear hx2))
  go_returns
  exact ⟨rfl, HX2.out⟩
end Go.Proofs.Ytnojndgmgkgnpaa
