/- Chapter 10: a method, and statements, are read off a node. -/
import Derived.Test.YtnojndgmgkgnpaaCW
namespace Go.Proofs.Ytnojndgmgkgnpaa
open Go.ChangeShapes Go.WideShapes Go.ChangeAt Go.RowKit Go.Deep Go.Joins Go.Maps
set_option linter.unusedVariables false
set_option linter.unusedSimpArgs false
/-- what was told stays, when a block of another kind is stored into -/
structure Told (r : MetT × ByteArray × Int) (B : Nat) (w' : World) (lv cv : Value) (D : Nat → Prop) (ps : List LP) : Prop where
 lits : LitRow w' D lv ps
 lps : ps.map Prod.fst = r.1.lits
 code : w'.ownsRow 0 37 3 cv r.1.code.length (r.1.code.flatMap insC)
 lvB : ∀ k, lv.ownBlock = some k → B ≤ k ∧ ¬ D k
 cvB : ∀ k, cv.ownBlock = some k → B ≤ k
 dty : ∀ k, D k → ∃ cur, w'.heap[k]? = some (.cells cur 40 (0, 0))
 nmB : r.2.1.size ≤ big63
theorem Told.turns {r : MetT × ByteArray × Int} {B B' : Nat} {w w' : World} {lv cv : Value} {D : Nat → Prop} {ps : List LP} (h : Told r B w lv cv D ps) {T : Nat → Prop} (ht : Turns T w w') (hB : B' ≤ B) (hT : ∀ k, T k → k < B ∧ ∀ cur, w.heap[k]? ≠ some (.cells cur 40 (0, 0))) : Told r B' w' lv cv D ps := by
 have hne : ∀ k, B ≤ k → ¬ T k := fun k hk z => by have := (hT k z).1; omega
 have hD : ∀ k, D k → ¬ T k := fun k hk z => by
  obtain ⟨cur, hc⟩ := h.dty k hk
  exact (hT k z).2 cur hc
 refine ⟨h.lits.same ht.size (fun k hk => ht.block k (World.ownsRow.lt h.lits.own k hk).2 (hne k (h.lvB k hk).1)) (fun b hb hl => ht.block b hl (hD b hb)) (fun _ z => z), h.lps, ownsRow_same h.code ht.size (fun k hk => ht.block k (World.ownsRow.lt h.code k hk).2 (hne k (h.cvB k hk))), fun k hk => ⟨Nat.le_trans hB (h.lvB k hk).1, (h.lvB k hk).2⟩, fun k hk => Nat.le_trans hB (h.cvB k hk), fun k hk => ?_, h.nmB⟩
 obtain ⟨cur, hc⟩ := h.dty k hk
 exact ⟨cur, (ht.block k (lt_of_block hc) (hD k hk)).trans hc⟩
theorem ReadP.told {r : MetT × ByteArray × Int} {w w' : World} {e : Ending} (h : ReadP r w e w') : ∃ lv cv D ps, e = .returned (.tuple #[.agg #[.string r.1.sel, .int .i64 (r.1.args : Int), .int .i64 (r.1.temps : Int), .int .i64 r.1.prim, lv, cv], .string r.2.1, .int .i64 r.2.2]) ∧ Told r w.heap.size w' lv cv D ps ∧ Below w.heap.size w w' := by
 obtain ⟨lv, cv, D, ps, he, h1, h2, h3, h4, h5, h6, h7, h8⟩ := h
 exact ⟨lv, cv, D, ps, he, ⟨h1, h2, h3, h5, h6, h7, h8⟩, h4⟩
theorem Told.post {r : MetT × ByteArray × Int} {w w' : World} {lv cv : Value} {D : Nat → Prop} {ps : List LP} (h : Told r w.heap.size w' lv cv D ps) (hb : Below w.heap.size w w') : ReadP r w (.returned (.tuple #[.agg #[.string r.1.sel, .int .i64 (r.1.args : Int), .int .i64 (r.1.temps : Int), .int .i64 r.1.prim, lv, cv], .string r.2.1, .int .i64 r.2.2])) w' :=
 ⟨lv, cv, D, ps, rfl, h.lits, h.lps, h.code, hb, h.lvB, h.cvB, h.dty, h.nmB⟩
set_option maxRecDepth 100000 in
set_option maxHeartbeats 16000000 in
theorem method_any {w : World} {x : NodT} {q : NS} (hn : IsNd w (fun _ => True) x q) {D : Nat → Prop} {p : Option Addr} {n c : Nat} {fields : List ByteArray} (hs : Strs w D p fields) (hl : fields.length = n) (hle : n ≤ 9223372036854775807) (hx : x.size ≤ 100000) :
  Calls Try.prog 11 #[ndV x q, .slice p n c] w (ReadP (readC x.size x fields false) w) := by
 have HN := Lib.hid hn
 have HSZ := Lib.hid hx
 obtain ⟨r, hr⟩ : ∃ r, readC x.size x fields false = r := ⟨_, rfl⟩
 have hrc : ∀ W, Below (((w.alloc (.cells #[.int .i64 x.kind, .string x.text, .int .i64 x.num, .slice q.pn x.names.length q.cn, .slice q.pt x.temps.length q.ct, .slice q.pk x.kids.length q.ck] 25)).alloc (.cells #[.string eB, .int .i64 0, .int .i64 0, .int .i64 0, .slice none 0 0, .slice none 0 0] 33))).heap.size (((w.alloc (.cells #[.int .i64 x.kind, .string x.text, .int .i64 x.num, .slice q.pn x.names.length q.cn, .slice q.pt x.temps.length q.ct, .slice q.pk x.kids.length q.ck] 25)).alloc (.cells #[.string eB, .int .i64 0, .int .i64 0, .int .i64 0, .slice none 0 0, .slice none 0 0] 33))) W → Calls Try.prog 19 #[ndV x q, .slice p n c, .bool false] W (ReadP r W) := fun W hb => by
  rw [← hr]
  have hb2 : Below w.heap.size w W := (show Below w.heap.size w (((w.alloc (.cells #[.int .i64 x.kind, .string x.text, .int .i64 x.num, .slice q.pn x.names.length q.cn, .slice q.pt x.temps.length q.ct, .slice q.pk x.kids.length q.ck] 25)).alloc (.cells #[.string eB, .int .i64 0, .int .i64 0, .int .i64 0, .slice none 0 0, .slice none 0 0] 33))) from bel).trans (hb.mono (by go_size))
  exact read_any (hn.under hb2) (hs.same hb2.size (fun b _ hl => hb2.block b hl) (fun _ z => z)) hl hle hx false
 rw [hr]
 have HMZ : Hid ((((w.alloc (.cells #[.int .i64 x.kind, .string x.text, .int .i64 x.num, .slice q.pn x.names.length q.cn, .slice q.pt x.temps.length q.ct, .slice q.pk x.kids.length q.ck] 25)).alloc (.cells #[.string eB, .int .i64 0, .int .i64 0, .int .i64 0, .slice none 0 0, .slice none 0 0] 33))).heap[w.heap.size + 1]? = some (.cells #[.string eB, .int .i64 0, .int .i64 0, .int .i64 0, .slice none 0 0, .slice none 0 0] 33 (0, 0))) := Lib.hid (by
  have h2 := heap_alloc_new (w.alloc (.cells #[.int .i64 x.kind, .string x.text, .int .i64 x.num, .slice q.pn x.names.length q.cn, .slice q.pt x.temps.length q.ct, .slice q.pk x.kids.length q.ck] 25)) (.cells #[.string eB, .int .i64 0, .int .i64 0, .int .i64 0, .slice none 0 0, .slice none 0 0] 33)
  rw [World.size_alloc] at h2
  exact h2)
 have HB2 : Hid (Below w.heap.size w (((w.alloc (.cells #[.int .i64 x.kind, .string x.text, .int .i64 x.num, .slice q.pn x.names.length q.cn, .slice q.pt x.temps.length q.ct, .slice q.pk x.kids.length q.ck] 25)).alloc (.cells #[.string eB, .int .i64 0, .int .i64 0, .int .i64 0, .slice none 0 0, .slice none 0 0] 33)))) := Lib.hid bel
 unfold ndV at hrc ⊢
 have HRC := Lib.hid hrc
 clear hn hx hrc hr
 go_enter Try.func11, Try.ntmps11
 go_wp2_with (first | (go_at_call 19; (with_reducible refine (HRC.out _ bel).mono ?_); rintro e w5 hrp; obtain ⟨lv, cv, D, ps, rfl, htd, hb5⟩ := hrp.told; obtain ⟨Al, cl, hlv, _⟩ := own_slice htd.lits.own; obtain ⟨Ac, cc, hcv, _⟩ := own_slice htd.code; obtain ⟨nl, hnl⟩ : ∃ nl, ps.length = nl := ⟨_, rfl⟩; obtain ⟨nc, hnc⟩ : ∃ nc, r.1.code.length = nc := ⟨_, rfl⟩; rw [hnl] at hlv; rw [hnc] at hcv; subst hlv; subst hcv; have HTD := Lib.hid htd; have HB5 : Hid (Below (((w.alloc (.cells #[.int .i64 x.kind, .string x.text, .int .i64 x.num, .slice q.pn x.names.length q.cn, .slice q.pt x.temps.length q.ct, .slice q.pk x.kids.length q.ck] 25)).alloc (.cells #[.string eB, .int .i64 0, .int .i64 0, .int .i64 0, .slice none 0 0, .slice none 0 0] 33))).heap.size (((w.alloc (.cells #[.int .i64 x.kind, .string x.text, .int .i64 x.num, .slice q.pn x.names.length q.cn, .slice q.pt x.temps.length q.ct, .slice q.pk x.kids.length q.ck] 25)).alloc (.cells #[.string eB, .int .i64 0, .int .i64 0, .int .i64 0, .slice none 0 0, .slice none 0 0] 33))) w5) := Lib.hid ((show Below (((w.alloc (.cells #[.int .i64 x.kind, .string x.text, .int .i64 x.num, .slice q.pn x.names.length q.cn, .slice q.pt x.temps.length q.ct, .slice q.pk x.kids.length q.ck] 25)).alloc (.cells #[.string eB, .int .i64 0, .int .i64 0, .int .i64 0, .slice none 0 0, .slice none 0 0] 33))).heap.size (((w.alloc (.cells #[.int .i64 x.kind, .string x.text, .int .i64 x.num, .slice q.pn x.names.length q.cn, .slice q.pt x.temps.length q.ct, .slice q.pk x.kids.length q.ck] 25)).alloc (.cells #[.string eB, .int .i64 0, .int .i64 0, .int .i64 0, .slice none 0 0, .slice none 0 0] 33))) _ from bel).trans (hb5.mono (by go_size))); have hmz := (HB5.out.block _ (lt_of_block HMZ.out)).trans HMZ.out; have HMZ5 := Lib.hid hmz; have t0 : w5.cell? ⟨w.heap.size + 1, 0, none⟩ = some (.string eB) := cell_in HMZ5.out rfl; have f0 : w5.frozen? ⟨w.heap.size + 1, 0, none⟩ = false := (by simp [World.frozen?, HMZ5.out]); have t1 : w5.cell? ⟨w.heap.size + 1, 1, none⟩ = some (.int .i64 0) := cell_in HMZ5.out rfl; have f1 : w5.frozen? ⟨w.heap.size + 1, 1, none⟩ = false := (by simp [World.frozen?, HMZ5.out]); have t2 : w5.cell? ⟨w.heap.size + 1, 2, none⟩ = some (.int .i64 0) := cell_in HMZ5.out rfl; have f2 : w5.frozen? ⟨w.heap.size + 1, 2, none⟩ = false := (by simp [World.frozen?, HMZ5.out]); have t3 : w5.cell? ⟨w.heap.size + 1, 3, none⟩ = some (.int .i64 0) := cell_in HMZ5.out rfl; have f3 : w5.frozen? ⟨w.heap.size + 1, 3, none⟩ = false := (by simp [World.frozen?, HMZ5.out]); have t4 : w5.cell? ⟨w.heap.size + 1, 4, none⟩ = some (.slice none 0 0) := cell_in HMZ5.out rfl; have f4 : w5.frozen? ⟨w.heap.size + 1, 4, none⟩ = false := (by simp [World.frozen?, HMZ5.out]); have t5 : w5.cell? ⟨w.heap.size + 1, 5, none⟩ = some (.slice none 0 0) := cell_in HMZ5.out rfl; have f5 : w5.frozen? ⟨w.heap.size + 1, 5, none⟩ = false := (by simp [World.frozen?, HMZ5.out]); clear hrp htd hb5 hmz hnl hnc))
 obtain ⟨W9, hW9⟩ : ∃ W9, W9 = ((((((w5.setCell ⟨w.heap.size + 1, 0, none⟩ (.string r.1.sel)).setCell ⟨w.heap.size + 1, 1, none⟩ (.int .i64 (r.1.args : Int))).setCell ⟨w.heap.size + 1, 2, none⟩ (.int .i64 (r.1.temps : Int))).setCell ⟨w.heap.size + 1, 3, none⟩ (.int .i64 r.1.prim)).setCell ⟨w.heap.size + 1, 4, none⟩ (.slice Al nl cl)).setCell ⟨w.heap.size + 1, 5, none⟩ (.slice Ac nc cc)) := ⟨_, rfl⟩
 have h9 : W9.heap[w.heap.size + 1]? = some (.cells #[.string r.1.sel, .int .i64 (r.1.args : Int), .int .i64 (r.1.temps : Int), .int .i64 r.1.prim, .slice Al nl cl, .slice Ac nc cc] 33 (0, 0)) := by rw [hW9]; exact agg_set6 HMZ5.out
 obtain ⟨z0, z1, z2, z3, z4, z5⟩ := cc6 h9
 have HT9 : Hid (Turns (fun k => k = w.heap.size + 1) w5 W9) := Lib.hid (by rw [hW9]; exact six_turns (T := fun k => k = w.heap.size + 1) (Turns.refl _ _) (w.heap.size + 1) rfl)
 rw [← hW9]
 clear hW9 h9
 refine bodyPost_ret (v := .tuple #[.agg #[.string r.1.sel, .int .i64 (r.1.args : Int), .int .i64 (r.1.temps : Int), .int .i64 r.1.prim, .slice Al nl cl, .slice Ac nc cc], .string r.2.1, .int .i64 r.2.2]) (by simp [results, Try.results11, go_sem, z0, z1, z2, z3, z4, z5]) rfl ?_
 have ht := HTD.out.turns (B' := w.heap.size) HT9.out (by go_size) (fun k e => ⟨by subst e; go_size, fun cur => by subst e; rw [HMZ5.out]; simp⟩)
 exact ht.post ((HB2.out.trans (HB5.out.mono (by go_size))).trans (HT9.out.below (fun k e => by subst e; omega) (Nat.le_trans HB2.out.size (by have := HB5.out.size; exact this))))
set_option maxRecDepth 100000 in
set_option maxHeartbeats 16000000 in
theorem doit_any {w : World} {x : NodT} {q : NS} (hn : IsNd w (fun _ => True) x q)  (hx : x.size ≤ 100000) :
  Calls Try.prog 8 #[ndV x q] w (ReadP (readC x.size x [] true) w) := by
 have HN := Lib.hid hn
 have HSZ := Lib.hid hx
 obtain ⟨r, hr⟩ : ∃ r, readC x.size x [] true = r := ⟨_, rfl⟩
 have hrc : ∀ W, Below (((w.alloc (.cells #[.int .i64 x.kind, .string x.text, .int .i64 x.num, .slice q.pn x.names.length q.cn, .slice q.pt x.temps.length q.ct, .slice q.pk x.kids.length q.ck] 25)).alloc (.cells #[.string eB, .int .i64 0, .int .i64 0, .int .i64 0, .slice none 0 0, .slice none 0 0] 33))).heap.size (((w.alloc (.cells #[.int .i64 x.kind, .string x.text, .int .i64 x.num, .slice q.pn x.names.length q.cn, .slice q.pt x.temps.length q.ct, .slice q.pk x.kids.length q.ck] 25)).alloc (.cells #[.string eB, .int .i64 0, .int .i64 0, .int .i64 0, .slice none 0 0, .slice none 0 0] 33))) W → Calls Try.prog 19 #[ndV x q, .slice none 0 0, .bool true] W (ReadP r W) := fun W hb => by
  rw [← hr]
  have hb2 : Below w.heap.size w W := (show Below w.heap.size w (((w.alloc (.cells #[.int .i64 x.kind, .string x.text, .int .i64 x.num, .slice q.pn x.names.length q.cn, .slice q.pt x.temps.length q.ct, .slice q.pk x.kids.length q.ck] 25)).alloc (.cells #[.string eB, .int .i64 0, .int .i64 0, .int .i64 0, .slice none 0 0, .slice none 0 0] 33))) from bel).trans (hb.mono (by go_size))
  exact read_any (hn.under hb2) (D := fun _ => True) (p := none) (n := 0) (c := 0) (fields := []) (fun i hi => absurd hi (by simp)) rfl (by omega) hx true
 rw [hr]
 have HMZ : Hid ((((w.alloc (.cells #[.int .i64 x.kind, .string x.text, .int .i64 x.num, .slice q.pn x.names.length q.cn, .slice q.pt x.temps.length q.ct, .slice q.pk x.kids.length q.ck] 25)).alloc (.cells #[.string eB, .int .i64 0, .int .i64 0, .int .i64 0, .slice none 0 0, .slice none 0 0] 33))).heap[w.heap.size + 1]? = some (.cells #[.string eB, .int .i64 0, .int .i64 0, .int .i64 0, .slice none 0 0, .slice none 0 0] 33 (0, 0))) := Lib.hid (by
  have h2 := heap_alloc_new (w.alloc (.cells #[.int .i64 x.kind, .string x.text, .int .i64 x.num, .slice q.pn x.names.length q.cn, .slice q.pt x.temps.length q.ct, .slice q.pk x.kids.length q.ck] 25)) (.cells #[.string eB, .int .i64 0, .int .i64 0, .int .i64 0, .slice none 0 0, .slice none 0 0] 33)
  rw [World.size_alloc] at h2
  exact h2)
 have HB2 : Hid (Below w.heap.size w (((w.alloc (.cells #[.int .i64 x.kind, .string x.text, .int .i64 x.num, .slice q.pn x.names.length q.cn, .slice q.pt x.temps.length q.ct, .slice q.pk x.kids.length q.ck] 25)).alloc (.cells #[.string eB, .int .i64 0, .int .i64 0, .int .i64 0, .slice none 0 0, .slice none 0 0] 33)))) := Lib.hid bel
 unfold ndV at hrc ⊢
 have HRC := Lib.hid hrc
 clear hn hx hrc hr
 go_enter Try.func8, Try.ntmps8
 go_wp2_with (first | (go_at_call 19; (with_reducible refine (HRC.out _ bel).mono ?_); rintro e w5 hrp; obtain ⟨lv, cv, D, ps, rfl, htd, hb5⟩ := hrp.told; obtain ⟨Al, cl, hlv, _⟩ := own_slice htd.lits.own; obtain ⟨Ac, cc, hcv, _⟩ := own_slice htd.code; obtain ⟨nl, hnl⟩ : ∃ nl, ps.length = nl := ⟨_, rfl⟩; obtain ⟨nc, hnc⟩ : ∃ nc, r.1.code.length = nc := ⟨_, rfl⟩; rw [hnl] at hlv; rw [hnc] at hcv; subst hlv; subst hcv; have HTD := Lib.hid htd; have HB5 : Hid (Below (((w.alloc (.cells #[.int .i64 x.kind, .string x.text, .int .i64 x.num, .slice q.pn x.names.length q.cn, .slice q.pt x.temps.length q.ct, .slice q.pk x.kids.length q.ck] 25)).alloc (.cells #[.string eB, .int .i64 0, .int .i64 0, .int .i64 0, .slice none 0 0, .slice none 0 0] 33))).heap.size (((w.alloc (.cells #[.int .i64 x.kind, .string x.text, .int .i64 x.num, .slice q.pn x.names.length q.cn, .slice q.pt x.temps.length q.ct, .slice q.pk x.kids.length q.ck] 25)).alloc (.cells #[.string eB, .int .i64 0, .int .i64 0, .int .i64 0, .slice none 0 0, .slice none 0 0] 33))) w5) := Lib.hid ((show Below (((w.alloc (.cells #[.int .i64 x.kind, .string x.text, .int .i64 x.num, .slice q.pn x.names.length q.cn, .slice q.pt x.temps.length q.ct, .slice q.pk x.kids.length q.ck] 25)).alloc (.cells #[.string eB, .int .i64 0, .int .i64 0, .int .i64 0, .slice none 0 0, .slice none 0 0] 33))).heap.size (((w.alloc (.cells #[.int .i64 x.kind, .string x.text, .int .i64 x.num, .slice q.pn x.names.length q.cn, .slice q.pt x.temps.length q.ct, .slice q.pk x.kids.length q.ck] 25)).alloc (.cells #[.string eB, .int .i64 0, .int .i64 0, .int .i64 0, .slice none 0 0, .slice none 0 0] 33))) _ from bel).trans (hb5.mono (by go_size))); have hmz := (HB5.out.block _ (lt_of_block HMZ.out)).trans HMZ.out; have HMZ5 := Lib.hid hmz; have t0 : w5.cell? ⟨w.heap.size + 1, 0, none⟩ = some (.string eB) := cell_in HMZ5.out rfl; have f0 : w5.frozen? ⟨w.heap.size + 1, 0, none⟩ = false := (by simp [World.frozen?, HMZ5.out]); have t1 : w5.cell? ⟨w.heap.size + 1, 1, none⟩ = some (.int .i64 0) := cell_in HMZ5.out rfl; have f1 : w5.frozen? ⟨w.heap.size + 1, 1, none⟩ = false := (by simp [World.frozen?, HMZ5.out]); have t2 : w5.cell? ⟨w.heap.size + 1, 2, none⟩ = some (.int .i64 0) := cell_in HMZ5.out rfl; have f2 : w5.frozen? ⟨w.heap.size + 1, 2, none⟩ = false := (by simp [World.frozen?, HMZ5.out]); have t3 : w5.cell? ⟨w.heap.size + 1, 3, none⟩ = some (.int .i64 0) := cell_in HMZ5.out rfl; have f3 : w5.frozen? ⟨w.heap.size + 1, 3, none⟩ = false := (by simp [World.frozen?, HMZ5.out]); have t4 : w5.cell? ⟨w.heap.size + 1, 4, none⟩ = some (.slice none 0 0) := cell_in HMZ5.out rfl; have f4 : w5.frozen? ⟨w.heap.size + 1, 4, none⟩ = false := (by simp [World.frozen?, HMZ5.out]); have t5 : w5.cell? ⟨w.heap.size + 1, 5, none⟩ = some (.slice none 0 0) := cell_in HMZ5.out rfl; have f5 : w5.frozen? ⟨w.heap.size + 1, 5, none⟩ = false := (by simp [World.frozen?, HMZ5.out]); clear hrp htd hb5 hmz hnl hnc))
 obtain ⟨W9, hW9⟩ : ∃ W9, W9 = ((((((w5.setCell ⟨w.heap.size + 1, 0, none⟩ (.string r.1.sel)).setCell ⟨w.heap.size + 1, 1, none⟩ (.int .i64 (r.1.args : Int))).setCell ⟨w.heap.size + 1, 2, none⟩ (.int .i64 (r.1.temps : Int))).setCell ⟨w.heap.size + 1, 3, none⟩ (.int .i64 r.1.prim)).setCell ⟨w.heap.size + 1, 4, none⟩ (.slice Al nl cl)).setCell ⟨w.heap.size + 1, 5, none⟩ (.slice Ac nc cc)) := ⟨_, rfl⟩
 have h9 : W9.heap[w.heap.size + 1]? = some (.cells #[.string r.1.sel, .int .i64 (r.1.args : Int), .int .i64 (r.1.temps : Int), .int .i64 r.1.prim, .slice Al nl cl, .slice Ac nc cc] 33 (0, 0)) := by rw [hW9]; exact agg_set6 HMZ5.out
 obtain ⟨z0, z1, z2, z3, z4, z5⟩ := cc6 h9
 have HT9 : Hid (Turns (fun k => k = w.heap.size + 1) w5 W9) := Lib.hid (by rw [hW9]; exact six_turns (T := fun k => k = w.heap.size + 1) (Turns.refl _ _) (w.heap.size + 1) rfl)
 rw [← hW9]
 clear hW9 h9
 refine bodyPost_ret (v := .tuple #[.agg #[.string r.1.sel, .int .i64 (r.1.args : Int), .int .i64 (r.1.temps : Int), .int .i64 r.1.prim, .slice Al nl cl, .slice Ac nc cc], .string r.2.1, .int .i64 r.2.2]) (by simp [results, Try.results8, go_sem, z0, z1, z2, z3, z4, z5]) rfl ?_
 have ht := HTD.out.turns (B' := w.heap.size) HT9.out (by go_size) (fun k e => ⟨by subst e; go_size, fun cur => by subst e; rw [HMZ5.out]; simp⟩)
 exact ht.post ((HB2.out.trans (HB5.out.mono (by go_size))).trans (HT9.out.below (fun k e => by subst e; omega) (Nat.le_trans HB2.out.size (by have := HB5.out.size; exact this))))
end Go.Proofs.Ytnojndgmgkgnpaa
