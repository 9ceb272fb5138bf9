/- Chapter 05: the reference reads an object. -/
import Derived.Test.YtfinpgkehjbcpaaJA
import Derived.Test.YtfinpgkehjbcpaaJRead
import Derived.Test.YtfinpgkehjbcpaaIN
import Derived.Deep.RegionHeld3
import Derived.Deep.RegionLaw
import Derived.Lib.SlBytesConst
namespace Go.Proofs.Ytfinpgkehjbcpaa
open Go.ChangeShapes Go.WideShapes Go.ChangeAt Go.RowKit Go.Deep Go.Joins Go.Maps
set_option linter.unusedVariables false
set_option linter.unusedSimpArgs false
/-- an object under way: what reads, the result's cell, the thing -/
structure OQ (w : World) (rb bb tr tb : Nat) (f h c : Int) (v : Value) (σ : RdS) (wi : World) : Prop where
  rs : RT wi rb bb σ
  ts : Turns (rset rb) w wi
  t0 : wi.heap[tr]? = some (.cells #[.int .i64 0, .int .i64 0, .int .i64 0, .slice none 0 0] 75 (0, 0))
  t1 : wi.heap[tb]? = some (.cells #[.int .i64 f, .int .i64 h, .int .i64 c, v] 75 (0, 0))
  ne : rb ≠ tr ∧ rb ≠ tb ∧ bb ≠ tr ∧ bb ≠ tb ∧ tr ≠ tb ∧ w.heap.size ≤ tr ∧ w.heap.size ≤ tb
section
variable {w wi w' : World} {rb bb tr tb : Nat} {f h c : Int} {v : Value} {σ σ' : RdS}
theorem OQ.lt (H : OQ w rb bb tr tb f h c v σ wi) : tb < wi.heap.size ∧ tr < wi.heap.size := by
  have h1 := H.t1
  have h0 := H.t0
  constructor
  · rcases Nat.lt_or_ge tb wi.heap.size with q | q
    · exact q
    · rw [Array.getElem?_eq_none q] at h1; cases h1
  · rcases Nat.lt_or_ge tr wi.heap.size with q | q
    · exact q
    · rw [Array.getElem?_eq_none q] at h0; cases h0
theorem OQ.c1 (H : OQ w rb bb tr tb f h c v σ wi) : wi.cell? ⟨tb, 1, none⟩ = some (.int .i64 h) := by simp [World.cell?, H.t1]
theorem OQ.c0 (H : OQ w rb bb tr tb f h c v σ wi) : wi.cell? ⟨tb, 0, none⟩ = some (.int .i64 f) := by simp [World.cell?, H.t1]
theorem OQ.c2 (H : OQ w rb bb tr tb f h c v σ wi) : wi.cell? ⟨tb, 2, none⟩ = some (.int .i64 c) := by simp [World.cell?, H.t1]
theorem OQ.c3 (H : OQ w rb bb tr tb f h c v σ wi) : wi.cell? ⟨tb, 3, none⟩ = some v := by simp [World.cell?, H.t1]
theorem OQ.r0 (H : OQ w rb bb tr tb f h c v σ wi) : wi.cell? ⟨tr, 0, none⟩ = some (.int .i64 0) := by simp [World.cell?, H.t0]
theorem OQ.r1 (H : OQ w rb bb tr tb f h c v σ wi) : wi.cell? ⟨tr, 1, none⟩ = some (.int .i64 0) := by simp [World.cell?, H.t0]
theorem OQ.r2 (H : OQ w rb bb tr tb f h c v σ wi) : wi.cell? ⟨tr, 2, none⟩ = some (.int .i64 0) := by simp [World.cell?, H.t0]
theorem OQ.r3 (H : OQ w rb bb tr tb f h c v σ wi) : wi.cell? ⟨tr, 3, none⟩ = some (.slice none 0 0) := by simp [World.cell?, H.t0]
theorem OQ.free (H : OQ w rb bb tr tb f h c v σ wi) (k : Nat) : wi.frozen? ⟨tb, k, none⟩ = false := by simp [World.frozen?, H.t1]
theorem OQ.free0 (H : OQ w rb bb tr tb f h c v σ wi) (k : Nat) : wi.frozen? ⟨tr, k, none⟩ = false := by simp [World.frozen?, H.t0]
theorem OQ.read (H : OQ w rb bb tr tb f h c v σ wi) (hr : RT w' rb bb σ') (ht : Turns (rset rb) wi w') : OQ w rb bb tr tb f h c v σ' w' :=
  ⟨hr, H.ts.trans ht, (ht.block tr H.lt.2 (fun q => H.ne.1 q.symm)).trans H.t0, (ht.block tb H.lt.1 (fun q => H.ne.2.1 q.symm)).trans H.t1, H.ne⟩
theorem OQ.below (H : OQ w rb bb tr tb f h c v σ wi) (hb : Below wi.heap.size wi w') : OQ w rb bb tr tb f h c v σ w' := H.read (H.rs.below hb) (Turns.of_below hb)
theorem OQ.drew (H : OQ w rb bb tr tb f h c v σ wi) : OQ w rb bb tr tb f h c v σ wi.drew := H.below (Below.drew (Below.refl _ _))
theorem OQ.set_ (H : OQ w rb bb tr tb f h c v σ wi) {k : Nat} {x : Value} {f' h' c' : Int} {v' : Value} (hk : (#[Value.int .i64 f, .int .i64 h, .int .i64 c, v] : Array Value).set! k x = #[.int .i64 f', .int .i64 h', .int .i64 c', v']) : OQ w rb bb tr tb f' h' c' v' σ (wi.setCell ⟨tb, k, none⟩ x) := by
  have ht : Turns (fun b => b = tb) wi (wi.setCell ⟨tb, k, none⟩ x) := (Turns.refl _ _).setCell _ _ rfl
  obtain ⟨n1, n2, n3, n4, n5, n6, n7⟩ := H.ne
  refine ⟨H.rs.turns ht n2 n4, H.ts.setNew _ _ n7, (ht.block tr H.lt.2 n5).trans H.t0, ?_, H.ne⟩
  rw [heap_setCell_same wi tb k _ _ _ H.t1, ← hk]; rfl
theorem OQ.grow (H : OQ w rb bb tr tb f h c v σ wi) {o : Option Nat} (hg : wi.grownBy w' o) (ho : ∀ k, o = some k → tb < k ∧ k ≠ rb ∧ k ≠ bb ∧ k ≠ tr) : OQ w rb bb tr tb f h c v σ w' := by
  have ht : Turns (fun b => o = some b) wi w' := ⟨hg.os, hg.tape, hg.output, hg.size, fun k hk hs => hg.block k hk (fun q => hs q.symm)⟩
  have hne := H.ne
  have hlt := H.lt
  refine ⟨H.rs.turns ht (fun q => (ho _ q).2.1 rfl) (fun q => (ho _ q).2.2.1 rfl), ?_, (ht.block tr hlt.2 (fun q => (ho _ q).2.2.2 rfl)).trans H.t0, (ht.block tb hlt.1 (fun q => by have := (ho _ q).1; omega)).trans H.t1, hne⟩
  exact H.ts.trans2 ht (fun j hj => .inr (by have := (ho j hj).1; omega))
theorem OQ.alloc1 (H : OQ w rb bb tr tb f h c v σ wi) (o : Obj) : OQ w rb bb tr tb f h c v σ (wi.alloc o) := H.below ((Below.refl _ _).alloc (Nat.le_refl _) o)
end
theorem OQ.spoil {w wi : World} {rb bb tr tb : Nat} {c f h : Int} {v : Value} {σ : RdS} (H : OQ w rb bb tr tb c f h v σ wi) : OQ w rb bb tr tb c f h v none (wi.setCell ⟨rb, 2, none⟩ (.bool true)) := H.read H.rs.spoil.1 H.rs.spoil.2
theorem qcount_at {w : World} {rb bb : Nat} {σ σ' : RdS} {c : Nat} (h : RT w rb bb σ) (most : Nat) (x : Int) (hx : x = (most : Int)) (hm : most ≤ 9223372036854775807) (hc : cntR most σ = (c, σ')) : Calls Try.prog 52 #[.pointer (some ⟨rb, 0, none⟩), .int .i64 x] w fun e w' => e = .returned (.int .i64 (c : Int)) ∧ RT w' rb bb σ' ∧ Turns (rset rb) w w' := by
  have := qcount_lit h most x hx hm
  rw [hc] at this
  exact this
theorem qword_at {w : World} {rb bb n pc c : Nat} {σ σ' : RdS} {PA : Option Addr} {ps : List Int} {vc : Int} (h : RT w rb bb σ) (hp : Nums w PA ps) (hn : ps.length = n) (hn1 : n ≤ 100000000) (hne : ∀ b off, PA = some ⟨b, off, none⟩ → ¬ rset rb b) (hpi : ∀ x, x ∈ ps → InI x) (hw : wrdN n σ = (c, σ')) (hv : realP ps (c : Int) = vc) : Calls Try.prog 54 #[.pointer (some ⟨rb, 0, none⟩), .slice PA n pc] w fun e w' => e = .returned (.int .i64 vc) ∧ RT w' rb bb σ' ∧ Turns (rset rb) w w' := by
  have := qword_any (pc := pc) h hp hn hn1 hne hpi
  rw [hw] at this
  rw [← hv]
  exact this
theorem qbyte_at {w : World} {rb bb : Nat} {l : List Int} {σ' : RdS} {x : Int} (h : RT w rb bb (some l)) (hb : byteR (some l) = (x, σ')) : Calls Try.prog 89 #[.pointer (some ⟨rb, 0, none⟩)] w fun e w' => e = .returned (.int .i64 x) ∧ RT w' rb bb σ' ∧ Turns (rset rb) w w' := by
  refine (qbyte_any h).mono ?_
  rintro e w' ⟨y, rfl, hy, hr, ht, _⟩
  rw [hb] at hr hy
  rw [hy l rfl]
  exact ⟨rfl, hr, ht⟩
theorem runfold_at {c : Nat} {v : Int} (h : c ≤ 4611686018427387904) (hv : unfV c = v) (w : World) : Calls Try.prog 90 #[.int .i64 (c : Int)] w fun e w' => e = .returned (.int .i64 v) ∧ w' = w := by
  rw [← hv]; exact runfold_any c h w
set_option maxRecDepth 100000 in
set_option maxHeartbeats 16000000 in
theorem qobject_any {w : World} {rb bb n pc : Nat} {σ : RdS} {PA : Option Addr} {ps : List Int} (h : RT w rb bb σ) (hbb : bb < w.heap.size) (hp : Nums w PA ps) (hn : ps.length = n) (hn1 : n ≤ 100000000) (hne : ∀ b off, PA = some ⟨b, off, none⟩ → ¬ rset rb b) (hpe : ∀ x, x ∈ ps → x % 2 = 0 ∧ 6 ≤ x) (hpi : ∀ x, x ∈ ps → InI x) : Calls Try.prog 53 #[.pointer (some ⟨rb, 0, none⟩), .slice PA n pc] w fun e w' => ∃ v, e = .returned (.agg #[.int .i64 (realP ps ((objN n σ).1.cls : Int)), .int .i64 ((objN n σ).1.fmt : Int), .int .i64 (objN n σ).1.hash, v]) ∧ Ints w' w.heap.size v ((objN n σ).1.F.map (fldP ps (objN n σ).1.fmt)) ∧ RT w' rb bb (objN n σ).2 ∧ Turns (rset rb) w w' := by
  obtain ⟨i0, hi, hz0, hz1, hz2⟩ := info_parts infoI
  have HIN : Hid (∃ i0, True) := Lib.hid ⟨i0, trivial⟩
  obtain ⟨f, s1, hc1⟩ : ∃ f s1, cntR 2 σ = (f, s1) := ⟨_, _, rfl⟩
  obtain ⟨cnt, s2, hc2⟩ : ∃ n s2, cntR 256 s1 = (n, s2) := ⟨_, _, rfl⟩
  obtain ⟨hc, s3, hc3⟩ : ∃ n s3, cntR 4611686018427387903 s2 = (n, s3) := ⟨_, _, rfl⟩
  obtain ⟨hh, hhh⟩ : ∃ x, unfV hc = x := ⟨_, rfl⟩
  obtain ⟨c, s4, hc4⟩ : ∃ c s4, wrdN n s3 = (c, s4) := ⟨_, _, rfl⟩
  obtain ⟨vc, hvc⟩ : ∃ x, realP ps (c : Int) = x := ⟨_, rfl⟩
  obtain ⟨s6, hs6⟩ : ∃ s6, mustR (okC c) (mustR (okH hh) s4) = s6 := ⟨_, rfl⟩
  obtain ⟨F, s7, hc7⟩ : ∃ F s7, fldsN n f cnt s6 = (F, s7) := ⟨_, _, rfl⟩
  have hn3 : numR s2 = (hh, s3) := by unfold numR; rw [hc3, ← hhh]
  have HV : Hid (objN n σ = (⟨f, hh, c, F⟩, s7)) := Lib.hid (by unfold objN; simp only [hc1, hc2, hn3, hc4, hs6, hc7])
  rw [HV.out]
  show Calls Try.prog 53 _ w fun e w' => ∃ v, e = .returned (.agg #[.int .i64 (realP ps (c : Int)), .int .i64 (f : Int), .int .i64 hh, v]) ∧ Ints w' w.heap.size v (F.map (fldP ps f)) ∧ RT w' rb bb s7 ∧ Turns (rset rb) w w'
  rw [hvc]
  have hf2 : f ≤ 2 := cntN_le _ _ hc1
  have hn2 : cnt ≤ 256 := cntN_le _ _ hc2
  have hhl : hc ≤ 4611686018427387903 := cntN_le _ _ hc3
  have hcb : c ≤ 4611686018427387904 := by have := wrdN_le n s3; rw [hc4] at this; exact this
  have hhi : InI hh := by rw [← hhh]; unfold unfV; split <;> (constructor <;> (show _ ≤ _; omega))
  have hvi : InI vc := by rw [← hvc]; exact realP_in hpi hcb
  have HHH := Lib.hid hhh
  have HC1 := Lib.hid hc1
  have HC2 := Lib.hid hc2
  have HC3 := Lib.hid hc3
  have HC4 := Lib.hid hc4
  have HVC := Lib.hid hvc
  have HC6 : Hid (mustR (decide (-1099511627776 ≤ hh) && decide (hh ≤ 1099511627776) && decide (vc % 2 = 0) && !decide (vc = 2) && !decide (vc = 4)) s4 = s6) := Lib.hid (by
    rw [← hs6, ← hvc]; exact (obj_test hpe (by rw [hn]; exact hc4) hh).symm)
  have HC7 := Lib.hid hc7
  have HN := Lib.hid hp
  have HNE := Lib.hid hne
  have HPI := Lib.hid hpi
  have HL := Lib.hid hn
  have hrl0 := h.lt
  have hq0 : OQ w rb bb w.heap.size (w.heap.size + 1) 0 0 0 (.slice none 0 0) σ ((w.alloc (.cells #[.int .i64 0, .int .i64 0, .int .i64 0, .slice none 0 0] 75)).alloc (.cells #[.int .i64 0, .int .i64 0, .int .i64 0, .slice none 0 0] 75)) := by
    have b0 : Below w.heap.size w (w.alloc (.cells #[.int .i64 0, .int .i64 0, .int .i64 0, .slice none 0 0] 75)) := (Below.refl _ _).alloc (Nat.le_refl _) _
    have b1 : Below (w.heap.size + 1) (w.alloc (.cells #[.int .i64 0, .int .i64 0, .int .i64 0, .slice none 0 0] 75)) ((w.alloc (.cells #[.int .i64 0, .int .i64 0, .int .i64 0, .slice none 0 0] 75)).alloc (.cells #[.int .i64 0, .int .i64 0, .int .i64 0, .slice none 0 0] 75)) := (Below.refl _ _).alloc (by simp) _
    have b2 : Below w.heap.size w ((w.alloc (.cells #[.int .i64 0, .int .i64 0, .int .i64 0, .slice none 0 0] 75)).alloc (.cells #[.int .i64 0, .int .i64 0, .int .i64 0, .slice none 0 0] 75)) := b0.alloc (by simp) _
    refine ⟨h.below b2, Turns.of_below b2, (b1.block _ (by omega)).trans (heap_alloc_new w _), ?_, ?_⟩
    · have e := heap_alloc_new (w.alloc (.cells #[.int .i64 0, .int .i64 0, .int .i64 0, .slice none 0 0] 75)) (.cells #[.int .i64 0, .int .i64 0, .int .i64 0, .slice none 0 0] 75)
      rw [World.size_alloc] at e
      exact e
    · omega
  obtain ⟨W0, hW0⟩ : ∃ W0, W0 = (w.alloc (.cells #[.int .i64 0, .int .i64 0, .int .i64 0, .slice none 0 0] 75)).alloc (.cells #[.int .i64 0, .int .i64 0, .int .i64 0, .slice none 0 0] 75) := ⟨_, rfl⟩
  rw [← hW0] at hq0
  have HS := Lib.hid hq0
  have k0 := HS.out.c0
  have k1 := HS.out.c1
  have k2 := HS.out.c2
  have kf0 := HS.out.free 0
  have kf1 := HS.out.free 1
  have kf2 := HS.out.free 2
  have hrl := HS.out.rs.lt
  clear hq0 hc1 hc2 hc3 hc4 hs6 hc7 HV h hp hne hpi hpe hn hhh hvc hn3
  go_enter Try.func53, Try.ntmps53
  go_upto_region 2 with fail
  rw [← hW0]
  clear hW0
  go_upto_region 3 with (first | (go_at_call 52; (with_reducible refine (qcount_at HS.out.rs 2 2 rfl (by omega) HC1.out).mono ?_); rintro e w4 ⟨rfl, hr4, ht4⟩; replace HS := Lib.hid (HS.out.read hr4 ht4); have k0 := HS.out.c0; have k1 := HS.out.c1; have k2 := HS.out.c2; have kf0 := HS.out.free 0; have kf1 := HS.out.free 1; have kf2 := HS.out.free 2; have hrl := HS.out.rs.lt; clear hr4 ht4))
  obtain ⟨W5, hW5⟩ : ∃ W5, W5 = w4.setCell ⟨w.heap.size + 1, 1, none⟩ (.int .i64 (f : Int)) := ⟨_, rfl⟩
  have hq5 : OQ w rb bb w.heap.size (w.heap.size + 1) 0 (f : Int) 0 (.slice none 0 0) s1 W5 := by rw [hW5]; exact HS.out.set_ (k := 1) rfl
  rw [← hW5]
  clear hW5 HS k0 k1 k2 kf0 kf1 kf2
  have HS := Lib.hid hq5
  have k0 := HS.out.c0
  have k1 := HS.out.c1
  have k2 := HS.out.c2
  have kf0 := HS.out.free 0
  have kf1 := HS.out.free 1
  have kf2 := HS.out.free 2
  have hrl := HS.out.rs.lt
  clear hq5
  go_upto_region 5 with (first | (go_at_call 52; (with_reducible refine (qcount_at HS.out.rs 256 256 rfl (by omega) HC2.out).mono ?_); rintro e w4 ⟨rfl, hr4, ht4⟩; replace HS := Lib.hid (HS.out.read hr4 ht4); have k0 := HS.out.c0; have k1 := HS.out.c1; have k2 := HS.out.c2; have kf0 := HS.out.free 0; have kf1 := HS.out.free 1; have kf2 := HS.out.free 2; have hrl := HS.out.rs.lt; clear hr4 ht4) | (go_at_call 52; (with_reducible refine (qcount_at HS.out.rs 4611686018427387903 4611686018427387903 rfl (by omega) HC3.out).mono ?_); rintro e w4 ⟨rfl, hr4, ht4⟩; replace HS := Lib.hid (HS.out.read hr4 ht4); have k0 := HS.out.c0; have k1 := HS.out.c1; have k2 := HS.out.c2; have kf0 := HS.out.free 0; have kf1 := HS.out.free 1; have kf2 := HS.out.free 2; have hrl := HS.out.rs.lt; clear hr4 ht4) | (go_at_call 90; (with_reducible refine (runfold_at (by omega) HHH.out _).mono ?_); rintro e w5 ⟨rfl, hw5⟩; replace hw5 := hw5.symm; subst hw5))
  obtain ⟨W5, hW5⟩ : ∃ W5, W5 = w4.setCell ⟨w.heap.size + 1, 2, none⟩ (.int .i64 hh) := ⟨_, rfl⟩
  have hq5 : OQ w rb bb w.heap.size (w.heap.size + 1) 0 (f : Int) hh (.slice none 0 0) s3 W5 := by rw [hW5]; exact HS.out.set_ (k := 2) rfl
  rw [← hW5]
  clear hW5 HS k0 k1 k2 kf0 kf1 kf2
  have HS := Lib.hid hq5
  have k0 := HS.out.c0
  have k1 := HS.out.c1
  have k2 := HS.out.c2
  have kf0 := HS.out.free 0
  have kf1 := HS.out.free 1
  have kf2 := HS.out.free 2
  have hrl := HS.out.rs.lt
  clear hq5
  go_upto_region 6 with (first | (go_at_call 54; (with_reducible refine (qword_at HS.out.rs (HN.out.turns HS.out.ts HNE.out) HL.out hn1 HNE.out HPI.out HC4.out HVC.out).mono ?_); rintro e w4 ⟨rfl, hr4, ht4⟩; replace HS := Lib.hid (HS.out.read hr4 ht4); have k0 := HS.out.c0; have k1 := HS.out.c1; have k2 := HS.out.c2; have kf0 := HS.out.free 0; have kf1 := HS.out.free 1; have kf2 := HS.out.free 2; have hrl := HS.out.rs.lt; clear hr4 ht4))
  obtain ⟨W5, hW5⟩ : ∃ W5, W5 = w4.setCell ⟨w.heap.size + 1, 0, none⟩ (.int .i64 vc) := ⟨_, rfl⟩
  have hq5 : OQ w rb bb w.heap.size (w.heap.size + 1) vc (f : Int) hh (.slice none 0 0) s4 W5 := by rw [hW5]; exact HS.out.set_ (k := 0) rfl
  rw [← hW5]
  clear hW5 HS k0 k1 k2 kf0 kf1 kf2
  have HS := Lib.hid hq5
  have k0 := HS.out.c0
  have k1 := HS.out.c1
  have k2 := HS.out.c2
  have kf0 := HS.out.free 0
  have kf1 := HS.out.free 1
  have kf2 := HS.out.free 2
  have hrl := HS.out.rs.lt
  clear hq5
  have htm : vc.tmod 2 = 0 ↔ vc % 2 = 0 := ⟨fun x => by have := Int.dvd_of_tmod_eq_zero x; omega, fun x => Int.tmod_eq_zero_of_dvd (by omega)⟩
  have a1 := HS.out.rs.c2
  have a2 := HS.out.rs.free 2
  go_cut [45] (fun b wx => ∃ tb : Bool, b = .bool tb ∧ wx = W5 ∧ mustR (!tb) s4 = s6)
  case first =>
    by_cases q0 : hh < -1099511627776
    · skip
      have e00 : decide (hh < -1099511627776) = true := decide_eq_true q0
      have HO : Hid (none = s6) := Lib.hid (by have h6 := HC6.out; rw [decide_eq_false (show ¬ -1099511627776 ≤ hh by omega)] at h6; rw [← h6]; simp [mustR])
      go_wp2_with fail
      go_meet
      exact ⟨true, rfl, rfl, HO.out⟩
    · skip
      have e00 : decide (hh < -1099511627776) = false := decide_eq_false q0
      by_cases q1 : 1099511627776 < hh
      · skip
        have e10 : decide (1099511627776 < hh) = true := decide_eq_true q1
        have HO : Hid (none = s6) := Lib.hid (by have h6 := HC6.out; rw [decide_eq_true (show -1099511627776 ≤ hh by omega), decide_eq_false (show ¬ hh ≤ 1099511627776 by omega)] at h6; rw [← h6]; simp [mustR])
        go_wp2_with fail
        go_meet
        exact ⟨true, rfl, rfl, HO.out⟩
      · skip
        have e10 : decide (1099511627776 < hh) = false := decide_eq_false q1
        by_cases q2 : ¬ vc % 2 = 0
        · skip
          have q2' : ¬ vc.tmod 2 = 0 := fun x => q2 (htm.1 x)
          have e2 : decide (vc.tmod 2 = 0) = false := decide_eq_false q2'
          have e2' : (vc.tmod 2 == 0) = false := by simpa using q2'
          have HO : Hid (none = s6) := Lib.hid (by have h6 := HC6.out; rw [decide_eq_true (show -1099511627776 ≤ hh by omega), decide_eq_true (show hh ≤ 1099511627776 by omega), decide_eq_false (show ¬ vc % 2 = 0 by omega)] at h6; rw [← h6]; simp [mustR])
          go_wp2_with fail
          go_meet
          exact ⟨true, rfl, rfl, HO.out⟩
        · skip
          have q2' : vc.tmod 2 = 0 := htm.2 (by omega)
          by_cases q3 : vc = 2
          · skip
            have e30 : decide (vc = 2) = true := decide_eq_true q3
            have e39 : (vc == 2) = true := by simpa using q3
            have HO : Hid (none = s6) := Lib.hid (by have h6 := HC6.out; rw [decide_eq_true (show -1099511627776 ≤ hh by omega), decide_eq_true (show hh ≤ 1099511627776 by omega), decide_eq_true (show vc % 2 = 0 by omega), decide_eq_true (show vc = 2 by omega)] at h6; rw [← h6]; simp [mustR])
            go_wp2_with fail
            go_meet
            exact ⟨true, rfl, rfl, HO.out⟩
          · skip
            have e30 : decide (vc = 2) = false := decide_eq_false q3
            have e39 : (vc == 2) = false := by simpa using q3
            by_cases q4 : vc = 4
            · skip
              have e40 : decide (vc = 4) = true := decide_eq_true q4
              have e49 : (vc == 4) = true := by simpa using q4
              have HO : Hid (none = s6) := Lib.hid (by have h6 := HC6.out; rw [decide_eq_true (show -1099511627776 ≤ hh by omega), decide_eq_true (show hh ≤ 1099511627776 by omega), decide_eq_true (show vc % 2 = 0 by omega), decide_eq_false (show ¬ vc = 2 by omega), decide_eq_true (show vc = 4 by omega)] at h6; rw [← h6]; simp [mustR])
              go_wp2_with fail
              go_meet
              exact ⟨true, rfl, rfl, HO.out⟩
            · skip
              have e40 : decide (vc = 4) = false := decide_eq_false q4
              have e49 : (vc == 4) = false := by simpa using q4
              have HO : Hid (s4 = s6) := Lib.hid (by have h6 := HC6.out; rw [decide_eq_true (show -1099511627776 ≤ hh by omega), decide_eq_true (show hh ≤ 1099511627776 by omega), decide_eq_true (show vc % 2 = 0 by omega), decide_eq_false (show ¬ vc = 2 by omega), decide_eq_false (show ¬ vc = 4 by omega)] at h6; rw [← h6]; simp [mustR])
              go_wp2_with fail
              go_meet
              exact ⟨false, rfl, rfl, HO.out⟩
  clear htm
  obtain ⟨tb, rfl, rfl, hms⟩ := hcut
  have HMS := Lib.hid hms
  clear hms
  go_upto_if 45 with fail
  go_cut [] (fun wx => OQ w rb bb w.heap.size (w.heap.size + 1) vc (f : Int) hh (.slice none 0 0) s6 wx)
  case first =>
    cases tb with
    | false =>
      go_wp2_with fail
      go_meet
      have h1 : s4 = s6 := HMS.out
      exact h1 ▸ HS.out
    | true =>
      go_wp2_with fail
      go_meet
      have h1 : none = s6 := HMS.out
      exact h1 ▸ HS.out.spoil
  case rest =>
    clear HS k0 k1 k2 kf0 kf1 kf2
    have HS := Lib.hid hcut
    have k0 := HS.out.c0
    have k1 := HS.out.c1
    have k2 := HS.out.c2
    have kf0 := HS.out.free 0
    have kf1 := HS.out.free 1
    have kf2 := HS.out.free 2
    have hrl := HS.out.rs.lt
    clear hcut
    go_wp2_with fail
    go_loopw [7] (fun i wr => ∃ (k : Nat) (G : List Int) (A3 : Option Addr) (c3 : Nat) (σk : RdS), i = .int .i64 k ∧ k ≤ cnt ∧ G.length = k ∧ OQ w rb bb w.heap.size (w.heap.size + 1) vc f hh (.slice A3 k c3) σk wr ∧ Ints wr (w.heap.size + 1 + 1) (.slice A3 k c3) (G.map (fldP ps f)) ∧ fldsN n f cnt s6 = (G ++ (fldsN n f (cnt - k) σk).1, (fldsN n f (cnt - k) σk).2)) (fun i _ => cnt - (intOf i).toNat)
    case atStart => exact ⟨0, [], none, 0, s6, rfl, Nat.zero_le _, rfl, HS.out, Ints.nil0 _ _, by simp⟩
    case round =>
      obtain ⟨k, G, A3, c3, σk, rfl, hk, hps, hos, hin, hfl⟩ := hrel
      clear HS k0 k1 k2 kf0 kf1 kf2 hrl
      have HS := Lib.hid hos
      have HI := Lib.hid hin
      have HFL := Lib.hid hfl
      have HPS := Lib.hid hps
      have HPB : Hid (rb ≤ w.heap.size + 1 ∧ bb ≤ w.heap.size + 1 ∧ w.heap.size ≤ w.heap.size + 1) := Lib.hid (by omega)
      have kr := hos.rs.c2
      have s3 := hos.c3
      have sf3 := hos.free 3
      have k1 := hos.c1
      have hrl := hos.rs.lt
      clear hos hin hfl hps
      by_cases hlt : k < cnt
      · have d1 : decide (k < cnt) = true := decide_eq_true hlt
        have d2 : decide ((k : Int) < (cnt : Int)) = true := decide_eq_true (by omega)
        cases σk with
        | some lk =>
          simp only [Option.isNone] at kr
          rcases (show f = 0 ∨ f = 1 ∨ f = 2 by omega) with hfz | hfz | hfz
          · skip
            obtain ⟨yc, σ', hg⟩ : ∃ yc σ', wrdN n (some lk) = (yc, σ') := ⟨_, _, rfl⟩
            obtain ⟨vy, hvy⟩ : ∃ vy, realP ps (yc : Int) = vy := ⟨_, rfl⟩
            have hyi : InI vy := by rw [← hvy]; exact realP_in HPI.out (by have := wrdN_le n (some lk); rw [hg] at this; exact this)
            have HG := Lib.hid hg
            have HVY := Lib.hid hvy
            obtain ⟨y, hy⟩ : ∃ y : Int, y = (yc : Int) := ⟨_, rfl⟩
            have HFD : Hid (fldN n f (some lk) = (y, σ') ∧ fldP ps f y = vy) := Lib.hid ⟨by rw [hfz, hy]; show ((_ : Int), _) = _; rw [hg], by rw [hfz, hy]; exact hvy⟩
            have HFL2 : Hid (fldsN n f cnt s6 = ((G ++ [y]) ++ (fldsN n f (cnt - (k + 1)) σ').1, (fldsN n f (cnt - (k + 1)) σ').2)) := Lib.hid (by
              rw [HFL.out, show cnt - k = cnt - (k + 1) + 1 by omega]
              have e : ∀ m, fldsN n f (m + 1) (some lk) = ((fldN n f (some lk)).1 :: (fldsN n f m (fldN n f (some lk)).2).1, (fldsN n f m (fldN n f (some lk)).2).2) := fun _ => rfl
              rw [e, HFD.out.1]
              simp)
            have HPL0 : Hid ((G.map (fldP ps f)).length = k) := Lib.hid (by rw [List.length_map]; exact HPS.out)
            have HPL1 : Hid (((G ++ [y]).map (fldP ps f)).length = k + 1) := Lib.hid (by have := HPS.out; simp; omega)
            have HNEWF : Hid (∀ (v5 : Value) (w5 : World), w5.ownsRow (w.heap.size + 1 + 1) 3 1 v5 (((G.map (fldP ps f)).length + 1)) (((G.map (fldP ps f)).map (Value.int .i64)) ++ [.int .i64 vy]) → Ints w5 (w.heap.size + 1 + 1) v5 ((G ++ [y]).map (fldP ps f))) := Lib.hid (fun v5 w5 hh => by
              have e : (G ++ [y]).map (fldP ps f) = G.map (fldP ps f) ++ [vy] := by rw [List.map_append, List.map_cons, List.map_nil, HFD.out.2]
              rw [e]
              unfold Ints
              rw [List.length_append, List.map_append]
              exact hh)
            have dz0 : decide ((f : Int) = 0) = true := decide_eq_true (by omega)
            have ez0 : ((f : Int) == 0) = true := by simpa using dz0
            have dz1 : decide ((f : Int) = 1) = false := decide_eq_false (by omega)
            have ez1 : ((f : Int) == 1) = false := by simpa using dz1
            have dz2 : decide ((f : Int) = 2) = false := decide_eq_false (by omega)
            have ez2 : ((f : Int) == 2) = false := by simpa using dz2
            clear hg hy hvy HFL hfz
            go_upto_region 18 with (first | (go_at_call 54; (with_reducible refine (qword_at HS.out.rs (HN.out.turns HS.out.ts HNE.out) HL.out hn1 HNE.out HPI.out HG.out HVY.out).mono ?_); rintro e w4 ⟨rfl, hr4, ht4⟩; replace HS := Lib.hid (HS.out.read hr4 ht4); replace HI := Lib.hid (HI.out.turnsT ht4 (fun j hj q => by have := HPB.out; unfold rset at q; omega)); have s3 := HS.out.c3; have sf3 := HS.out.free 3; have k0 := HS.out.c0; have k1 := HS.out.c1; have k2 := HS.out.c2; have kf0 := HS.out.free 0; have kf1 := HS.out.free 1; have kf2 := HS.out.free 2; have hrl := HS.out.rs.lt; clear hr4 ht4))
            go_wp2_with (first | (at_builtin; refine wpList_append_own _ rfl _ _ 23 rfl (w.heap.size + 1 + 1) 3 i0 (.int .i64 0) 1 8 Try.underlying23 hi hz0 hz1 hz2 rfl (by decide) _ _ _ rfl (HI.out.below1 _) ⟨w4.heap.size, 0, none⟩ 1 1 [.int .i64 vy] rfl rfl (cells_newN _ _ _ _ (by simp)) (by simp [Value.oneCell']) (by unfold maxLen; have h1 := HPL0.out; omega) (by have h1 := HPL0.out; omega) (by have := HS.out.lt.1; simp only [World.size_alloc]; omega) ?_; intro v5 w5 hown5 hg5 _; replace hown5 := (HNEWF.out _ _ hown5); obtain ⟨A5, c5, rfl, hc5, hn5, ha5, hm5, _⟩ := hown5.nums; rw [HPL1.out] at hc5 hown5 ⊢; have HI5 := Lib.hid hown5; have HS5 := Lib.hid ((HS.out.alloc1 _).grow hg5 (fun k hk => HI.out.own1 HPB.out k hk)); have s3 := HS5.out.c3; have sf3 := HS5.out.free 3; clear hown5 hg5 hn5 ha5))
            go_roundw
            case rel => exact ⟨k + 1, G ++ [y], A5, c5, σ', by go_num, by omega, by have := HPS.out; simp; omega, HS5.out.set_ (k := 3) rfl, HI5.out.turnsT (T := fun b => b = w.heap.size + 1) ((Turns.refl _ _).setCell _ _ rfl) (fun j hj q => by omega), HFL2.out⟩
            case measure => simp [intOf]; omega
          · skip
            obtain ⟨yc, σ', hg⟩ : ∃ yc σ', cntR 4611686018427387903 (some lk) = (yc, σ') := ⟨_, _, rfl⟩
            have hyl := cntN_le _ _ hg
            obtain ⟨y, hvy⟩ : ∃ y, unfV yc = y := ⟨_, rfl⟩
            obtain ⟨vy, hy⟩ : ∃ vy, vy = y := ⟨_, rfl⟩
            have hyi : InI vy := by rw [hy, ← hvy]; unfold unfV; split <;> (constructor <;> (show _ ≤ _; omega))
            have HG := Lib.hid hg
            have HVY : Hid (unfV yc = vy) := Lib.hid (hvy.trans hy.symm)
            have HFD : Hid (fldN n f (some lk) = (y, σ') ∧ fldP ps f y = vy) := Lib.hid ⟨by rw [hfz, ← hvy]; show ((_ : Int), _) = _; rw [hg], by rw [hfz, hy]; rfl⟩
            have HFL2 : Hid (fldsN n f cnt s6 = ((G ++ [y]) ++ (fldsN n f (cnt - (k + 1)) σ').1, (fldsN n f (cnt - (k + 1)) σ').2)) := Lib.hid (by
              rw [HFL.out, show cnt - k = cnt - (k + 1) + 1 by omega]
              have e : ∀ m, fldsN n f (m + 1) (some lk) = ((fldN n f (some lk)).1 :: (fldsN n f m (fldN n f (some lk)).2).1, (fldsN n f m (fldN n f (some lk)).2).2) := fun _ => rfl
              rw [e, HFD.out.1]
              simp)
            have HPL0 : Hid ((G.map (fldP ps f)).length = k) := Lib.hid (by rw [List.length_map]; exact HPS.out)
            have HPL1 : Hid (((G ++ [y]).map (fldP ps f)).length = k + 1) := Lib.hid (by have := HPS.out; simp; omega)
            have HNEWF : Hid (∀ (v5 : Value) (w5 : World), w5.ownsRow (w.heap.size + 1 + 1) 3 1 v5 (((G.map (fldP ps f)).length + 1)) (((G.map (fldP ps f)).map (Value.int .i64)) ++ [.int .i64 vy]) → Ints w5 (w.heap.size + 1 + 1) v5 ((G ++ [y]).map (fldP ps f))) := Lib.hid (fun v5 w5 hh => by
              have e : (G ++ [y]).map (fldP ps f) = G.map (fldP ps f) ++ [vy] := by rw [List.map_append, List.map_cons, List.map_nil, HFD.out.2]
              rw [e]
              unfold Ints
              rw [List.length_append, List.map_append]
              exact hh)
            have dz0 : decide ((f : Int) = 0) = false := decide_eq_false (by omega)
            have ez0 : ((f : Int) == 0) = false := by simpa using dz0
            have dz1 : decide ((f : Int) = 1) = true := decide_eq_true (by omega)
            have ez1 : ((f : Int) == 1) = true := by simpa using dz1
            have dz2 : decide ((f : Int) = 2) = false := decide_eq_false (by omega)
            have ez2 : ((f : Int) == 2) = false := by simpa using dz2
            clear hg hy hvy HFL hfz
            go_upto_region 18 with (first | (go_at_call 52; (with_reducible refine (qcount_at HS.out.rs 4611686018427387903 4611686018427387903 rfl (by omega) HG.out).mono ?_); rintro e w4 ⟨rfl, hr4, ht4⟩; replace HS := Lib.hid (HS.out.read hr4 ht4); replace HI := Lib.hid (HI.out.turnsT ht4 (fun j hj q => by have := HPB.out; unfold rset at q; omega)); have s3 := HS.out.c3; have sf3 := HS.out.free 3; have k0 := HS.out.c0; have k1 := HS.out.c1; have k2 := HS.out.c2; have kf0 := HS.out.free 0; have kf1 := HS.out.free 1; have kf2 := HS.out.free 2; have hrl := HS.out.rs.lt; clear hr4 ht4) | (go_at_call 90; (with_reducible refine (runfold_at (by omega) HVY.out _).mono ?_); rintro e w5 ⟨rfl, hw5⟩; replace hw5 := hw5.symm; subst hw5))
            go_wp2_with (first | (at_builtin; refine wpList_append_own _ rfl _ _ 23 rfl (w.heap.size + 1 + 1) 3 i0 (.int .i64 0) 1 8 Try.underlying23 hi hz0 hz1 hz2 rfl (by decide) _ _ _ rfl (HI.out.below1 _) ⟨w4.heap.size, 0, none⟩ 1 1 [.int .i64 vy] rfl rfl (cells_newN _ _ _ _ (by simp)) (by simp [Value.oneCell']) (by unfold maxLen; have h1 := HPL0.out; omega) (by have h1 := HPL0.out; omega) (by have := HS.out.lt.1; simp only [World.size_alloc]; omega) ?_; intro v5 w5 hown5 hg5 _; replace hown5 := (HNEWF.out _ _ hown5); obtain ⟨A5, c5, rfl, hc5, hn5, ha5, hm5, _⟩ := hown5.nums; rw [HPL1.out] at hc5 hown5 ⊢; have HI5 := Lib.hid hown5; have HS5 := Lib.hid ((HS.out.alloc1 _).grow hg5 (fun k hk => HI.out.own1 HPB.out k hk)); have s3 := HS5.out.c3; have sf3 := HS5.out.free 3; clear hown5 hg5 hn5 ha5))
            go_roundw
            case rel => exact ⟨k + 1, G ++ [y], A5, c5, σ', by go_num, by omega, by have := HPS.out; simp; omega, HS5.out.set_ (k := 3) rfl, HI5.out.turnsT (T := fun b => b = w.heap.size + 1) ((Turns.refl _ _).setCell _ _ rfl) (fun j hj q => by omega), HFL2.out⟩
            case measure => simp [intOf]; omega
          · skip
            obtain ⟨y, σ', hg⟩ : ∃ y σ', byteR (some lk) = (y, σ') := ⟨_, _, rfl⟩
            obtain ⟨vy, hy⟩ : ∃ vy, vy = y := ⟨_, rfl⟩
            have HG : Hid (byteR (some lk) = (vy, σ')) := Lib.hid (by rw [hg, hy])
            have hyi : InI vy := by
              have hib := HS.out.rs.isB
              rw [hy]
              cases lk with
              | nil => have e : (0 : Int) = y := congrArg Prod.fst hg; rw [← e]; constructor <;> decide
              | cons a l2 => have e : a = y := congrArg Prod.fst hg; have h9 := hib a (by simp); rw [← e]; constructor <;> (show _ ≤ _; omega)
            have HVY : Hid True := Lib.hid trivial
            have HFD : Hid (fldN n f (some lk) = (y, σ') ∧ fldP ps f y = vy) := Lib.hid ⟨by rw [hfz]; exact hg, by rw [hfz, hy]; rfl⟩
            have HFL2 : Hid (fldsN n f cnt s6 = ((G ++ [y]) ++ (fldsN n f (cnt - (k + 1)) σ').1, (fldsN n f (cnt - (k + 1)) σ').2)) := Lib.hid (by
              rw [HFL.out, show cnt - k = cnt - (k + 1) + 1 by omega]
              have e : ∀ m, fldsN n f (m + 1) (some lk) = ((fldN n f (some lk)).1 :: (fldsN n f m (fldN n f (some lk)).2).1, (fldsN n f m (fldN n f (some lk)).2).2) := fun _ => rfl
              rw [e, HFD.out.1]
              simp)
            have HPL0 : Hid ((G.map (fldP ps f)).length = k) := Lib.hid (by rw [List.length_map]; exact HPS.out)
            have HPL1 : Hid (((G ++ [y]).map (fldP ps f)).length = k + 1) := Lib.hid (by have := HPS.out; simp; omega)
            have HNEWF : Hid (∀ (v5 : Value) (w5 : World), w5.ownsRow (w.heap.size + 1 + 1) 3 1 v5 (((G.map (fldP ps f)).length + 1)) (((G.map (fldP ps f)).map (Value.int .i64)) ++ [.int .i64 vy]) → Ints w5 (w.heap.size + 1 + 1) v5 ((G ++ [y]).map (fldP ps f))) := Lib.hid (fun v5 w5 hh => by
              have e : (G ++ [y]).map (fldP ps f) = G.map (fldP ps f) ++ [vy] := by rw [List.map_append, List.map_cons, List.map_nil, HFD.out.2]
              rw [e]
              unfold Ints
              rw [List.length_append, List.map_append]
              exact hh)
            have dz0 : decide ((f : Int) = 0) = false := decide_eq_false (by omega)
            have ez0 : ((f : Int) == 0) = false := by simpa using dz0
            have dz1 : decide ((f : Int) = 1) = false := decide_eq_false (by omega)
            have ez1 : ((f : Int) == 1) = false := by simpa using dz1
            have dz2 : decide ((f : Int) = 2) = true := decide_eq_true (by omega)
            have ez2 : ((f : Int) == 2) = true := by simpa using dz2
            clear hg hy HFL hfz
            go_upto_region 18 with (first | (go_at_call 89; (with_reducible refine (qbyte_at HS.out.rs HG.out).mono ?_); rintro e w4 ⟨rfl, hr4, ht4⟩; replace HS := Lib.hid (HS.out.read hr4 ht4); replace HI := Lib.hid (HI.out.turnsT ht4 (fun j hj q => by have := HPB.out; unfold rset at q; omega)); have s3 := HS.out.c3; have sf3 := HS.out.free 3; have k0 := HS.out.c0; have k1 := HS.out.c1; have k2 := HS.out.c2; have kf0 := HS.out.free 0; have kf1 := HS.out.free 1; have kf2 := HS.out.free 2; have hrl := HS.out.rs.lt; clear hr4 ht4))
            go_wp2_with (first | (at_builtin; refine wpList_append_own _ rfl _ _ 23 rfl (w.heap.size + 1 + 1) 3 i0 (.int .i64 0) 1 8 Try.underlying23 hi hz0 hz1 hz2 rfl (by decide) _ _ _ rfl (HI.out.below1 _) ⟨w4.heap.size, 0, none⟩ 1 1 [.int .i64 vy] rfl rfl (cells_newN _ _ _ _ (by simp)) (by simp [Value.oneCell']) (by unfold maxLen; have h1 := HPL0.out; omega) (by have h1 := HPL0.out; omega) (by have := HS.out.lt.1; simp only [World.size_alloc]; omega) ?_; intro v5 w5 hown5 hg5 _; replace hown5 := (HNEWF.out _ _ hown5); obtain ⟨A5, c5, rfl, hc5, hn5, ha5, hm5, _⟩ := hown5.nums; rw [HPL1.out] at hc5 hown5 ⊢; have HI5 := Lib.hid hown5; have HS5 := Lib.hid ((HS.out.alloc1 _).grow hg5 (fun k hk => HI.out.own1 HPB.out k hk)); have s3 := HS5.out.c3; have sf3 := HS5.out.free 3; clear hown5 hg5 hn5 ha5))
            go_roundw
            case rel => exact ⟨k + 1, G ++ [y], A5, c5, σ', by go_num, by omega, by have := HPS.out; simp; omega, HS5.out.set_ (k := 3) rfl, HI5.out.turnsT (T := fun b => b = w.heap.size + 1) ((Turns.refl _ _).setCell _ _ rfl) (fun j hj q => by omega), HFL2.out⟩
            case measure => simp [intOf]; omega
        | none =>
          have HFF : Hid (F = G ∧ s7 = none) := Lib.hid (by
            have h1 := HFL.out
            rw [HC7.out, show cnt - k = cnt - (k + 1) + 1 by omega] at h1
            have e : ∀ m, fldsN n f (m + 1) none = ([], none) := fun _ => rfl
            rw [e] at h1
            cases h1
            simp)
          simp only [Option.isNone] at kr
          clear HFL
          have q0 := HS.out.c0
          have q1 := HS.out.c1
          have q2 := HS.out.c2
          have p0 := HS.out.free0 0
          have p1 := HS.out.free0 1
          have p2 := HS.out.free0 2
          have p3 := HS.out.free0 3
          have r0 := HS.out.r0
          have r1 := HS.out.r1
          have r2 := HS.out.r2
          have r3 := HS.out.r3
          have hrl2 := HS.out.lt.2
          go_wp2_with fail
          obtain ⟨W9, hW9⟩ : ∃ W9, W9 = (((wr.setCell ⟨w.heap.size, 0, none⟩ (.int .i64 vc)).setCell ⟨w.heap.size, 1, none⟩ (.int .i64 (f : Int))).setCell ⟨w.heap.size, 2, none⟩ (.int .i64 hh)).setCell ⟨w.heap.size, 3, none⟩ (.slice A3 k c3) := ⟨_, rfl⟩
          have h9 : W9.heap[w.heap.size]? = some (.cells #[.int .i64 vc, .int .i64 (f : Int), .int .i64 hh, .slice A3 k c3] 75 (0, 0)) := by
            rw [hW9]; exact agg_set HS.out.t0
          have z0 : W9.cell? ⟨w.heap.size, 0, none⟩ = some (.int .i64 vc) := by simp [World.cell?, h9]
          have z1 : W9.cell? ⟨w.heap.size, 1, none⟩ = some (.int .i64 (f : Int)) := by simp [World.cell?, h9]
          have z2 : W9.cell? ⟨w.heap.size, 2, none⟩ = some (.int .i64 hh) := by simp [World.cell?, h9]
          have z3 : W9.cell? ⟨w.heap.size, 3, none⟩ = some (.slice A3 k c3) := by simp [World.cell?, h9]
          have hT : Turns (fun b => b = w.heap.size) wr W9 := by rw [hW9]; exact four_turns
          have hT2 : Turns (rset rb) w W9 := by rw [hW9]; exact four_new HS.out.ts (Nat.le_refl _)
          rw [← hW9]
          clear hW9 h9
          have hne := HS.out.ne
          refine bodyPost_ret (v := .agg #[.int .i64 vc, .int .i64 (f : Int), .int .i64 hh, .slice A3 k c3]) (by simp [results, Try.results53, go_sem, z0, z1, z2, z3]) rfl ⟨.slice A3 k c3, rfl, ?_, ?_, hT2⟩
          · rw [HFF.out.1]
            exact (HI.out.turnsT hT (fun j hj q => by omega)).base_ (by omega)
          · rw [HFF.out.2]
            exact HS.out.rs.turns hT (fun q => hne.1 q) (fun q => hne.2.2.1 q)
      · have d1 : decide (k < cnt) = false := decide_eq_false hlt
        have d2 : decide ((k : Int) < (cnt : Int)) = false := decide_eq_false (by omega)
        have HFF : Hid (F = G ∧ s7 = σk) := Lib.hid (by
          have h1 := HFL.out
          rw [HC7.out, show cnt - k = 0 by omega] at h1
          have e : fldsN n f 0 σk = ([], σk) := rfl
          rw [e] at h1
          cases h1
          simp)
        clear HFL
        have q0 := HS.out.c0
        have q1 := HS.out.c1
        have q2 := HS.out.c2
        have p0 := HS.out.free0 0
        have p1 := HS.out.free0 1
        have p2 := HS.out.free0 2
        have p3 := HS.out.free0 3
        have r0 := HS.out.r0
        have r1 := HS.out.r1
        have r2 := HS.out.r2
        have r3 := HS.out.r3
        have hrl2 := HS.out.lt.2
        go_wp2_with fail
        obtain ⟨W9, hW9⟩ : ∃ W9, W9 = (((wr.setCell ⟨w.heap.size, 0, none⟩ (.int .i64 vc)).setCell ⟨w.heap.size, 1, none⟩ (.int .i64 (f : Int))).setCell ⟨w.heap.size, 2, none⟩ (.int .i64 hh)).setCell ⟨w.heap.size, 3, none⟩ (.slice A3 k c3) := ⟨_, rfl⟩
        have h9 : W9.heap[w.heap.size]? = some (.cells #[.int .i64 vc, .int .i64 (f : Int), .int .i64 hh, .slice A3 k c3] 75 (0, 0)) := by
          rw [hW9]; exact agg_set HS.out.t0
        have z0 : W9.cell? ⟨w.heap.size, 0, none⟩ = some (.int .i64 vc) := by simp [World.cell?, h9]
        have z1 : W9.cell? ⟨w.heap.size, 1, none⟩ = some (.int .i64 (f : Int)) := by simp [World.cell?, h9]
        have z2 : W9.cell? ⟨w.heap.size, 2, none⟩ = some (.int .i64 hh) := by simp [World.cell?, h9]
        have z3 : W9.cell? ⟨w.heap.size, 3, none⟩ = some (.slice A3 k c3) := by simp [World.cell?, h9]
        have hT : Turns (fun b => b = w.heap.size) wr W9 := by rw [hW9]; exact four_turns
        have hT2 : Turns (rset rb) w W9 := by rw [hW9]; exact four_new HS.out.ts (Nat.le_refl _)
        rw [← hW9]
        clear hW9 h9
        have hne := HS.out.ne
        refine bodyPost_ret (v := .agg #[.int .i64 vc, .int .i64 (f : Int), .int .i64 hh, .slice A3 k c3]) (by simp [results, Try.results53, go_sem, z0, z1, z2, z3]) rfl ⟨.slice A3 k c3, rfl, ?_, ?_, hT2⟩
        · rw [HFF.out.1]
          exact (HI.out.turnsT hT (fun j hj q => by omega)).base_ (by omega)
        · rw [HFF.out.2]
          exact HS.out.rs.turns hT (fun q => hne.1 q) (fun q => hne.2.2.1 q)
end Go.Proofs.Ytfinpgkehjbcpaa
