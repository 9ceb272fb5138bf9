/- Chapter 10: a jump is made to lead somewhere. -/
import Derived.Test.YtnojndgmgkgnpaaCG
namespace Go.Proofs.Ytnojndgmgkgnpaa
open Go.ChangeShapes Go.WideShapes Go.ChangeAt Go.RowKit Go.Deep Go.Joins Go.Maps
set_option linter.unusedVariables false
set_option linter.unusedSimpArgs false
theorem ofInt_nat (a : Int) : (BitVec.ofInt 64 a).toNat = (a % 18446744073709551616).toNat := by rw [BitVec.toNat_ofInt]; rfl
theorem and_nat (a : Int) (m : Nat) (hm : m < 9223372036854775808) : bits .and .i64 a (m : Int) = (((a % 18446744073709551616).toNat &&& m : Nat) : Int) := by
 have h2 : (BitVec.ofInt 64 (m : Int)).toNat = m := by
  rw [BitVec.ofInt_natCast, BitVec.toNat_ofNat]; exact Nat.mod_eq_of_lt (by omega)
 show IntKind.i64.wrap ((BitVec.ofInt 64 a &&& BitVec.ofInt 64 (m : Int)).toNat : Int) = _
 have hx : (a % 18446744073709551616).toNat &&& m ≤ m := Nat.and_le_right
 rw [BitVec.toNat_and, ofInt_nat, h2, IntWalk.i64_in _ ⟨by omega, by omega⟩]
theorem and_255 (a : Int) : bits .and .i64 a 255 = a % 256 := by
 have h := and_nat a 255 (by omega)
 have e : (a % 18446744073709551616).toNat &&& 255 = (a % 18446744073709551616).toNat % 256 := Nat.and_two_pow_sub_one_eq_mod _ 8
 rw [e] at h
 rw [show (255 : Int) = ((255 : Nat) : Int) from rfl, h]; omega
theorem set3 : ∀ (l : List Ins) (a : Nat) (i : Ins), a < l.length → (l.set a i).flatMap insC = (((l.flatMap insC).set (a * 3) (.int .i64 i.op)).set (a * 3 + 1) (.int .i64 i.a)).set (a * 3 + 2) (.int .i64 i.b)
 | [], a, i, h => absurd h (by simp)
 | x :: l, 0, i, h => rfl
 | x :: l, a + 1, i, h => by
  have ih := set3 l a i (by simpa using h)
  rw [List.set_cons_succ, List.flatMap_cons, ih, List.flatMap_cons]
  have e : (insC x).length = 3 := rfl
  rw [List.set_append_right _ _ (by rw [e]; omega), List.set_append_right _ _ (by rw [e]; omega), List.set_append_right _ _ (by rw [e]; omega), e]
  rw [show (a + 1) * 3 - 3 = a * 3 by omega, show (a + 1) * 3 + 1 - 3 = a * 3 + 1 by omega, show (a + 1) * 3 + 2 - 3 = a * 3 + 2 by omega]
/-- an instruction is another one -/
theorem CY.put {w0 w : World} {P : Nat → Prop} {cb : Nat} {m : MK} {s : CSt} {lv cv nv : Value} {D : Nat → Prop} {ps : List LP} {g n c a : Nat} {w' : World} (h : CY w0 P w cb m s lv (.slice (some ⟨g, 0, none⟩) n c) nv D ps) (hn : s.code.length = n) (ha : a < n) (i : Ins) (hw : w' = (((w.setCell ⟨g, a * 3, none⟩ (.int .i64 i.op)).setCell ⟨g, a * 3 + 1, none⟩ (.int .i64 i.a)).setCell ⟨g, a * 3 + 2, none⟩ (.int .i64 i.b))) :
  CY w0 P w' cb m { s with code := s.code.set a i } lv (.slice (some ⟨g, 0, none⟩) n c) nv D ps ∧ Turns (outP P) w w' := by
 have ht : Turns (fun k => k = g) w w' := by
  rw [hw]
  exact (((Turns.refl (fun k => k = g) w).setCell ⟨g, a * 3, none⟩ _ (.inl rfl)).setCell ⟨g, a * 3 + 1, none⟩ _ (.inl rfl)).setCell ⟨g, a * 3 + 2, none⟩ _ (.inl rfl)
 have hown := h.code
 rw [hn] at hown
 have h1 := ownsRow_set hown (.int .i64 i.op) (j := a * 3) (by omega)
 have h2 := ownsRow_set h1 (.int .i64 i.a) (j := a * 3 + 1) (by omega)
 have h3 := ownsRow_set h2 (.int .i64 i.b) (j := a * 3 + 2) (by omega)
 rw [← set3 s.code a i (by omega), ← hw] at h3
 obtain ⟨n1, n2⟩ := h.ne
 have hgP := h.cvP g rfl
 have hg := n2 g rfl
 obtain ⟨curg, hcg⟩ := own_type h.code (v := .slice (some ⟨g, 0, none⟩) n c) rfl
 refine ⟨⟨(ht.block cb (lt_of_block h.box) (fun e => hg.1 e.symm)).trans h.box, h.lits.same ht.size (fun k hk => ht.block k (World.ownsRow.lt h.lits.own k hk).2 (fun e => (n1 k hk).2 (by rw [e]; rfl))) (fun b hb hl => ht.block b hl (fun e => hg.2 (e ▸ hb))) (fun _ z => z), h.lps, ?_, ?_, h.nok, h.cbP, h.lvP, h.cvP, fun k hk => ⟨Nat.lt_of_lt_of_le (h.dlt k hk).1 ht.size, (h.dlt k hk).2⟩, fun k hk => ?_, ?_, h.low, fun k hk => Nat.lt_of_lt_of_le (h.lim k hk) ht.size, h.enm⟩, ht.mono (fun k _ e => by rw [e]; exact hgP)⟩
 ·show World.ownsRow _ 0 37 3 _ (s.code.set a i).length _
  rw [List.length_set, hn]; exact h3
 ·refine h.names.same ht.size (fun k hk => ht.block k (h.names.lt hk) (fun e => ?_)) (fun _ _ z => z)
  obtain ⟨cur, hc⟩ := h.names.type hk
  rw [e, hcg] at hc; simp at hc
 ·obtain ⟨cur, hc⟩ := h.dty k hk
  exact ⟨cur, (ht.block k (lt_of_block hc) (fun e => hg.2 (e ▸ hk))).trans hc⟩
 ·refine h.stat.trans (ht.below (fun k q => ?_) h.stat.size)
  rcases Nat.lt_or_ge k w0.heap.size with z | z
  ·exact absurd (q ▸ h.low k z) hgP
  ·exact z
set_option maxRecDepth 100000 in
set_option maxHeartbeats 16000000 in
theorem to_any {w0 w : World} {P : Nat → Prop} {cb : Nat} {m : MK} {s : CSt} (h : CX w0 P w cb m s) (a : Nat) (ha : a < s.code.length) (op : Int) (t : Nat) (ht : t ≤ 1000000) (hf : s.code.length ≤ 1000000) : Calls Try.prog 77 #[.pointer (some ⟨cb, 0, none⟩), .int .i64 (a : Int), .int .i64 op, .int .i64 (t : Int)] w fun e w' => e = .returned (.tuple #[]) ∧ CT w0 P w w' cb m (toP s a op t) := by
 obtain ⟨lv, cv, nv, D, ps, hy, hfw⟩ := h
 obtain ⟨n, hn⟩ : ∃ n, s.code.length = n := ⟨_, rfl⟩
 have HN := Lib.hid hn
 obtain ⟨g, c, hcv⟩ : ∃ g c, cv = .slice (some ⟨g, 0, none⟩) n c := by
  rcases hy.code.2 with ⟨_, h0⟩ | ⟨g, cap, cur, hv, _⟩
  ·omega
  ·exact ⟨g, cap, by rw [hv, hn]⟩
 subst hcv
 have own := hy.code
 rw [hn] at own ha hf
 have hcl : ∀ j, j < 3 → w.cell? ⟨g, a * 3 + j, none⟩ = (insC s.code[a])[j]? := fun j hj => by
  rw [World.ownsRow.cellAt own (a * 3 + j) (by omega)]
  exact flat_at insC_len s.code a j (by omega) hj
 have z0 : w.cell? ⟨g, a * 3, none⟩ = some (.int .i64 s.code[a].op) := hcl 0 (by omega)
 have z1 : w.cell? ⟨g, a * 3 + 1, none⟩ = some (.int .i64 s.code[a].a) := hcl 1 (by omega)
 have z2 : w.cell? ⟨g, a * 3 + 2, none⟩ = some (.int .i64 s.code[a].b) := hcl 2 (by omega)
 obtain ⟨curg, hcg⟩ := own_type own (v := .slice (some ⟨g, 0, none⟩) n c) rfl
 have f0 : w.frozen? ⟨g, a * 3, none⟩ = false := by simp [World.frozen?, hcg]
 have f1 : w.frozen? ⟨g, a * 3 + 1, none⟩ = false := by simp [World.frozen?, hcg]
 have f2 : w.frozen? ⟨g, a * 3 + 2, none⟩ = false := by simp [World.frozen?, hcg]
 have k5 : w.cell? ⟨cb, 5, none⟩ = some (.slice (some ⟨g, 0, none⟩) n c) := by rw [hy.cell]; rfl
 have hand := and_255 (t : Int)
 have g0 : (0 : Int) ≤ (a : Int) := by omega
 have g1 : (a : Int) < (n : Int) := by omega
 have HY := Lib.hid hy
 have HFW := Lib.hid hfw
 obtain ⟨y0, hy0⟩ : ∃ y, s.code[a].op = y := ⟨_, rfl⟩
 obtain ⟨y1, hy1⟩ : ∃ y, s.code[a].a = y := ⟨_, rfl⟩
 obtain ⟨y2, hy2⟩ : ∃ y, s.code[a].b = y := ⟨_, rfl⟩
 rw [hy0] at z0
 rw [hy1] at z1
 rw [hy2] at z2
 clear hy hfw own hcl hcg hn hy0 hy1 hy2
 go_enter Try.func77, Try.ntmps77
 go_wp2_with fail
 go_returns
 have hp := CY.put (cv := .slice none 0 0) HY.out HN.out ha ⟨op, ((t % 256 : Nat) : Int), ((t / 256 : Nat) : Int)⟩ rfl
 simp only [Int.natCast_emod, Int.natCast_ediv] at hp
 exact ⟨rfl, ⟨_, _, _, _, _, hp.1, HFW.out⟩, hp.2⟩
theorem to_at {w0 ws w1 w : World} {P : Nat → Prop} {cb : Nat} {m : MK} {s : CSt} (h : CT w0 P ws w1 cb m s) (hb : Below w1.heap.size w1 w) (a : Nat) (ha : a < s.code.length) (op : Int) (t : Nat) (ht : t ≤ 1000000) (hf : s.code.length ≤ 1000000) : Calls Try.prog 77 #[.pointer (some ⟨cb, 0, none⟩), .int .i64 (a : Int), .int .i64 op, .int .i64 (t : Int)] w fun e w' => e = .returned (.tuple #[]) ∧ CT w0 P ws w' cb m (toP s a op t) := by
 have h2 := h.below hb
 refine (to_any h2.1 a ha op t ht hf).mono ?_
 rintro e w' ⟨he, hc⟩
 exact ⟨he, h2.go hc⟩
set_option maxRecDepth 100000 in
set_option maxHeartbeats 16000000 in
theorem plain_any {x : NodT} {q : NS} (hok : NdOk x q) (w : World) : Calls Try.prog 87 #[ndV x q] w fun e w' => e = .returned (.bool (plainN x)) ∧ Below w.heap.size w w' := by
 obtain ⟨k, t, nm, ns, ts, ks⟩ := x
 obtain ⟨hki, hnu, htx, hnl, htl, hkl⟩ := hok
 simp only [NodT.kind, NodT.text, NodT.num, NodT.kids, NodT.names, NodT.temps] at hki hnu htx hnl htl hkl
 unfold ndV
 simp only [NodT.kind, NodT.text, NodT.num, NodT.kids, NodT.names, NodT.temps]
 obtain ⟨nn, hnn⟩ : ∃ n, ns.length = n := ⟨_, rfl⟩
 obtain ⟨nk, hnk⟩ : ∃ n, ks.length = n := ⟨_, rfl⟩
 rw [hnn] at hnl
 rw [hnk] at hkl
 have hnl2 : nn ≤ 9223372036854775807 := by unfold maxLen at hnl; omega
 have hkl2 : nk ≤ 9223372036854775807 := by unfold maxLen at hkl; omega
 have HV : Hid (plainN (.node k t nm ns ts ks) = (decide (k = 9) && decide (nn = 0))) := Lib.hid (by rw [← hnn]; rfl)
 rw [HV.out]
 rw [hnn, hnk]
 by_cases e1 : k = 9
 ·subst e1
  by_cases e2 : nn = 0
  ·have d2 : (nn == 0) = true := by simpa using e2
   have d3 : ((nn : Int) == 0) = true := by simp; omega
   go_enter Try.func87, Try.ntmps87
   go_wp2_with fail
   go_ret
   exact ⟨ret_bool (by first | (simp; done) | simp_all), bel⟩
  ·have d2 : (nn == 0) = false := by simpa using e2
   have d3 : ((nn : Int) == 0) = false := by simp; omega
   go_enter Try.func87, Try.ntmps87
   go_wp2_with fail
   go_ret
   exact ⟨ret_bool (by first | (simp; done) | simp_all), bel⟩
 ·have d1 : (k == 9) = false := by simpa using e1
  go_enter Try.func87, Try.ntmps87
  go_wp2_with fail
  go_ret
  exact ⟨ret_bool (by first | (simp; done) | simp_all), bel⟩
set_option maxRecDepth 100000 in
set_option maxHeartbeats 16000000 in
theorem super_any {x : NodT} {q : NS} (hok : NdOk x q) (w : World) : Calls Try.prog 88 #[ndV x q] w fun e w' => e = .returned (.bool (superN x)) ∧ Below w.heap.size w w' := by
 obtain ⟨k, t, nm, ns, ts, ks⟩ := x
 obtain ⟨hki, hnu, htx, hnl, htl, hkl⟩ := hok
 simp only [NodT.kind, NodT.text, NodT.num, NodT.kids, NodT.names, NodT.temps] at hki hnu htx hnl htl hkl
 unfold ndV
 simp only [NodT.kind, NodT.text, NodT.num, NodT.kids, NodT.names, NodT.temps]
 obtain ⟨nn, hnn⟩ : ∃ n, ns.length = n := ⟨_, rfl⟩
 obtain ⟨nk, hnk⟩ : ∃ n, ks.length = n := ⟨_, rfl⟩
 rw [hnn] at hnl
 rw [hnk] at hkl
 have hnl2 : nn ≤ 9223372036854775807 := by unfold maxLen at hnl; omega
 have hkl2 : nk ≤ 9223372036854775807 := by unfold maxLen at hkl; omega
 have HV : Hid (superN (.node k t nm ns ts ks) = (decide (k = 5) && (t.toList == [115, 117, 112, 101, 114]))) := Lib.hid rfl
 rw [HV.out]
 rw [hnn, hnk]
 by_cases e1 : k = 5
 ·subst e1
  cases e2 : t.toList == [115, 117, 112, 101, 114] with
  | true =>
   go_enter Try.func88, Try.ntmps88
   go_wp2_with fail
   go_ret
   exact ⟨ret_bool (by first | (simp; done) | simp_all), bel⟩
  | false =>
   go_enter Try.func88, Try.ntmps88
   go_wp2_with fail
   go_ret
   exact ⟨ret_bool (by first | (simp; done) | simp_all), bel⟩
 ·have d1 : (k == 5) = false := by simpa using e1
  go_enter Try.func88, Try.ntmps88
  go_wp2_with fail
  go_ret
  exact ⟨ret_bool (by first | (simp; done) | simp_all), bel⟩
def oneP (x : NodT) (s : CSt) : CSt := if x.kids.length = 1 then s else failP s eB 1
set_option maxRecDepth 100000 in
set_option maxHeartbeats 16000000 in
theorem one_any {w0 w : World} {P : Nat → Prop} {cb : Nat} {m : MK} {s : CSt} (h : CX w0 P w cb m s) {x : NodT} {q : NS} (hok : NdOk x q) : Calls Try.prog 63 #[.pointer (some ⟨cb, 0, none⟩), ndV x q] w fun e w' => e = .returned (.bool (x.kids.length == 1)) ∧ CT w0 P w w' cb m (oneP x s) := by
 obtain ⟨k, t, nm, ns, ts, ks⟩ := x
 obtain ⟨hki, hnu, htx, hnl, htl, hkl⟩ := hok
 simp only [NodT.kind, NodT.text, NodT.num, NodT.kids, NodT.names, NodT.temps] at hki hnu htx hnl htl hkl
 unfold ndV
 simp only [NodT.kind, NodT.text, NodT.num, NodT.kids, NodT.names, NodT.temps]
 obtain ⟨nn, hnn⟩ : ∃ n, ns.length = n := ⟨_, rfl⟩
 obtain ⟨nk, hnk⟩ : ∃ n, ks.length = n := ⟨_, rfl⟩
 rw [hnn] at hnl
 rw [hnk] at hkl
 have hnl2 : nn ≤ 9223372036854775807 := by unfold maxLen at hnl; omega
 have hkl2 : nk ≤ 9223372036854775807 := by unfold maxLen at hkl; omega
 have HV : Hid (oneP (.node k t nm ns ts ks) s = if nk = 1 then s else failP s eB 1) := Lib.hid (by rw [← hnk]; rfl)
 rw [HV.out, hnk]
 by_cases e1 : nk = 1
 ·rw [if_pos e1]
  have d1 : (nk == 1) = true := by simpa using e1
  have d2 : ((nk : Int) == 1) = true := by simp; omega
  go_enter Try.func63, Try.ntmps63
  go_wp2_with fail
  go_ret
  exact ⟨ret_bool (by first | (simp; done) | simp_all), h.ct.below bel⟩
 ·rw [if_neg e1]
  have d1 : (nk == 1) = false := by simpa using e1
  have d2 : ((nk : Int) == 1) = false := by simp; omega
  have hb : Below w.heap.size w (w.alloc (.cells #[.int .i64 k, .string t, .int .i64 nm, .slice q.pn nn q.cn, .slice q.pt ts.length q.ct, .slice q.pk nk q.ck] 25)) := (Below.refl _ _).alloc (Nat.le_refl _) _
  have HB := Lib.hid hb
  have HK := Lib.hid (h.keep hb)
  have HBX : Hid ((w.alloc (.cells #[.int .i64 k, .string t, .int .i64 nm, .slice q.pn nn q.cn, .slice q.pt ts.length q.ct, .slice q.pk nk q.ck] 25)).heap[w.heap.size]? = some (.cells #[.int .i64 k, .string t, .int .i64 nm, .slice q.pn nn q.cn, .slice q.pt ts.length q.ct, .slice q.pk nk q.ck] 25 (0, 0))) := Lib.hid (heap_alloc_new w _)
  have HH := Lib.hid h
  clear h hb
  go_enter Try.func63, Try.ntmps63
  go_wp2_with (first | (go_at_call 54; (with_reducible refine (fail_any HK.out ⟨#[]⟩ (Nat.zero_le _) 1).mono ?_); rintro e w3 ⟨rfl, hx3⟩; have HX3 := Lib.hid hx3; have hb5 := (hx3.2.block w.heap.size (by simp) (fun z => z (.inr ⟨Nat.le_refl _, by simp⟩))).trans HBX.out; have k5 : w3.cell? ⟨w.heap.size, 5, none⟩ = some (.slice q.pk nk q.ck) := (by simp [World.cell?, hb5]); clear hx3 hb5))
  go_ret
  exact ⟨ret_bool (by first | (simp; done) | simp_all), HH.out.ct.back HB.out HX3.out (fun k z => .inl z)⟩
end Go.Proofs.Ytnojndgmgkgnpaa
