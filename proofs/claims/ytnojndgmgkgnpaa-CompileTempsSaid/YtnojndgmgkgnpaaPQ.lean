/- Chapter 10: the reference's parser: the parts that call one another. -/
import Derived.Test.YtnojndgmgkgnpaaPI
import Derived.Test.YtnojndgmgkgnpaaPJ
import Derived.Test.YtnojndgmgkgnpaaPG
import Derived.Test.YtnojndgmgkgnpaaPK
import Derived.Test.YtnojndgmgkgnpaaPL
import Derived.Test.YtnojndgmgkgnpaaPM0
import Derived.Test.YtnojndgmgkgnpaaPN
import Derived.Test.YtnojndgmgkgnpaaPR
import Derived.Test.YtnojndgmgkgnpaaPTok
namespace Go.Proofs.Ytnojndgmgkgnpaa
open Go.ChangeShapes Go.WideShapes Go.ChangeAt Go.RowKit Go.Deep Go.Joins Go.Maps
set_option linter.unusedVariables false
set_option linter.unusedSimpArgs false
theorem pspec {T : Tks} (hok : TokOk T) : ∀ f, PSpec T f
 | 0 => ⟨fun _ _ hf => absurd hf (Nat.not_lt_zero _), fun _ _ _ _ hf => absurd hf (Nat.not_lt_zero _), fun _ _ hf => absurd hf (Nat.not_lt_zero _), fun _ _ _ _ hf => absurd hf (Nat.not_lt_zero _), fun _ _ hf => absurd hf (Nat.not_lt_zero _), fun _ _ hf => absurd hf (Nat.not_lt_zero _), fun _ _ hf => absurd hf (Nat.not_lt_zero _), fun _ _ hf => absurd hf (Nat.not_lt_zero _)⟩
 | f + 1 => by
  have hp := pspec hok f
  exact ⟨fun h hi hf => prim_go hp h hok hi hf, fun h hi hD hx hf => bin_go hp h hok hi hD hx hf, fun h hi hf => msg_go hp h hok hi hf, fun h hi hD hx hf => kw_go hp h hok hi hD hx hf, fun h hi hf => expr_go hp h hok hi hf, fun h hi hf => lits_go hp h hok hi hf, fun h hi hf => blk_go hp h hok hi hf, fun h hi hf => stmts_go hp h hok hi hf⟩
end Go.Proofs.Ytnojndgmgkgnpaa
/- Chapter 10: the reference's parser: a source is read. -/
namespace Go.Proofs.Ytnojndgmgkgnpaa
open Go.ChangeShapes Go.WideShapes Go.ChangeAt Go.RowKit Go.Deep Go.Joins Go.Maps
set_option linter.unusedVariables false
set_option linter.unusedSimpArgs false
theorem Bw.six {w W : World} {rb ob pb : Nat} {v : Value} {T : Tks} {s : PSt} {kd nu : Int} {tv : ByteArray} {vn vt vk : Value} {ns ts : List ByteArray} (h : Bw w W rb ob pb v T s kd tv nu vn vt vk ns ts) {kd' nu' : Int} {tv' : ByteArray} {vn' : Value} {ns' : List ByteArray} {base : Nat} (hr : SRow W base vn' ns') (hb : ob + 1 ≤ base) : Bw w ((((((W.setCell ⟨ob, 0, none⟩ (.int .i64 kd')).setCell ⟨ob, 1, none⟩ (.string tv')).setCell ⟨ob, 2, none⟩ (.int .i64 nu')).setCell ⟨ob, 3, none⟩ (vn')).setCell ⟨ob, 4, none⟩ (.slice none 0 0)).setCell ⟨ob, 5, none⟩ (.slice none 0 0)) rb ob pb v T s kd' tv' nu' vn' (.slice none 0 0) (.slice none 0 0) ns' [] := by
 have ht : Turns (fun k => k = ob) W ((((((W.setCell ⟨ob, 0, none⟩ (.int .i64 kd')).setCell ⟨ob, 1, none⟩ (.string tv')).setCell ⟨ob, 2, none⟩ (.int .i64 nu')).setCell ⟨ob, 3, none⟩ (vn')).setCell ⟨ob, 4, none⟩ (.slice none 0 0)).setCell ⟨ob, 5, none⟩ (.slice none 0 0)) := six_turns (T := fun k => k = ob) (Turns.refl _ _) ob rfl
 refine ⟨h.pt.turned ht (fun k e => by have e9 : k = ob := e; exact ⟨by have := h.ol; omega, by have := h.pl; omega, fun q => by have := h.vl k q; omega⟩), h.ol, h.rl, h.pl, h.rp, h.vl, (ht.block _ (lt_of_block h.res) (fun e => by have e9 : rb = ob := e; have := h.rl; omega)).trans h.res, agg_set6 h.out, SRow.turned (ownsRow_mono hr hb) ht (fun b e => by have e9 : b = ob := e; omega), SRow.nil _ _⟩
theorem six_zero {w W : World} (h : Below w.heap.size w W) (hz : W.heap[w.heap.size]? = some (.cells #[.int .i64 0, .string eB, .int .i64 0, .slice none 0 0, .slice none 0 0, .slice none 0 0] 25 (0, 0))) : Below w.heap.size w ((((((W.setCell ⟨w.heap.size, 0, none⟩ (.int .i64 0)).setCell ⟨w.heap.size, 1, none⟩ (.string eB)).setCell ⟨w.heap.size, 2, none⟩ (.int .i64 0)).setCell ⟨w.heap.size, 3, none⟩ (.slice none 0 0)).setCell ⟨w.heap.size, 4, none⟩ (.slice none 0 0)).setCell ⟨w.heap.size, 5, none⟩ (.slice none 0 0)).drew ∧ ((((((W.setCell ⟨w.heap.size, 0, none⟩ (.int .i64 0)).setCell ⟨w.heap.size, 1, none⟩ (.string eB)).setCell ⟨w.heap.size, 2, none⟩ (.int .i64 0)).setCell ⟨w.heap.size, 3, none⟩ (.slice none 0 0)).setCell ⟨w.heap.size, 4, none⟩ (.slice none 0 0)).setCell ⟨w.heap.size, 5, none⟩ (.slice none 0 0)).drew.heap[w.heap.size]? = some (.cells #[.int .i64 0, .string eB, .int .i64 0, .slice none 0 0, .slice none 0 0, .slice none 0 0] 25 (0, 0)) := by
 have ht : Turns (fun k => k = w.heap.size) W ((((((W.setCell ⟨w.heap.size, 0, none⟩ (.int .i64 0)).setCell ⟨w.heap.size, 1, none⟩ (.string eB)).setCell ⟨w.heap.size, 2, none⟩ (.int .i64 0)).setCell ⟨w.heap.size, 3, none⟩ (.slice none 0 0)).setCell ⟨w.heap.size, 4, none⟩ (.slice none 0 0)).setCell ⟨w.heap.size, 5, none⟩ (.slice none 0 0)) := six_turns (T := fun k => k = w.heap.size) (Turns.refl _ _) w.heap.size rfl
 have hb : ((((((W.setCell ⟨w.heap.size, 0, none⟩ (.int .i64 0)).setCell ⟨w.heap.size, 1, none⟩ (.string eB)).setCell ⟨w.heap.size, 2, none⟩ (.int .i64 0)).setCell ⟨w.heap.size, 3, none⟩ (.slice none 0 0)).setCell ⟨w.heap.size, 4, none⟩ (.slice none 0 0)).setCell ⟨w.heap.size, 5, none⟩ (.slice none 0 0)).heap[w.heap.size]? = some (.cells #[.int .i64 0, .string eB, .int .i64 0, .slice none 0 0, .slice none 0 0, .slice none 0 0] 25 (0, 0)) := agg_set6 hz
 obtain ⟨W9, hW9⟩ : ∃ W9, ((((((W.setCell ⟨w.heap.size, 0, none⟩ (.int .i64 0)).setCell ⟨w.heap.size, 1, none⟩ (.string eB)).setCell ⟨w.heap.size, 2, none⟩ (.int .i64 0)).setCell ⟨w.heap.size, 3, none⟩ (.slice none 0 0)).setCell ⟨w.heap.size, 4, none⟩ (.slice none 0 0)).setCell ⟨w.heap.size, 5, none⟩ (.slice none 0 0)) = W9 := ⟨_, rfl⟩
 rw [hW9] at ht hb ⊢
 exact ⟨(h.trans (ht.below (fun k e => by have e9 : k = w.heap.size := e; omega) h.size)).drew, hb⟩
/-- what is told of a source: a node in new blocks -/
def Read7P (r : NodT × Int × Int) (w : World) (e : Ending) (w' : World) : Prop := ∃ q, e = .returned (.tuple #[ndV r.1 q, .int .i64 r.2.1, .int .i64 r.2.2]) ∧ Below w.heap.size w w' ∧ IsNd w' (fun b => w.heap.size ≤ b) r.1 q
/-- a source that is not too long: its tokens -/
theorem tok_post {s : ByteArray} {T : Tks} {w w' : World} {e : Ending} (hs : s.size ≤ 2000) (hT : Lx.toksV s.data.toList = .ok T) (h : Lx.TokensPost w s e w') : ∃ At ct, e = .returned (.tuple #[.slice At T.length ct, .int .i64 0, .int .i64 0]) ∧ Below w.heap.size w w' ∧ w'.ownsRow w.heap.size 55 4 (.slice At T.length ct) T.length (Lx.rowCells T) := by
 obtain ⟨hb, ⟨h2, _⟩ | ⟨_, ⟨a, x, h3, _⟩ | ⟨A', v, h3, he, ho⟩⟩⟩ := h
 ·omega
 ·rw [hT] at h3; cases h3
 ·rw [hT] at h3
  cases h3
  obtain ⟨At, ct, hv, _⟩ := own_slice ho
  subst hv
  exact ⟨At, ct, he, hb, ho⟩
theorem need_num {T : Tks} (hok : TokOk T) (s : PSt) (k : Int) (text : ByteArray) : InI (needT T s k text).1.num := by
 unfold needT
 split
 ·exact hok.num _ (ahd_mem hok)
 ·exact (⟨by decide, by decide⟩ : InI 0)
theorem head_tx {T : Tks} (hok : TokOk T) (s : PSt) (m : Bool) {ht : ByteArray} {hn : List ByteArray} {hu : Int} {hs : PSt} (hh : (if m = true then headT T s else (bDoIt, [], 0, s)) = (ht, hn, hu, hs)) (hi : s.i ≤ T.length) : ht.size ≤ big63 ∧ (∀ x, x ∈ hn → x.size ≤ 100000) ∧ InI hu ∧ hs.i ≤ T.length := by
 have h1 := pat_tx hok s
 have hg := pat_go hok.at0 s
 have hb : big63 = 9223372036854775807 := rfl
 have hl := hok.len
 cases m with
 | false =>
  cases hh
  exact ⟨by decide, fun x hx => absurd hx (by simp), ⟨by decide, by decide⟩, hi⟩
 | true =>
  rw [if_pos rfl] at hh
  unfold headT at hh
  dsimp only at hh
  split at hh
  ·rename_i hb5
   have hlt : (patT T s).2.2.i < T.length := is_lt hb5 hok.at0 (by decide)
   have g1 := need_go hok.at0 (takeT (patT T s).2.2) 2 bPrim (by decide)
   have g2 := need_go hok.at0 (needT T (takeT (patT T s).2.2) 2 bPrim).2 4 eB (by decide)
   have hn : InI (needT T (needT T (takeT (patT T s).2.2) 2 bPrim).2 4 eB).1.num := need_num hok _ _ _
   have g3 := need_go hok.at0 (if 255 < (needT T (needT T (takeT (patT T s).2.2) 2 bPrim).2 4 eB).1.num then failT (needT T (needT T (takeT (patT T s).2.2) 2 bPrim).2 4 eB).2 (needT T (needT T (takeT (patT T s).2.2) 2 bPrim).2 4 eB).1 2 else (needT T (needT T (takeT (patT T s).2.2) 2 bPrim).2 4 eB).2) 3 bMore (by decide)
   have i2 := g2.top (g1.top (show (takeT (patT T s).2.2).i ≤ T.length from hlt))
   cases hh
   exact ⟨by rw [hb]; omega, h1.1, hn, g3.top (by split; rw [failT_i]; exact i2; exact i2)⟩
  ·cases hh
   exact ⟨by rw [hb]; omega, h1.1, ⟨by decide, by decide⟩, hg.top hi⟩
set_option maxRecDepth 100000 in
set_option maxHeartbeats 16000000 in
theorem read7_any (s : ByteArray) (method : Bool) (w : World) (hs : s.size ≤ 9223372036854775807) : Calls Try.prog 6 #[.string s, .bool method] w (Read7P (read7 s method) w) := by
 obtain ⟨PO, hPO⟩ : ∃ PO, PO = Read7P (read7 s method) w := ⟨_, rfl⟩
 rw [← hPO]
 have HPO := Lib.hid hPO
 clear hPO
 by_cases h2000 : 2000 < s.size
 ·have HE : Hid (read7 s method = (nd0, 0, 12)) := Lib.hid (by unfold read7; rw [if_pos h2000])
  have HTK : Hid (∀ W, Calls Try.prog 13 #[.string s] W fun e w' => e = .returned (.tuple #[.slice none 0 0, .int .i64 0, .int .i64 12]) ∧ Below W.heap.size W w' ∧ (12 : Int) ≠ 0) := Lib.hid (fun W => (Lx.rtokens_any s W hs).mono fun e w' h => by
   obtain ⟨hb, ⟨h2, he⟩ | ⟨h2, _⟩⟩ := h
   ·exact ⟨he, hb, by decide⟩
   ·omega)
  clear h2000 hs
  have HB1 : Hid (Below w.heap.size w (w.alloc (.cells #[.int .i64 0, .string eB, .int .i64 0, .slice none 0 0, .slice none 0 0, .slice none 0 0] 25))) := Lib.hid bel
  have HZ1 := Lib.hid (heap_alloc_new w (.cells #[.int .i64 0, .string eB, .int .i64 0, .slice none 0 0, .slice none 0 0, .slice none 0 0] 25))
  go_enter Try.func6, Try.ntmps6
  go_upto_region 2 with (first | (go_at_call 13; (with_reducible refine (HTK.out _).mono ?_); rintro e w2 ⟨rfl, hb2, hx0⟩; have x1 : (12 != 0) = true := (by first | decide | simpa using hx0); have x2 : (12 == 0) = false := (by first | decide | simpa using hx0); clear hx0; have HB2 : Hid (Below w.heap.size w w2) := Lib.hid (HB1.out.trans (hb2.mono HB1.out.size)); have HZ := Lib.hid ((hb2.block _ (lt_of_block HZ1.out)).trans HZ1.out); clear hb2))
  have hz9 := HZ.out
  obtain ⟨n0, n1, n2, n3, n4, n5, nr0, nr1, nr2, nr3, nr4, nr5⟩ := cf6 (hz9)
  clear hz9 HB1 HZ1
  go_wp2_with fail
  obtain ⟨W9, hW9⟩ : ∃ W9, W9 = ((((((w2.setCell ⟨w.heap.size, 0, none⟩ (.int .i64 0)).setCell ⟨w.heap.size, 1, none⟩ (.string eB)).setCell ⟨w.heap.size, 2, none⟩ (.int .i64 0)).setCell ⟨w.heap.size, 3, none⟩ (.slice none 0 0)).setCell ⟨w.heap.size, 4, none⟩ (.slice none 0 0)).setCell ⟨w.heap.size, 5, none⟩ (.slice none 0 0)) := ⟨_, rfl⟩
  have h9 : W9.heap[w.heap.size]? = some (.cells #[.int .i64 0, .string eB, .int .i64 0, .slice none 0 0, .slice none 0 0, .slice none 0 0] 25 (0, 0)) := by rw [hW9]; exact agg_set6 HZ.out
  obtain ⟨z0, z1, z2, z3, z4, z5⟩ := cc6 h9
  have HT9 : Hid (Turns (fun k => k = w.heap.size) w2 W9) := Lib.hid (by rw [hW9]; exact six_turns (T := fun k => k = w.heap.size) (Turns.refl _ _) (w.heap.size) rfl)
  rw [← hW9]
  clear hW9 h9
  refine bodyPost_ret (v := .tuple #[.agg #[.int .i64 0, .string eB, .int .i64 0, .slice none 0 0, .slice none 0 0, .slice none 0 0], .int .i64 0, .int .i64 12]) (by simp [results, Try.results6, go_sem, z0, z1, z2, z3, z4, z5]) rfl ?_
  rw [HPO.out, HE.out]
  exact ⟨⟨none, 0, none, 0, none, 0⟩, rfl, HB2.out.trans (HT9.out.below (fun k e => by have e9 : k = w.heap.size := e; omega) HB2.out.size), IsNd.leaf _ _ ⟨by decide, by decide⟩ ⟨by decide, by decide⟩ (by decide)⟩
 ·have h2 : s.size ≤ 2000 := by omega
  cases hT : Lx.toksV s.data.toList with
  | err a x =>
   have HE : Hid (read7 s method = (nd0, (a : Int), x)) := Lib.hid (by unfold read7; rw [if_neg h2000, hT])
   have HTK : Hid (∀ W, Calls Try.prog 13 #[.string s] W fun e w' => e = .returned (.tuple #[.slice none 0 0, .int .i64 (a : Int), .int .i64 x]) ∧ Below W.heap.size W w' ∧ x ≠ 0) := Lib.hid (fun W => (Lx.rtokens_any s W hs).mono fun e w' h => by
    obtain ⟨hb, ⟨h2', _⟩ | ⟨_, ⟨a', x', h3, h4, he⟩ | ⟨A', v, h3, _⟩⟩⟩ := h
    ·omega
    ·rw [hT] at h3; cases h3; exact ⟨he, hb, h4⟩
    ·rw [hT] at h3; cases h3)
   clear h2000 h2 hs hT
   have HB1 : Hid (Below w.heap.size w (w.alloc (.cells #[.int .i64 0, .string eB, .int .i64 0, .slice none 0 0, .slice none 0 0, .slice none 0 0] 25))) := Lib.hid bel
   have HZ1 := Lib.hid (heap_alloc_new w (.cells #[.int .i64 0, .string eB, .int .i64 0, .slice none 0 0, .slice none 0 0, .slice none 0 0] 25))
   go_enter Try.func6, Try.ntmps6
   go_upto_region 2 with (first | (go_at_call 13; (with_reducible refine (HTK.out _).mono ?_); rintro e w2 ⟨rfl, hb2, hx0⟩; have x1 : (x != 0) = true := (by first | decide | simpa using hx0); have x2 : (x == 0) = false := (by first | decide | simpa using hx0); clear hx0; have HB2 : Hid (Below w.heap.size w w2) := Lib.hid (HB1.out.trans (hb2.mono HB1.out.size)); have HZ := Lib.hid ((hb2.block _ (lt_of_block HZ1.out)).trans HZ1.out); clear hb2))
   have hz9 := HZ.out
   obtain ⟨n0, n1, n2, n3, n4, n5, nr0, nr1, nr2, nr3, nr4, nr5⟩ := cf6 (hz9)
   clear hz9 HB1 HZ1
   go_wp2_with fail
   obtain ⟨W9, hW9⟩ : ∃ W9, W9 = ((((((w2.setCell ⟨w.heap.size, 0, none⟩ (.int .i64 0)).setCell ⟨w.heap.size, 1, none⟩ (.string eB)).setCell ⟨w.heap.size, 2, none⟩ (.int .i64 0)).setCell ⟨w.heap.size, 3, none⟩ (.slice none 0 0)).setCell ⟨w.heap.size, 4, none⟩ (.slice none 0 0)).setCell ⟨w.heap.size, 5, none⟩ (.slice none 0 0)) := ⟨_, rfl⟩
   have h9 : W9.heap[w.heap.size]? = some (.cells #[.int .i64 0, .string eB, .int .i64 0, .slice none 0 0, .slice none 0 0, .slice none 0 0] 25 (0, 0)) := by rw [hW9]; exact agg_set6 HZ.out
   obtain ⟨z0, z1, z2, z3, z4, z5⟩ := cc6 h9
   have HT9 : Hid (Turns (fun k => k = w.heap.size) w2 W9) := Lib.hid (by rw [hW9]; exact six_turns (T := fun k => k = w.heap.size) (Turns.refl _ _) (w.heap.size) rfl)
   rw [← hW9]
   clear hW9 h9
   refine bodyPost_ret (v := .tuple #[.agg #[.int .i64 0, .string eB, .int .i64 0, .slice none 0 0, .slice none 0 0, .slice none 0 0], .int .i64 (a : Int), .int .i64 x]) (by simp [results, Try.results6, go_sem, z0, z1, z2, z3, z4, z5]) rfl ?_
   rw [HPO.out, HE.out]
   exact ⟨⟨none, 0, none, 0, none, 0⟩, rfl, HB2.out.trans (HT9.out.below (fun k e => by have e9 : k = w.heap.size := e; omega) HB2.out.size), IsNd.leaf _ _ ⟨by decide, by decide⟩ ⟨by decide, by decide⟩ (by decide)⟩
  | ok T =>
   have hok := (TokOk.of h2 hT).1
   have HOK := Lib.hid hok
   obtain ⟨nt, hnt⟩ : ∃ n, T.length = n := ⟨_, rfl⟩
   have HNT := Lib.hid hnt
   have HTK : Hid (∀ W, Calls Try.prog 13 #[.string s] W fun e w' => ∃ At ct, e = .returned (.tuple #[.slice At nt ct, .int .i64 0, .int .i64 0]) ∧ Below W.heap.size W w' ∧ w'.ownsRow W.heap.size 55 4 (.slice At nt ct) nt (Lx.rowCells T)) := Lib.hid (fun W => (Lx.rtokens_any s W hs).mono fun e w' h => by
    have h9 := tok_post h2 hT h
    rw [hnt] at h9
    exact h9)
   have HI0 : Hid ((⟨0, 0, 0, 0⟩ : PSt).i ≤ T.length) := Lib.hid (Nat.zero_le _)
   have hE0 : read7 s method = readT7 T method := by unfold read7; rw [if_neg h2000, hT]
   rw [hE0] at HPO
   clear h2000 h2 hs hT hE0
   obtain ⟨⟨ht, hn, hu, hs⟩, hh⟩ : ∃ r, (if method = true then headT T ⟨0, 0, 0, 0⟩ else (bDoIt, [], 0, ⟨0, 0, 0, 0⟩)) = r := ⟨_, rfl⟩
   have HH := Lib.hid hh
   have HHT := Lib.hid (head_tx hok _ method hh (Nat.zero_le _))
   obtain ⟨⟨ts, s2⟩, htm⟩ : ∃ r, tempsT T hs = r := ⟨_, rfl⟩
   have HTM := Lib.hid htm
   have hg2 := temps_go hok.at0 hs
   rw [htm] at hg2
   have HI2 : Hid (hs.i ≤ T.length) := Lib.hid HHT.out.2.2.2
   have HI3 : Hid (s2.i ≤ T.length) := Lib.hid (hg2.top HI2.out)
   have HTY : Hid (∀ x, x ∈ ts → x.size ≤ 100000) := Lib.hid (by have h9 := temps_tx hok hs; rw [htm] at h9; exact h9)
   have HF5 : Hid (8 * (T.length - s2.i) + 6 < fuelT T) := Lib.hid (by unfold fuelT; omega)
   obtain ⟨⟨ks, s4⟩, hr0⟩ : ∃ r, (rcF T (fuelT T)).stmts s2 = r := ⟨_, rfl⟩
   have HR0 := Lib.hid hr0
   have hg4 := ((rcF_go hok.at0 (fuelT T)).stmts s2).1
   rw [hr0] at hg4
   have HI4 : Hid (s4.i ≤ T.length) := Lib.hid (hg4.top HI3.out)
   obtain ⟨⟨t9, s5⟩, hn5⟩ : ∃ r, needT T s4 0 eB = r := ⟨_, rfl⟩
   have HN5 := Lib.hid hn5
   have HE0 : Hid (readT7 T method = if s5.e ≠ 0 then (nd0, s5.at_, s5.e) else (.node 11 ht hu hn ts ks, 0, 0)) := Lib.hid (by
    unfold readT7
    dsimp only
    rw [hh]
    dsimp only
    rw [htm]
    dsimp only
    rw [hr0]
    dsimp only
    rw [hn5])
   clear hok hh htm hg2 hr0 hg4 hn5 hnt
   have HB1 : Hid (Below w.heap.size w (w.alloc (.cells #[.int .i64 0, .string eB, .int .i64 0, .slice none 0 0, .slice none 0 0, .slice none 0 0] 25))) := Lib.hid bel
   have HZ1 := Lib.hid (heap_alloc_new w (.cells #[.int .i64 0, .string eB, .int .i64 0, .slice none 0 0, .slice none 0 0, .slice none 0 0] 25))
   go_enter Try.func6, Try.ntmps6
   go_upto_region 2 with (first | (go_at_call 13; (with_reducible refine (HTK.out _).mono ?_); rintro e w2 ⟨At, ct, rfl, hb2, hrow⟩; have HB2 : Hid (Below w.heap.size w w2) := Lib.hid (HB1.out.trans (hb2.mono HB1.out.size)); have HZ := Lib.hid ((hb2.block _ (lt_of_block HZ1.out)).trans HZ1.out); have HRW : Hid (w2.ownsRow 0 55 4 (.slice At nt ct) nt (Lx.rowCells T)) := Lib.hid (ownsRow_mono hrow (Nat.zero_le _)); clear hb2 hrow))
   clear HB1 HZ1
   go_upto_region 5 with fail
   obtain ⟨pb, hpb⟩ : ∃ pb, w2.heap.size = pb := ⟨_, rfl⟩
   have hal := (Below.refl w2.heap.size w2).alloc (Nat.le_refl _) (.cells #[.slice At nt ct, .int .i64 0, .int .i64 0, .int .i64 0, .int .i64 0] 50)
   have hbx := heap_alloc_new w2 (.cells #[.slice At nt ct, .int .i64 0, .int .i64 0, .int .i64 0, .int .i64 0] 50)
   have hsz := World.size_alloc w2 (.cells #[.slice At nt ct, .int .i64 0, .int .i64 0, .int .i64 0, .int .i64 0] 50)
   have hzb := (hal.block _ (lt_of_block HZ.out)).trans HZ.out
   have hrb := ownsRow_same HRW.out hal.size (fun k hk => hal.block k (World.ownsRow.lt HRW.out k hk).2)
   have hvl : ∀ k, Value.ownBlock (.slice At nt ct) = some k → k < pb := fun k hk => by rw [← hpb]; exact (World.ownsRow.lt HRW.out k hk).2
   have hwb := HB2.out.trans (hal.mono HB2.out.size)
   have hrp : w.heap.size < pb := by rw [← hpb]; exact lt_of_block HZ.out
   rw [hpb] at hbx hsz ⊢
   obtain ⟨wb, hwbe⟩ : ∃ wb, w2.alloc (.cells #[.slice At nt ct, .int .i64 0, .int .i64 0, .int .i64 0, .int .i64 0] 50) = wb := ⟨_, rfl⟩
   rw [hwbe] at hbx hsz hzb hrb hwb ⊢
   have hpw : PW wb pb (.slice At nt ct) T ⟨0, 0, 0, 0⟩ := ⟨hbx, by rw [HNT.out]; exact hrb, Nat.zero_le _⟩
   have HRP := Lib.hid hrp
   have HWB : Hid (Below w.heap.size w wb) := Lib.hid hwb
   have H0 : Hid (Bw wb (wb.alloc (.cells #[.int .i64 11, .string bDoIt, .int .i64 0, .slice none 0 0, .slice none 0 0, .slice none 0 0] 25)) (w.heap.size) (wb.heap.size) pb (.slice At nt ct) T ⟨0, 0, 0, 0⟩ 11 bDoIt 0 (.slice none 0 0) (.slice none 0 0) (.slice none 0 0) [] []) := Lib.hid (by
    have hb : Below wb.heap.size wb (wb.alloc (.cells #[.int .i64 11, .string bDoIt, .int .i64 0, .slice none 0 0, .slice none 0 0, .slice none 0 0] 25)) := bel
    exact ⟨⟨hpw.below hb, Turns.of_below hb⟩, Nat.le_refl _, by omega, by omega, by omega, fun k e => by have := hvl k e; omega, (hb.block _ (lt_of_block hzb)).trans hzb, heap_alloc_new wb _, SRow.nil _ _, SRow.nil _ _⟩)
   clear hal hbx hsz hzb hrb hvl hwb hrp hpw hpb hwbe HZ HRW HB2
   go_upto_region 6 with fail
   have hm9 := H0.out
   obtain ⟨w1, hw1⟩ : ∃ w1, wb.alloc (.cells #[.int .i64 11, .string bDoIt, .int .i64 0, .slice none 0 0, .slice none 0 0, .slice none 0 0] 25) = w1 := ⟨_, rfl⟩
   rw [hw1] at hm9 ⊢
   have HM := Lib.hid hm9
   obtain ⟨n0, n1, n2, n3, n4, n5, nr0, nr1, nr2, nr3, nr4, nr5⟩ := cf6 (hm9.res)
   obtain ⟨o0, o1, o2, o3, o4, o5, or0, or1, or2, or3, or4, or5⟩ := cf6 (hm9.out)
   clear hw1 H0 hm9
   go_upto_if 27 with fail
   go_cut [] (fun wx => ∃ A n c, Bw wb wx (w.heap.size) (wb.heap.size) pb (.slice At nt ct) T hs 11 ht hu (.slice A n c) (.slice none 0 0) (.slice none 0 0) hn [])
   case first =>
    cases method with
    | true =>
     have HH9 : Hid (headT T ⟨0, 0, 0, 0⟩ = (ht, hn, hu, hs)) := Lib.hid HH.out
     go_wp2_with (first | (go_at_call 14; (with_reducible refine (head_any (HM.out.pt.1.below bel) HOK.out HI0.out).mono ?_); rw [HH9.out]; rintro e w6 ⟨A, c, rfl, hx, hr9⟩; have HSR := Lib.hid (ownsRow_mono hr9 (HM.out.base bel)); clear hr9; have hm9 := HM.out.go bel hx; clear HM; have HM := Lib.hid hm9; (try clear n0 nr0 n1 nr1 n2 nr2 n3 nr3 n4 nr4 n5 nr5); (try clear o0 or0 o1 or1 o2 or2 o3 or3 o4 or4 o5 or5); obtain ⟨n0, n1, n2, n3, n4, n5, nr0, nr1, nr2, nr3, nr4, nr5⟩ := cf6 (hm9.res); obtain ⟨o0, o1, o2, o3, o4, o5, or0, or1, or2, or3, or4, or5⟩ := cf6 (hm9.out); clear hm9 hx))
     go_meet
     exact ⟨A, hn.length, c, HM.out.six HSR.out (Nat.le_refl _)⟩
    | false =>
     have e9 : ht = bDoIt ∧ hn = [] ∧ hu = 0 ∧ hs = ⟨0, 0, 0, 0⟩ := by
      have h9 := HH.out
      exact ⟨(congrArg Prod.fst h9).symm, (congrArg (fun r => r.2.1) h9).symm, (congrArg (fun r => r.2.2.1) h9).symm, (congrArg (fun r => r.2.2.2) h9).symm⟩
     go_wp2_with fail
     go_meet
     rw [e9.1, e9.2.1, e9.2.2.1, e9.2.2.2]
     exact ⟨none, 0, 0, HM.out⟩
   case rest =>
    obtain ⟨A, n, c, hm9⟩ := hcut
    clear HM
    (try clear n0 nr0 n1 nr1 n2 nr2 n3 nr3 n4 nr4 n5 nr5)
    (try clear o0 or0 o1 or1 o2 or2 o3 or3 o4 or4 o5 or5)
    have HM := Lib.hid hm9
    rename World => w5
    obtain ⟨n0, n1, n2, n3, n4, n5, nr0, nr1, nr2, nr3, nr4, nr5⟩ := cf6 (hm9.res)
    obtain ⟨o0, o1, o2, o3, o4, o5, or0, or1, or2, or3, or4, or5⟩ := cf6 (hm9.out)
    clear hm9
    go_upto_region 9 with (first | (go_at_call 15; (with_reducible refine (temps7_any (HM.out.pt.1.below bel) HOK.out HI2.out).mono ?_); rw [HTM.out]; rintro e w6 ⟨vr9, rfl, hx, hr9⟩; obtain ⟨A2, c2, hvr, _⟩ := SRow.slice hr9; subst hvr; have HSR2 := Lib.hid (ownsRow_mono hr9 (HM.out.base bel)); clear hr9; have hm9 := HM.out.go bel hx; clear HM; have HM := Lib.hid hm9; (try clear n0 nr0 n1 nr1 n2 nr2 n3 nr3 n4 nr4 n5 nr5); (try clear o0 or0 o1 or1 o2 or2 o3 or3 o4 or4 o5 or5); obtain ⟨n0, n1, n2, n3, n4, n5, nr0, nr1, nr2, nr3, nr4, nr5⟩ := cf6 (hm9.res); obtain ⟨o0, o1, o2, o3, o4, o5, or0, or1, or2, or3, or4, or5⟩ := cf6 (hm9.out); clear hm9 hx))
    have hm9 := HM.out.setT HSR2.out (Nat.le_refl _)
    obtain ⟨w7, hw9⟩ : ∃ wt, w6.setCell ⟨wb.heap.size, 4, none⟩ (.slice A2 ts.length c2) = wt := ⟨_, rfl⟩
    rw [hw9] at hm9 ⊢
    clear HM hw9
    have HM := Lib.hid hm9
    (try clear n0 nr0 n1 nr1 n2 nr2 n3 nr3 n4 nr4 n5 nr5)
    (try clear o0 or0 o1 or1 o2 or2 o3 or3 o4 or4 o5 or5)
    obtain ⟨n0, n1, n2, n3, n4, n5, nr0, nr1, nr2, nr3, nr4, nr5⟩ := cf6 (hm9.res)
    obtain ⟨o0, o1, o2, o3, o4, o5, or0, or1, or2, or3, or4, or5⟩ := cf6 (hm9.out)
    clear hm9
    go_upto_region 10 with (first | (go_at_call 16; (with_reducible refine ((pspec HOK.out (fuelT T)).stmts (HM.out.pt.1.below bel) HI3.out HF5.out).mono ?_); rw [HR0.out]; rintro e w8 hrow; obtain ⟨p3, c3, hee, hx, hny⟩ := RowP.node hrow 11 hu ht ⟨by decide, by decide⟩ HHT.out.2.2.1 HHT.out.1; subst hee; have HNY := Lib.hid (hny.more (D' := fun b => wb.heap.size + 1 ≤ b) (fun b z _ => Nat.le_trans (HM.out.base bel) z)); clear hny hrow; have hm9 := HM.out.go bel hx; clear HM; have HM := Lib.hid hm9; (try clear n0 nr0 n1 nr1 n2 nr2 n3 nr3 n4 nr4 n5 nr5); (try clear o0 or0 o1 or1 o2 or2 o3 or3 o4 or4 o5 or5); obtain ⟨n0, n1, n2, n3, n4, n5, nr0, nr1, nr2, nr3, nr4, nr5⟩ := cf6 (hm9.res); obtain ⟨o0, o1, o2, o3, o4, o5, or0, or1, or2, or3, or4, or5⟩ := cf6 (hm9.out); clear hm9 hx))
    have hm9 := HM.out.setK (.slice p3 ks.length c3)
    have hny := HNY.out.turns (w' := w8.setCell ⟨wb.heap.size, 5, none⟩ (.slice p3 ks.length c3)) ((Turns.refl (fun k => k = wb.heap.size) _).setCell ⟨wb.heap.size, 5, none⟩ _ (.inl rfl)) (fun b z _ e => by have e9 : b = wb.heap.size := e; omega) (fun _ z => z)
    obtain ⟨w9, hw9⟩ : ∃ wt, w8.setCell ⟨wb.heap.size, 5, none⟩ (.slice p3 ks.length c3) = wt := ⟨_, rfl⟩
    rw [hw9] at hm9 hny ⊢
    clear HM hw9
    have HM := Lib.hid hm9
    (try clear n0 nr0 n1 nr1 n2 nr2 n3 nr3 n4 nr4 n5 nr5)
    (try clear o0 or0 o1 or1 o2 or2 o3 or3 o4 or4 o5 or5)
    obtain ⟨n0, n1, n2, n3, n4, n5, nr0, nr1, nr2, nr3, nr4, nr5⟩ := cf6 (hm9.res)
    obtain ⟨o0, o1, o2, o3, o4, o5, or0, or1, or2, or3, or4, or5⟩ := cf6 (hm9.out)
    clear HNY
    have HNY := Lib.hid hny
    clear hm9 hny
    go_upto_region 11 with (first | (go_at_call 17; (with_reducible refine (need_any (HM.out.pt.1.below bel) HOK.out HI4.out 0 eB HN5.out).mono ?_); rintro e w10 ⟨rfl, hx⟩; have hn9 := PT.keepN bel hx HNY.out (fun b z e => by have := HM.out.pl; omega); clear HNY; have HNY := Lib.hid hn9; clear hn9; have hm9 := HM.out.go bel hx; clear HM; have HM := Lib.hid hm9; (try clear n0 nr0 n1 nr1 n2 nr2 n3 nr3 n4 nr4 n5 nr5); (try clear o0 or0 o1 or1 o2 or2 o3 or3 o4 or4 o5 or5); obtain ⟨n0, n1, n2, n3, n4, n5, nr0, nr1, nr2, nr3, nr4, nr5⟩ := cf6 (hm9.res); obtain ⟨o0, o1, o2, o3, o4, o5, or0, or1, or2, or3, or4, or5⟩ := cf6 (hm9.out); clear hm9 hx))
    have k3 : w10.cell? ⟨pb, 3, none⟩ = some (.int .i64 s5.e) := HM.out.pt.1.cell rfl
    have k4 : w10.cell? ⟨pb, 4, none⟩ = some (.int .i64 s5.at_) := HM.out.pt.1.cell rfl
    have HB10 : Hid (Below w.heap.size w w10) := Lib.hid (HWB.out.trans (HM.out.pt.2.below (fun k e => by have e9 : k = pb := e; have := HRP.out; omega) HWB.out.size))
    by_cases he : s5.e = 0
    ·rw [he] at k3
     have HE : Hid (readT7 T method = (.node 11 ht hu hn ts ks, 0, 0)) := Lib.hid (by rw [HE0.out, if_neg (by simp [he])])
     clear he k4
     go_wp2_with fail
     obtain ⟨W9, hW9⟩ : ∃ W9, W9 = ((((((w10.setCell ⟨w.heap.size, 0, none⟩ (.int .i64 11)).setCell ⟨w.heap.size, 1, none⟩ (.string ht)).setCell ⟨w.heap.size, 2, none⟩ (.int .i64 hu)).setCell ⟨w.heap.size, 3, none⟩ (.slice A n c)).setCell ⟨w.heap.size, 4, none⟩ (.slice A2 ts.length c2)).setCell ⟨w.heap.size, 5, none⟩ (.slice p3 ks.length c3)) := ⟨_, rfl⟩
     have h9 : W9.heap[w.heap.size]? = some (.cells #[.int .i64 11, .string ht, .int .i64 hu, .slice A n c, .slice A2 ts.length c2, .slice p3 ks.length c3] 25 (0, 0)) := by rw [hW9]; exact agg_set6 HM.out.res
     obtain ⟨z0, z1, z2, z3, z4, z5⟩ := cc6 h9
     have HT9 : Hid (Turns (fun k => k = w.heap.size) w10 W9) := Lib.hid (by rw [hW9]; exact six_turns (T := fun k => k = w.heap.size) (Turns.refl _ _) (w.heap.size) rfl)
     rw [← hW9]
     clear hW9 h9
     refine bodyPost_ret (v := .tuple #[.agg #[.int .i64 11, .string ht, .int .i64 hu, .slice A n c, .slice A2 ts.length c2, .slice p3 ks.length c3], .int .i64 0, .int .i64 0]) (by simp [results, Try.results6, go_sem, z0, z1, z2, z3, z4, z5]) rfl ?_
     rw [HPO.out, HE.out]
     have hl9 := HM.out.len.1
     refine ⟨⟨A, c, A2, c2, p3, c3⟩, ?_, HB10.out.trans (HT9.out.below (fun k e => by have e9 : k = w.heap.size := e; omega) HB10.out.size), HM.out.node HNY.out HHT.out.2.1 HTY.out HT9.out (fun b z => by have := HWB.out.size; omega)⟩
     show Ending.returned (.tuple #[.agg #[.int .i64 11, .string ht, .int .i64 hu, .slice A n c, .slice A2 ts.length c2, .slice p3 ks.length c3], .int .i64 0, .int .i64 0]) = Ending.returned (.tuple #[.agg #[.int .i64 11, .string ht, .int .i64 hu, .slice A hn.length c, .slice A2 ts.length c2, .slice p3 ks.length c3], .int .i64 0, .int .i64 0])
     rw [hl9]
    ·have y1 : (s5.e != 0) = true := by simpa using he
     have y2 : (s5.e == 0) = false := by simpa using he
     have HE : Hid (readT7 T method = (nd0, s5.at_, s5.e)) := Lib.hid (by rw [HE0.out, if_pos he])
     have HZ := Lib.hid HM.out.res
     obtain ⟨ee, hee⟩ : ∃ x, s5.e = x := ⟨_, rfl⟩
     obtain ⟨aa, haa⟩ : ∃ x, s5.at_ = x := ⟨_, rfl⟩
     rw [hee] at k3 y1 y2 HE
     rw [haa] at k4 HE
     have hne : pb ≠ w.heap.size := by have := HRP.out; omega
     have hne2 : ¬ w.heap.size = pb := by have := HRP.out; omega
     have hne3 : ¬ pb = w.heap.size := hne
     clear he hee haa
     (try clear o0 or0 o1 or1 o2 or2 o3 or3 o4 or4 o5 or5)
     go_upto_region 12 with fail
     go_cut [5, 6] (fun v5 v6 wx => v5 = .int .i64 aa ∧ v6 = .int .i64 ee ∧ Below w.heap.size w wx ∧ wx.heap[w.heap.size]? = some (.cells #[.int .i64 0, .string eB, .int .i64 0, .slice none 0 0, .slice none 0 0, .slice none 0 0] 25 (0, 0)))
     case first =>
      go_region_law (fail)
      all_goals
       go_wp2_with fail
       go_meet
       exact ⟨rfl, rfl, six_zero HB10.out HZ.out⟩
     case rest =>
      obtain ⟨rfl, rfl, hbz, hz9⟩ := hcut
      rename World => wz
      clear HM HNY k3 k4
      (try clear n0 nr0 n1 nr1 n2 nr2 n3 nr3 n4 nr4 n5 nr5)
      obtain ⟨n0, n1, n2, n3, n4, n5, nr0, nr1, nr2, nr3, nr4, nr5⟩ := cf6 (hz9)
      go_wp2_with fail
      refine bodyPost_ret (v := .tuple #[.agg #[.int .i64 0, .string eB, .int .i64 0, .slice none 0 0, .slice none 0 0, .slice none 0 0], .int .i64 aa, .int .i64 ee]) (by simp [results, Try.results6, go_sem, n0, n1, n2, n3, n4, n5]) rfl ?_
      rw [HPO.out, HE.out]
      exact ⟨⟨none, 0, none, 0, none, 0⟩, rfl, hbz, IsNd.leaf _ _ ⟨by decide, by decide⟩ ⟨by decide, by decide⟩ (by decide)⟩
end Go.Proofs.Ytnojndgmgkgnpaa
