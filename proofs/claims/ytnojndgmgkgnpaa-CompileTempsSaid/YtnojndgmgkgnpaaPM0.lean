/- Chapter 10: the reference's parser: a node with names under way. -/
import Derived.Test.YtnojndgmgkgnpaaPJ0
namespace Go.Proofs.Ytnojndgmgkgnpaa
open Go.ChangeShapes Go.WideShapes Go.ChangeAt Go.RowKit Go.Deep Go.Joins Go.Maps
set_option linter.unusedVariables false
set_option linter.unusedSimpArgs false
/-- a node with names under way: its box at ob, the result's box at rb -/
structure Bw (w W : World) (rb ob pb : Nat) (v : Value) (T : Tks) (s : PSt) (kd : Int) (tv : ByteArray) (nu : Int) (vn vt vk : Value) (ns ts : List ByteArray) : Prop where
 pt : PT pb v T w W s
 ol : w.heap.size ≤ ob
 rl : rb < ob
 pl : pb < ob
 rp : rb ≠ pb
 vl : ∀ k, v.ownBlock = some k → k < ob
 res : W.heap[rb]? = some (.cells #[.int .i64 0, .string eB, .int .i64 0, .slice none 0 0, .slice none 0 0, .slice none 0 0] 25 (0, 0))
 out : W.heap[ob]? = some (.cells #[.int .i64 kd, .string tv, .int .i64 nu, vn, vt, vk] 25 (0, 0))
 nam : SRow W (ob + 1) vn ns
 tem : SRow W (ob + 1) vt ts
theorem SRow.turned {w w' : World} {base : Nat} {vr : Value} {l : List ByteArray} (h : SRow w base vr l) {X : Nat → Prop} (ht : Turns X w w') (hX : ∀ b, X b → b < base) : SRow w' base vr l :=
 ownsRow_same h ht.size (fun k hk => ht.block k (World.ownsRow.lt h k hk).2 (fun e => by have := hX k e; have := (World.ownsRow.lt h k hk).1; omega))
theorem PT.keepS {w4 W w5 : World} {pb : Nat} {v : Value} {T : Tks} {s0 s : PSt} (hp : PW w4 pb v T s0) (hb : Below w4.heap.size w4 W) (hx : PT pb v T W w5 s) {base : Nat} {vr : Value} {l : List ByteArray} (h : SRow w4 base vr l) : SRow w5 base vr l :=
 SRow.turns (h.below hb) (hp.below hb) hx.2
theorem SRow.strs {w : World} {base : Nat} {p : Option Addr} {n c : Nat} {l : List ByteArray} (h : SRow w base (.slice p n c) l) (hs : ∀ x, x ∈ l → x.size ≤ 100000) : Strs w (fun b => base ≤ b) p l ∧ n = l.length ∧ l.length ≤ c ∧ c ≤ maxLen := by
 obtain ⟨A, c1, e1, e2, e3⟩ := h.slice
 cases e1
 refine ⟨fun i hi => ?_, rfl, e2, e3⟩
 have ho := h
 rcases h.2 with ⟨_, h0⟩ | ⟨g, cap, cur, hv, hg, hh, h1, h2, _⟩
 ·omega
 ·cases hv
  have hc := World.ownsRow.cellAt ho i (by omega)
  refine ⟨g, 0, rfl, lt_of_block hh, hg, ?_, Nat.le_trans (hs _ (List.getElem_mem hi)) (by decide)⟩
  rw [Nat.zero_add, hc, List.getElem?_map, List.getElem?_eq_getElem hi]
  rfl
section
variable {w W W1 w' : World} {rb ob pb : Nat} {v : Value} {T : Tks} {s s' : PSt} {kd nu : Int} {tv : ByteArray} {vn vt vk : Value} {ns ts : List ByteArray}
theorem Bw.below (h : Bw w W rb ob pb v T s kd tv nu vn vt vk ns ts) (hb : Below W.heap.size W w') : Bw w w' rb ob pb v T s kd tv nu vn vt vk ns ts :=
 ⟨h.pt.below hb, h.ol, h.rl, h.pl, h.rp, h.vl, (hb.block _ (lt_of_block h.res)).trans h.res, (hb.block _ (lt_of_block h.out)).trans h.out, h.nam.below hb, h.tem.below hb⟩
theorem Bw.go (h : Bw w W rb ob pb v T s kd tv nu vn vt vk ns ts) (hb : Below W.heap.size W W1) (hx : PT pb v T W1 w' s') : Bw w w' rb ob pb v T s' kd tv nu vn vt vk ns ts :=
 ⟨(h.pt.below hb).go hx, h.ol, h.rl, h.pl, h.rp, h.vl, PT.keepB hb hx h.res h.rp, PT.keepB hb hx h.out (by have := h.pl; omega), PT.keepS h.pt.1 hb hx h.nam, PT.keepS h.pt.1 hb hx h.tem⟩
theorem Bw.setX (h : Bw w W rb ob pb v T s kd tv nu vn vt vk ns ts) (t' : ByteArray) : Bw w (W.setCell ⟨ob, 1, none⟩ (.string t')) rb ob pb v T s kd t' nu vn vt vk ns ts := by
 have ht : Turns (fun k => k = ob) W (W.setCell ⟨ob, 1, none⟩ (.string t')) := (Turns.refl _ _).setCell ⟨ob, 1, none⟩ _ (.inl rfl)
 refine ⟨h.pt.turned ht (fun k e => by have e9 : k = ob := e; exact ⟨by have := h.ol; omega, by have := h.pl; omega, fun q => by have := h.vl k q; omega⟩), h.ol, h.rl, h.pl, h.rp, h.vl, (ht.block _ (lt_of_block h.res) (fun e => by have e9 : rb = ob := e; have := h.rl; omega)).trans h.res, ?_, SRow.turned h.nam ht (fun b e => by have e9 : b = ob := e; omega), SRow.turned h.tem ht (fun b e => by have e9 : b = ob := e; omega)⟩
 rw [heap_setCell_same W ob 1 _ _ _ h.out]
 rfl
theorem Bw.setN (h : Bw w W rb ob pb v T s kd tv nu vn vt vk ns ts) {vn' : Value} {ns' : List ByteArray} {base : Nat} (hr : SRow W base vn' ns') (hb : ob + 1 ≤ base) : Bw w (W.setCell ⟨ob, 3, none⟩ (vn')) rb ob pb v T s kd tv nu vn' vt vk ns' ts := by
 have ht : Turns (fun k => k = ob) W (W.setCell ⟨ob, 3, none⟩ (vn')) := (Turns.refl _ _).setCell ⟨ob, 3, none⟩ _ (.inl rfl)
 refine ⟨h.pt.turned ht (fun k e => by have e9 : k = ob := e; exact ⟨by have := h.ol; omega, by have := h.pl; omega, fun q => by have := h.vl k q; omega⟩), h.ol, h.rl, h.pl, h.rp, h.vl, (ht.block _ (lt_of_block h.res) (fun e => by have e9 : rb = ob := e; have := h.rl; omega)).trans h.res, ?_, SRow.turned (ownsRow_mono hr hb) ht (fun b e => by have e9 : b = ob := e; omega), SRow.turned h.tem ht (fun b e => by have e9 : b = ob := e; omega)⟩
 rw [heap_setCell_same W ob 3 _ _ _ h.out]
 rfl
theorem Bw.setT (h : Bw w W rb ob pb v T s kd tv nu vn vt vk ns ts) {vt' : Value} {ts' : List ByteArray} {base : Nat} (hr : SRow W base vt' ts') (hb : ob + 1 ≤ base) : Bw w (W.setCell ⟨ob, 4, none⟩ (vt')) rb ob pb v T s kd tv nu vn vt' vk ns ts' := by
 have ht : Turns (fun k => k = ob) W (W.setCell ⟨ob, 4, none⟩ (vt')) := (Turns.refl _ _).setCell ⟨ob, 4, none⟩ _ (.inl rfl)
 refine ⟨h.pt.turned ht (fun k e => by have e9 : k = ob := e; exact ⟨by have := h.ol; omega, by have := h.pl; omega, fun q => by have := h.vl k q; omega⟩), h.ol, h.rl, h.pl, h.rp, h.vl, (ht.block _ (lt_of_block h.res) (fun e => by have e9 : rb = ob := e; have := h.rl; omega)).trans h.res, ?_, SRow.turned h.nam ht (fun b e => by have e9 : b = ob := e; omega), SRow.turned (ownsRow_mono hr hb) ht (fun b e => by have e9 : b = ob := e; omega)⟩
 rw [heap_setCell_same W ob 4 _ _ _ h.out]
 rfl
theorem Bw.setK (h : Bw w W rb ob pb v T s kd tv nu vn vt vk ns ts) (vk' : Value) : Bw w (W.setCell ⟨ob, 5, none⟩ (vk')) rb ob pb v T s kd tv nu vn vt vk' ns ts := by
 have ht : Turns (fun k => k = ob) W (W.setCell ⟨ob, 5, none⟩ (vk')) := (Turns.refl _ _).setCell ⟨ob, 5, none⟩ _ (.inl rfl)
 refine ⟨h.pt.turned ht (fun k e => by have e9 : k = ob := e; exact ⟨by have := h.ol; omega, by have := h.pl; omega, fun q => by have := h.vl k q; omega⟩), h.ol, h.rl, h.pl, h.rp, h.vl, (ht.block _ (lt_of_block h.res) (fun e => by have e9 : rb = ob := e; have := h.rl; omega)).trans h.res, ?_, SRow.turned h.nam ht (fun b e => by have e9 : b = ob := e; omega), SRow.turned h.tem ht (fun b e => by have e9 : b = ob := e; omega)⟩
 rw [heap_setCell_same W ob 5 _ _ _ h.out]
 rfl
theorem Bw.setI (h : Bw w W rb ob pb v T s kd tv nu vn vt vk ns ts) (n' : Int) : Bw w (W.setCell ⟨ob, 2, none⟩ (.int .i64 n')) rb ob pb v T s kd tv n' vn vt vk ns ts := by
 have ht : Turns (fun k => k = ob) W (W.setCell ⟨ob, 2, none⟩ (.int .i64 n')) := (Turns.refl _ _).setCell ⟨ob, 2, none⟩ _ (.inl rfl)
 refine ⟨h.pt.turned ht (fun k e => by have e9 : k = ob := e; exact ⟨by have := h.ol; omega, by have := h.pl; omega, fun q => by have := h.vl k q; omega⟩), h.ol, h.rl, h.pl, h.rp, h.vl, (ht.block _ (lt_of_block h.res) (fun e => by have e9 : rb = ob := e; have := h.rl; omega)).trans h.res, ?_, SRow.turned h.nam ht (fun b e => by have e9 : b = ob := e; omega), SRow.turned h.tem ht (fun b e => by have e9 : b = ob := e; omega)⟩
 rw [heap_setCell_same W ob 2 _ _ _ h.out]
 rfl
theorem Bw.node {p1 p2 p3 : Option Addr} {n1 c1 n2 c2 c3 : Nat} {kids : List NodT} {D : Nat → Prop} (h : Bw w W rb ob pb v T s kd tv nu (.slice p1 n1 c1) (.slice p2 n2 c2) vk ns ts) (hk : IsNd W (fun b => ob + 1 ≤ b) (.node kd tv nu [] [] kids) ⟨none, 0, none, 0, p3, c3⟩) (hn : ∀ x, x ∈ ns → x.size ≤ 100000) (ht : ∀ x, x ∈ ts → x.size ≤ 100000) (hT : Turns (fun k => k = rb) W w') (hD : ∀ b, ob + 1 ≤ b → D b) : IsNd w' D (.node kd tv nu ns ts kids) ⟨p1, c1, p2, c2, p3, c3⟩ := by
 obtain ⟨a1, a2, a3, a4⟩ := h.nam.strs hn
 obtain ⟨b1, b2, b3, b4⟩ := h.tem.strs ht
 have key : IsNd W (fun b => ob + 1 ≤ b) (.node kd tv nu ns ts kids) ⟨p1, c1, p2, c2, p3, c3⟩ := by
  cases hk with
  | node x q Q k1 k2 k3 k4 k5 =>
   exact .node _ _ Q ⟨k1.kind, k1.num, k1.text, ⟨a3, a4⟩, ⟨b3, b4⟩, k1.klen⟩ a1 b1 k4 k5
 exact key.turns hT (fun b z _ e => by have e9 : b = rb := e; have := h.rl; omega) hD
theorem Bw.base (h : Bw w W rb ob pb v T s kd tv nu vn vt vk ns ts) (hb : Below W.heap.size W w') : ob + 1 ≤ w'.heap.size := Nat.succ_le_of_lt (Nat.lt_of_lt_of_le (lt_of_block h.out) hb.size)
theorem Bw.len {p1 p2 : Option Addr} {n1 c1 n2 c2 : Nat} (h : Bw w W rb ob pb v T s kd tv nu (.slice p1 n1 c1) (.slice p2 n2 c2) vk ns ts) : n1 = ns.length ∧ n2 = ts.length := by
 obtain ⟨A1, d1, e1, _⟩ := h.nam.slice
 obtain ⟨A2, d2, e2, _⟩ := h.tem.slice
 cases e1; cases e2
 exact ⟨rfl, rfl⟩
end
/-- a told row of statements, as a node's kids -/
theorem RowP.node {pb : Nat} {v : Value} {T : Tks} {l : List NodT} {s : PSt} {w w' : World} {e : Ending} (h : RowP pb v T (l, s) w e w') (k n : Int) (t : ByteArray) (hk : InI k) (hn : InI n) (ht : t.size ≤ big63) : ∃ p c, e = .returned (.slice p l.length c) ∧ PT pb v T w w' s ∧ IsNd w' (fun b => w.heap.size ≤ b) (.node k t n [] [] l) ⟨none, 0, none, 0, p, c⟩ := by
 obtain ⟨p, c, e1, e2, e3, e4, Q, e5, e6⟩ := h
 exact ⟨p, c, e1, e4, IsNd.over Q hk hn ht ⟨e2, e3⟩ (fun i hi => by
  obtain ⟨b, off, f1, f2, f3, f4⟩ := e5 i hi
  exact ⟨b, off, f1, f2, f3, f4⟩) e6⟩
/-- names are no longer than the tokens' texts -/
theorem need_tx {T : Tks} (hok : TokOk T) (s : PSt) (k : Int) (text : ByteArray) : (tx (needT T s k text).1).size ≤ 100000 := by
 unfold needT
 split
 ·exact hok.text _ (ahd_mem hok)
 ·exact Nat.zero_le _
theorem names_tx {T : Tks} (hok : TokOk T) (k : Int) (l : List ByteArray) (s : PSt) (h : ∀ x, x ∈ l → x.size ≤ 100000) : ∀ x, x ∈ (namesT T k l s).1 → x.size ≤ 100000 := fun x hx => by
 unfold namesT at hx
 dsimp only at hx
 rcases List.mem_append.1 hx with z | z
 ·exact h x z
 ·rw [List.mem_singleton] at z
  rw [z]
  exact need_tx hok s k eB
theorem tempsL_tx {T : Tks} (hok : TokOk T) : ∀ (g : Nat) (l : List ByteArray) (s : PSt), (∀ x, x ∈ l → x.size ≤ 100000) → ∀ x, x ∈ (tempsL T g l s).1 → x.size ≤ 100000
 | 0, l, s, h => h
 | g + 1, l, s, h => by
  unfold tempsL
  split
  ·refine tempsL_tx hok g _ _ (fun x hx => ?_)
   rcases List.mem_append.1 hx with z | z
   ·exact h x z
   ·rw [List.mem_singleton] at z
    rw [z]
    exact hok.text _ (ahd_mem hok)
  ·exact h
theorem temps_tx {T : Tks} (hok : TokOk T) (s : PSt) : ∀ x, x ∈ (tempsT T s).1 → x.size ≤ 100000 := by
 unfold tempsT
 split
 ·exact tempsL_tx hok _ _ _ (fun x hx => absurd hx (by simp))
 ·exact fun x hx => absurd hx (by simp)
/-- a name behind a token that was there -/
theorem names_step {T : Tks} {s : PSt} {k : Int} {l : List ByteArray} (h : isT T s k eB = true) (hl : s.e = 0 → l.length ≤ 4) : (namesT T k l s).2.i = s.i + 1 ∧ ((namesT T k l s).2.e = 0 → (namesT T k l s).1.length ≤ 4) ∧ (namesT T k l s).1.length = l.length + 1 := by
 have he := is_e h
 have hn : needT T s k eB = (ahd T s 0, takeT s) := by unfold needT; rw [if_pos h]
 unfold namesT
 rw [hn]
 dsimp only
 have h0 : (takeT s).e = 0 := he
 refine ⟨?_, ?_, by rw [List.length_append]; rfl⟩
 ·split
  ·exact failT_i _ _ _
  ·rfl
 ·split
  ·intro z
   exact absurd z (failT_e _ _ _ (by decide))
  ·rename_i hq
   intro _
   have h4 : l.length ≠ 4 := fun z => hq ⟨h0, z⟩
   have := hl he
   rw [List.length_append]
   show l.length + 1 ≤ 4
   omega
end Go.Proofs.Ytnojndgmgkgnpaa
/- Chapter 10: the reference's parser: blocks. -/
namespace Go.Proofs.Ytnojndgmgkgnpaa
open Go.ChangeShapes Go.WideShapes Go.ChangeAt Go.RowKit Go.Deep Go.Joins Go.Maps
set_option linter.unusedVariables false
set_option linter.unusedSimpArgs false
theorem fuel_step {n g i j : Nat} (h : n < g + i) (h1 : i < n) (h2 : i + 1 ≤ j) : n < (g - 1) + j := by omega
set_option maxRecDepth 100000 in
set_option maxHeartbeats 16000000 in
theorem blk_go {f : Nat} {w : World} {pb : Nat} {v : Value} {T : Tks} {s : PSt} (hp : PSpec T f) (h : PW w pb v T s) (hok : TokOk T) (hi : s.i < T.length) (hfu : 8 * (T.length - s.i) + 0 < f + 1) : Calls Try.prog 51 #[.pointer (some ⟨pb, 0, none⟩)] w (NdP (fun _ => False) pb v T (blkS T (rcF T f) s) w) := by
 have HOK := Lib.hid hok
 have HI : Hid (s.i ≤ T.length) := Lib.hid (Nat.le_of_lt hi)
 have HFU : Hid (8 * (T.length - s.i) + 0 < f + 1 ∧ s.i < T.length) := Lib.hid ⟨hfu, hi⟩
 have HOLD := Lib.hid h.old
 have HPL := Lib.hid (lt_of_block h.box)
 have H0 : Hid (Bw w ((w.alloc (.cells #[.int .i64 0, .string eB, .int .i64 0, .slice none 0 0, .slice none 0 0, .slice none 0 0] 25)).alloc (.cells #[.int .i64 9, .string eB, .int .i64 0, .slice none 0 0, .slice none 0 0, .slice none 0 0] 25)) (w.heap.size) (w.heap.size + 1) pb v T s 9 eB 0 (.slice none 0 0) (.slice none 0 0) (.slice none 0 0) [] []) := Lib.hid (by
  have hb : Below w.heap.size w ((w.alloc (.cells #[.int .i64 0, .string eB, .int .i64 0, .slice none 0 0, .slice none 0 0, .slice none 0 0] 25)).alloc (.cells #[.int .i64 9, .string eB, .int .i64 0, .slice none 0 0, .slice none 0 0, .slice none 0 0] 25)) := bel
  have h1 := heap_alloc_new w (.cells #[.int .i64 0, .string eB, .int .i64 0, .slice none 0 0, .slice none 0 0, .slice none 0 0] 25)
  have h2 := heap_alloc_new (w.alloc (.cells #[.int .i64 0, .string eB, .int .i64 0, .slice none 0 0, .slice none 0 0, .slice none 0 0] 25)) (.cells #[.int .i64 9, .string eB, .int .i64 0, .slice none 0 0, .slice none 0 0, .slice none 0 0] 25)
  rw [World.size_alloc] at h2
  have h3 := lt_of_block h.box
  exact ⟨⟨h.below hb, Turns.of_below hb⟩, Nat.le_succ _, Nat.lt_succ_self _, by omega, by omega, fun k e => by have := (World.ownsRow.lt h.row k e).2; omega, ((Below.refl _ _).alloc (Nat.le_refl _) _ |>.block _ (lt_of_block h1)).trans h1, h2, SRow.nil _ _, SRow.nil _ _⟩)
 obtain ⟨⟨bo, so⟩, ho⟩ : ∃ r, openT T s = r := ⟨_, rfl⟩
 have HO := Lib.hid ho
 have hog := open_go (T := T) hi
 rw [ho] at hog
 have HOP : Hid (so.i = s.i + 1 ∧ so.i ≤ T.length) := Lib.hid ⟨hog.2.1, by have := hog.2.1; show so.i ≤ _; have e9 : so.i = s.i + 1 := this; omega⟩
 have HOE : Hid (so.e = 0 → ([] : List ByteArray).length ≤ 4) := Lib.hid (fun _ => by simp)
 clear h hok hi hfu hog
 go_enter Try.func51, Try.ntmps51
 go_upto_region 2 with fail
 have hm9 := H0.out
 obtain ⟨w1, hw1⟩ : ∃ w1, ((w.alloc (.cells #[.int .i64 0, .string eB, .int .i64 0, .slice none 0 0, .slice none 0 0, .slice none 0 0] 25)).alloc (.cells #[.int .i64 9, .string eB, .int .i64 0, .slice none 0 0, .slice none 0 0, .slice none 0 0] 25)) = w1 := ⟨_, rfl⟩
 rw [hw1] at hm9 ⊢
 have HM := Lib.hid hm9
 clear hw1 H0 hm9
 cases bo with
 | false =>
  have HE : Hid (blkS T (rcF T f) s = (.node 9 eB 0 [] [] [], so)) := Lib.hid (by unfold blkS; rw [HO.out]; rfl)
  clear ho
  go_wp2_with (first | (go_at_call 50; (with_reducible refine (open_any (HM.out.pt.1.below bel) HOK.out HI.out).mono ?_); rw [HO.out]; rintro e w3 ⟨rfl, hx⟩; have hm9 := HM.out.go bel hx; clear HM; have HM := Lib.hid hm9; (try clear n0 nr0 n1 nr1 n2 nr2 n3 nr3 n4 nr4 n5 nr5); (try clear o0 or0 o1 or1 o2 or2 o3 or3 o4 or4 o5 or5); obtain ⟨n0, n1, n2, n3, n4, n5, nr0, nr1, nr2, nr3, nr4, nr5⟩ := cf6 (hm9.res); obtain ⟨o0, o1, o2, o3, o4, o5, or0, or1, or2, or3, or4, or5⟩ := cf6 (hm9.out); clear hm9 hx))
  obtain ⟨W9, hW9⟩ : ∃ W9, W9 = ((((((w3.setCell ⟨w.heap.size, 0, none⟩ (.int .i64 9)).setCell ⟨w.heap.size, 1, none⟩ (.string eB)).setCell ⟨w.heap.size, 2, none⟩ (.int .i64 0)).setCell ⟨w.heap.size, 3, none⟩ (.slice none 0 0)).setCell ⟨w.heap.size, 4, none⟩ (.slice none 0 0)).setCell ⟨w.heap.size, 5, none⟩ (.slice none 0 0)) := ⟨_, rfl⟩
  have h9 : W9.heap[w.heap.size]? = some (.cells #[.int .i64 9, .string eB, .int .i64 0, .slice none 0 0, .slice none 0 0, .slice none 0 0] 25 (0, 0)) := by rw [hW9]; exact agg_set6 HM.out.res
  obtain ⟨z0, z1, z2, z3, z4, z5⟩ := cc6 h9
  have HT9 : Hid (Turns (fun k => k = w.heap.size) w3 W9) := Lib.hid (by rw [hW9]; exact six_turns (T := fun k => k = w.heap.size) (Turns.refl _ _) (w.heap.size) rfl)
  rw [← hW9]
  clear hW9 h9
  refine bodyPost_ret (v := .agg #[.int .i64 9, .string eB, .int .i64 0, .slice none 0 0, .slice none 0 0, .slice none 0 0]) (by simp [results, Try.results51, go_sem, z0, z1, z2, z3, z4, z5]) rfl ?_
  rw [HE.out]
  exact ⟨⟨none, 0, none, 0, none, 0⟩, rfl, HM.out.pt.turned HT9.out (fun k e => by have e9 : k = w.heap.size := e; exact ⟨by omega, by have := HPL.out; omega, by rw [e9]; exact HOLD.out⟩), IsNd.leaf _ _ ⟨by decide, by decide⟩ ⟨by decide, by decide⟩ (by decide)⟩
 | true =>
  have HE0 : Hid (blkS T (rcF T f) s = (.node 9 eB 0 (parL T (T.length + 1) [] so).1 (tempsT T (if 0 < (parL T (T.length + 1) [] so).1.length ∧ isT T (parL T (T.length + 1) [] so).2 10 bKet = false then (needT T (parL T (T.length + 1) [] so).2 10 bBar).2 else (parL T (T.length + 1) [] so).2)).1 ((rcF T f).stmts (tempsT T (if 0 < (parL T (T.length + 1) [] so).1.length ∧ isT T (parL T (T.length + 1) [] so).2 10 bKet = false then (needT T (parL T (T.length + 1) [] so).2 10 bBar).2 else (parL T (T.length + 1) [] so).2)).2).1, shutT (needT T ((rcF T f).stmts (tempsT T (if 0 < (parL T (T.length + 1) [] so).1.length ∧ isT T (parL T (T.length + 1) [] so).2 10 bKet = false then (needT T (parL T (T.length + 1) [] so).2 10 bBar).2 else (parL T (T.length + 1) [] so).2)).2).2 10 bKet).2)) := Lib.hid (by unfold blkS; rw [HO.out]; rfl)
  clear ho
  go_wp2_with (first | (go_at_call 50; (with_reducible refine (open_any (HM.out.pt.1.below bel) HOK.out HI.out).mono ?_); rw [HO.out]; rintro e w3 ⟨rfl, hx⟩; have hm9 := HM.out.go bel hx; clear HM; have HM := Lib.hid hm9; (try clear n0 nr0 n1 nr1 n2 nr2 n3 nr3 n4 nr4 n5 nr5); (try clear o0 or0 o1 or1 o2 or2 o3 or3 o4 or4 o5 or5); obtain ⟨n0, n1, n2, n3, n4, n5, nr0, nr1, nr2, nr3, nr4, nr5⟩ := cf6 (hm9.res); obtain ⟨o0, o1, o2, o3, o4, o5, or0, or1, or2, or3, or4, or5⟩ := cf6 (hm9.out); clear hm9 hx))
  go_loopg [] (T.length + 1) (fun g wr => ∃ (A : Option Addr) (n c : Nat) (l : List ByteArray) (sk : PSt), Bw w wr (w.heap.size) (w.heap.size + 1) pb v T sk 9 eB 0 (.slice A n c) (.slice none 0 0) (.slice none 0 0) l [] ∧ parL T (T.length + 1) [] so = parL T g l sk ∧ T.length < g + sk.i ∧ sk.i ≤ T.length ∧ (sk.e = 0 → l.length ≤ 4) ∧ (∀ x, x ∈ l → x.size ≤ 100000) ∧ s.i + 1 ≤ sk.i)
  case atStart => exact ⟨none, 0, 0, [], so, HM.out, rfl, by omega, HOP.out.2, HOE.out, fun x hx => absurd hx (by simp), by have := HOP.out.1; omega⟩
  case round =>
   obtain ⟨A, n, c, l, sk, hm9, hul, hg, hil, hl4, htx, hmo⟩ := hrel
   clear HM
   (try clear n0 nr0 n1 nr1 n2 nr2 n3 nr3 n4 nr4 n5 nr5)
   (try clear o0 or0 o1 or1 o2 or2 o3 or3 o4 or4 o5 or5)
   have HM := Lib.hid hm9
   have HUL := Lib.hid hul
   have HG := Lib.hid hg
   have HIL := Lib.hid hil
   have HL4 := Lib.hid hl4
   have HTX := Lib.hid htx
   have HMO := Lib.hid hmo
   obtain ⟨b, hb⟩ : ∃ b, isT T sk 8 eB = b := ⟨_, rfl⟩
   have HB := Lib.hid hb
   obtain ⟨n0, n1, n2, n3, n4, n5, nr0, nr1, nr2, nr3, nr4, nr5⟩ := cf6 (hm9.res)
   obtain ⟨o0, o1, o2, o3, o4, o5, or0, or1, or2, or3, or4, or5⟩ := cf6 (hm9.out)
   clear hm9 hul hg hil hl4 htx hmo hb
   cases b with
   | true =>
    obtain ⟨⟨l9, s9⟩, hnm⟩ : ∃ r, namesT T 8 l sk = r := ⟨_, rfl⟩
    have HNM := Lib.hid hnm
    have hst := names_step HB.out HL4.out
    rw [hnm] at hst
    have HST := Lib.hid hst
    have htx := names_tx HOK.out 8 l sk HTX.out
    rw [hnm] at htx
    have HTX9 := Lib.hid htx
    have HLT := Lib.hid (isT_lt HB.out HOK.out (by decide))
    have HL1 : Hid (l.length ≤ 1000) := Lib.hid (by have := HL4.out (is_e HB.out); omega)
    clear hnm hst htx
    go_wp2_with (first | (go_at_call 22; (with_reducible refine (is_at HM.out.pt.1.pt bel HOK.out 8 eB).mono ?_); rw [HB.out]; rintro e w4 ⟨rfl, hx⟩; have hm9 := HM.out.go bel hx; clear HM; have HM := Lib.hid hm9; (try clear n0 nr0 n1 nr1 n2 nr2 n3 nr3 n4 nr4 n5 nr5); (try clear o0 or0 o1 or1 o2 or2 o3 or3 o4 or4 o5 or5); obtain ⟨n0, n1, n2, n3, n4, n5, nr0, nr1, nr2, nr3, nr4, nr5⟩ := cf6 (hm9.res); obtain ⟨o0, o1, o2, o3, o4, o5, or0, or1, or2, or3, or4, or5⟩ := cf6 (hm9.out); clear hm9 hx) | (go_at_call 24; (with_reducible refine (names_any (l := l) (HM.out.pt.1.below bel) HOK.out HIL.out 8 (HM.out.nam.below bel) HL1.out).mono ?_); rw [HNM.out]; rintro e w5 ⟨vr9, rfl, hx, hr9⟩; obtain ⟨A1, c1, hvr, _⟩ := SRow.slice hr9; subst hvr; have HSR := Lib.hid (ownsRow_mono hr9 (HM.out.base bel)); clear hr9; have hm9 := HM.out.go bel hx; clear HM; have HM := Lib.hid hm9; (try clear n0 nr0 n1 nr1 n2 nr2 n3 nr3 n4 nr4 n5 nr5); (try clear o0 or0 o1 or1 o2 or2 o3 or3 o4 or4 o5 or5); obtain ⟨n0, n1, n2, n3, n4, n5, nr0, nr1, nr2, nr3, nr4, nr5⟩ := cf6 (hm9.res); obtain ⟨o0, o1, o2, o3, o4, o5, or0, or1, or2, or3, or4, or5⟩ := cf6 (hm9.out); clear hm9 hx))
    go_roundg (gk - 1)
    case measure => have := HG.out; have := HLT.out; omega
    case rel =>
     have hm9 := HM.out.setN HSR.out (Nat.le_refl _)
     have hul : parL T (T.length + 1) [] so = parL T (gk - 1) l9 s9 := by
      have h9 : gk = (gk - 1) + 1 := by have := HG.out; have := HLT.out; omega
      rw [HUL.out, h9, parL, if_pos HB.out, HNM.out, Nat.add_sub_cancel]
     have h1 : s9.i = sk.i + 1 := HST.out.1
     have h2 : s9.e = 0 → l9.length ≤ 4 := HST.out.2.1
     exact ⟨A1, l9.length, c1, l9, s9, hm9, hul, fuel_step HG.out HLT.out (by omega), by have := HLT.out; omega, h2, HTX9.out, by have := HMO.out; omega⟩
   | false =>
    have hq : parL T (T.length + 1) [] so = (l, sk) := by
     rw [HUL.out]
     cases gk with
     | zero => rfl
     | succ g => rw [parL, if_neg (by rw [HB.out]; decide)]
    obtain ⟨bK, hbK⟩ : ∃ b, isT T sk 10 bKet = b := ⟨_, rfl⟩
    have HBK := Lib.hid hbK
    obtain ⟨s2, hs2⟩ : ∃ s2, (if 0 < l.length ∧ isT T sk 10 bKet = false then (needT T sk 10 bBar).2 else sk) = s2 := ⟨_, rfl⟩
    have HS2 := Lib.hid hs2
    obtain ⟨⟨ts, s3⟩, htm⟩ : ∃ r, tempsT T s2 = r := ⟨_, rfl⟩
    have HTM := Lib.hid htm
    obtain ⟨⟨ks, s4⟩, hr0⟩ : ∃ r, (rcF T f).stmts s3 = r := ⟨_, rfl⟩
    have HR0 := Lib.hid hr0
    obtain ⟨⟨t9, s5⟩, hn5⟩ : ∃ r, needT T s4 10 bKet = r := ⟨_, rfl⟩
    have HN5 := Lib.hid hn5
    have hg2 : Go7 T sk s2 := by
     rw [← hs2]
     split
     ·exact need_go HOK.out.at0 sk 10 bBar (by decide)
     ·exact Go7.refl sk
    have hg3 := temps_go HOK.out.at0 s2
    rw [htm] at hg3
    have hg4 := ((rcF_go HOK.out.at0 f).stmts s3).1
    rw [hr0] at hg4
    have hi2 := hg2.top HIL.out
    have hi3 := hg3.top hi2
    have HI2 := Lib.hid hi2
    have HI3 : Hid (s3.i ≤ T.length) := Lib.hid hi3
    have HI4 : Hid (s4.i ≤ T.length) := Lib.hid (hg4.top hi3)
    have HF5 : Hid (8 * (T.length - s3.i) + 6 < f) := Lib.hid (by have h1 := hg2.le; have h2 : s2.i ≤ s3.i := hg3.le; have := HFU.out; have := HMO.out; omega)
    have HTY : Hid (∀ x, x ∈ ts → x.size ≤ 100000) := Lib.hid (by have h9 := temps_tx HOK.out s2; rw [htm] at h9; exact h9)
    have HE : Hid (blkS T (rcF T f) s = (.node 9 eB 0 l ts ks, shutT s5)) := Lib.hid (by
     rw [HE0.out, hq]
     dsimp only
     rw [hs2, htm]
     dsimp only
     rw [hr0]
     dsimp only
     rw [hn5])
    clear hq hbK hs2 htm hr0 hn5 hg2 hg3 hg4 hi2 hi3
    obtain ⟨bq, hbq⟩ : ∃ b, (decide (0 < n) && !bK) = b := ⟨_, rfl⟩
    have HBQ := Lib.hid hbq
    clear hbq
    go_upto_region 7 with (first | (go_at_call 22; (with_reducible refine (is_at HM.out.pt.1.pt bel HOK.out 8 eB).mono ?_); rw [HB.out]; rintro e w4 ⟨rfl, hx⟩; have hm9 := HM.out.go bel hx; clear HM; have HM := Lib.hid hm9; (try clear n0 nr0 n1 nr1 n2 nr2 n3 nr3 n4 nr4 n5 nr5); (try clear o0 or0 o1 or1 o2 or2 o3 or3 o4 or4 o5 or5); obtain ⟨n0, n1, n2, n3, n4, n5, nr0, nr1, nr2, nr3, nr4, nr5⟩ := cf6 (hm9.res); obtain ⟨o0, o1, o2, o3, o4, o5, or0, or1, or2, or3, or4, or5⟩ := cf6 (hm9.out); clear hm9 hx))
    go_cut [26] (fun v26 wx => v26 = .bool bq ∧ Bw w wx (w.heap.size) (w.heap.size + 1) pb v T sk 9 eB 0 (.slice A n c) (.slice none 0 0) (.slice none 0 0) l [])
    case first =>
     by_cases h0 : 0 < n
     ·have d1 : decide (0 < n) = true := decide_eq_true h0
      have d2 : decide ((0 : Int) < (n : Int)) = true := decide_eq_true (by omega)
      have d3 : (0 : Int) < (n : Int) := by omega
      have e9 : bq = !bK := by rw [← HBQ.out, d1]; simp
      clear h0
      go_wp2_with (first | (go_at_call 22; (with_reducible refine (is_at HM.out.pt.1.pt bel HOK.out 10 bKet).mono ?_); rw [HBK.out]; rintro e w5 ⟨rfl, hx⟩; have hm9 := HM.out.go bel hx; clear HM; have HM := Lib.hid hm9; (try clear n0 nr0 n1 nr1 n2 nr2 n3 nr3 n4 nr4 n5 nr5); (try clear o0 or0 o1 or1 o2 or2 o3 or3 o4 or4 o5 or5); obtain ⟨n0, n1, n2, n3, n4, n5, nr0, nr1, nr2, nr3, nr4, nr5⟩ := cf6 (hm9.res); obtain ⟨o0, o1, o2, o3, o4, o5, or0, or1, or2, or3, or4, or5⟩ := cf6 (hm9.out); clear hm9 hx))
      go_meet
      exact ⟨by rw [e9], HM.out⟩
     ·have d1 : decide (0 < n) = false := decide_eq_false h0
      have d2 : decide ((0 : Int) < (n : Int)) = false := decide_eq_false (by omega)
      have d3 : ¬ (0 : Int) < (n : Int) := by omega
      have e9 : bq = false := by rw [← HBQ.out, d1]; rfl
      clear h0
      go_wp2_with fail
      go_meet
      exact ⟨by rw [e9], HM.out⟩
    case rest =>
     obtain ⟨rfl, hm9⟩ := hcut
     clear HM
     (try clear n0 nr0 n1 nr1 n2 nr2 n3 nr3 n4 nr4 n5 nr5)
     (try clear o0 or0 o1 or1 o2 or2 o3 or3 o4 or4 o5 or5)
     have HM := Lib.hid hm9
     rename World => w5
     obtain ⟨n0, n1, n2, n3, n4, n5, nr0, nr1, nr2, nr3, nr4, nr5⟩ := cf6 (hm9.res)
     obtain ⟨o0, o1, o2, o3, o4, o5, or0, or1, or2, or3, or4, or5⟩ := cf6 (hm9.out)
     clear hm9
     go_upto_if 26 with fail
     go_cut [] (fun wx => Bw w wx (w.heap.size) (w.heap.size + 1) pb v T s2 9 eB 0 (.slice A n c) (.slice none 0 0) (.slice none 0 0) l [])
     case first =>
      cases bq with
      | true =>
       have e9 : 0 < n ∧ bK = false := by have h9 := HBQ.out; simpa using h9
       obtain ⟨⟨t8, s8⟩, hn8⟩ : ∃ r, needT T sk 10 bBar = r := ⟨_, rfl⟩
       have HN8 := Lib.hid hn8
       have HZ : Hid (s2 = s8) := Lib.hid (by have h9 := HS2.out; rw [if_pos ⟨by rw [← HM.out.len.1]; exact e9.1, by rw [HBK.out]; exact e9.2⟩, hn8] at h9; exact h9.symm)
       clear hn8 e9
       go_wp2_with (first | (go_at_call 17; (with_reducible refine (need_any (HM.out.pt.1.below bel) HOK.out HIL.out 10 bBar HN8.out).mono ?_); rintro e w6 ⟨rfl, hx⟩; have hm9 := HM.out.go bel hx; clear HM; have HM := Lib.hid hm9; (try clear n0 nr0 n1 nr1 n2 nr2 n3 nr3 n4 nr4 n5 nr5); (try clear o0 or0 o1 or1 o2 or2 o3 or3 o4 or4 o5 or5); obtain ⟨n0, n1, n2, n3, n4, n5, nr0, nr1, nr2, nr3, nr4, nr5⟩ := cf6 (hm9.res); obtain ⟨o0, o1, o2, o3, o4, o5, or0, or1, or2, or3, or4, or5⟩ := cf6 (hm9.out); clear hm9 hx))
       go_meet
       rw [HZ.out]; exact HM.out
      | false =>
       have HZ : Hid (s2 = sk) := Lib.hid (by
        have h9 := HS2.out
        rw [if_neg (fun z => by
         have h8 := HBQ.out
         rw [HBK.out] at z
         rw [z.2, decide_eq_true (show 0 < n by rw [HM.out.len.1]; exact z.1)] at h8
         cases h8)] at h9
        exact h9.symm)
       go_wp2_with fail
       go_meet
       rw [HZ.out]; exact HM.out
     case rest =>
      have hm9 := hcut
      clear HM hcut
      (try clear n0 nr0 n1 nr1 n2 nr2 n3 nr3 n4 nr4 n5 nr5)
      (try clear o0 or0 o1 or1 o2 or2 o3 or3 o4 or4 o5 or5)
      have HM := Lib.hid hm9
      rename World => wt
      obtain ⟨n0, n1, n2, n3, n4, n5, nr0, nr1, nr2, nr3, nr4, nr5⟩ := cf6 (hm9.res)
      obtain ⟨o0, o1, o2, o3, o4, o5, or0, or1, or2, or3, or4, or5⟩ := cf6 (hm9.out)
      clear hm9
      go_upto_region 10 with (first | (go_at_call 15; (with_reducible refine (temps7_any (HM.out.pt.1.below bel) HOK.out HI2.out).mono ?_); rw [HTM.out]; rintro e w6 ⟨vr9, rfl, hx, hr9⟩; obtain ⟨A2, c2, hvr, _⟩ := SRow.slice hr9; subst hvr; have HSR2 := Lib.hid (ownsRow_mono hr9 (HM.out.base bel)); clear hr9; have hm9 := HM.out.go bel hx; clear HM; have HM := Lib.hid hm9; (try clear n0 nr0 n1 nr1 n2 nr2 n3 nr3 n4 nr4 n5 nr5); (try clear o0 or0 o1 or1 o2 or2 o3 or3 o4 or4 o5 or5); obtain ⟨n0, n1, n2, n3, n4, n5, nr0, nr1, nr2, nr3, nr4, nr5⟩ := cf6 (hm9.res); obtain ⟨o0, o1, o2, o3, o4, o5, or0, or1, or2, or3, or4, or5⟩ := cf6 (hm9.out); clear hm9 hx))
      have hm9 := HM.out.setT HSR2.out (Nat.le_refl _)
      obtain ⟨w7, hw9⟩ : ∃ wt, w6.setCell ⟨w.heap.size + 1, 4, none⟩ (.slice A2 ts.length c2) = wt := ⟨_, rfl⟩
      rw [hw9] at hm9 ⊢
      clear HM hw9
      have HM := Lib.hid hm9
      (try clear n0 nr0 n1 nr1 n2 nr2 n3 nr3 n4 nr4 n5 nr5)
      (try clear o0 or0 o1 or1 o2 or2 o3 or3 o4 or4 o5 or5)
      obtain ⟨n0, n1, n2, n3, n4, n5, nr0, nr1, nr2, nr3, nr4, nr5⟩ := cf6 (hm9.res)
      obtain ⟨o0, o1, o2, o3, o4, o5, or0, or1, or2, or3, or4, or5⟩ := cf6 (hm9.out)
      clear hm9
      go_upto_region 11 with (first | (go_at_call 16; (with_reducible refine (hp.stmts (HM.out.pt.1.below bel) HI3.out HF5.out).mono ?_); rw [HR0.out]; rintro e w8 hrow; obtain ⟨p3, c3, hee, hx, hny⟩ := RowP.node hrow 9 0 eB ⟨by decide, by decide⟩ ⟨by decide, by decide⟩ (by decide); subst hee; have HNY := Lib.hid (hny.more (D' := fun b => w.heap.size + 1 + 1 ≤ b) (fun b z _ => Nat.le_trans (HM.out.base bel) z)); clear hny hrow; have hm9 := HM.out.go bel hx; clear HM; have HM := Lib.hid hm9; (try clear n0 nr0 n1 nr1 n2 nr2 n3 nr3 n4 nr4 n5 nr5); (try clear o0 or0 o1 or1 o2 or2 o3 or3 o4 or4 o5 or5); obtain ⟨n0, n1, n2, n3, n4, n5, nr0, nr1, nr2, nr3, nr4, nr5⟩ := cf6 (hm9.res); obtain ⟨o0, o1, o2, o3, o4, o5, or0, or1, or2, or3, or4, or5⟩ := cf6 (hm9.out); clear hm9 hx))
      have hm9 := HM.out.setK (.slice p3 ks.length c3)
      have hny := HNY.out.turns (w' := w8.setCell ⟨w.heap.size + 1, 5, none⟩ (.slice p3 ks.length c3)) ((Turns.refl (fun k => k = w.heap.size + 1) _).setCell ⟨w.heap.size + 1, 5, none⟩ _ (.inl rfl)) (fun b z _ e => by have e9 : b = w.heap.size + 1 := e; omega) (fun _ z => z)
      obtain ⟨w9, hw9⟩ : ∃ wt, w8.setCell ⟨w.heap.size + 1, 5, none⟩ (.slice p3 ks.length c3) = wt := ⟨_, rfl⟩
      rw [hw9] at hm9 hny ⊢
      clear HM hw9
      have HM := Lib.hid hm9
      (try clear n0 nr0 n1 nr1 n2 nr2 n3 nr3 n4 nr4 n5 nr5)
      (try clear o0 or0 o1 or1 o2 or2 o3 or3 o4 or4 o5 or5)
      obtain ⟨n0, n1, n2, n3, n4, n5, nr0, nr1, nr2, nr3, nr4, nr5⟩ := cf6 (hm9.res)
      obtain ⟨o0, o1, o2, o3, o4, o5, or0, or1, or2, or3, or4, or5⟩ := cf6 (hm9.out)
      clear HNY
      have HNY := Lib.hid hny
      clear hm9 hny
      go_upto_region 12 with (first | (go_at_call 17; (with_reducible refine (need_any (HM.out.pt.1.below bel) HOK.out HI4.out 10 bKet HN5.out).mono ?_); rintro e w10 ⟨rfl, hx⟩; have hn9 := PT.keepN bel hx HNY.out (fun b z e => by have := HM.out.pl; omega); clear HNY; have HNY := Lib.hid hn9; clear hn9; have hm9 := HM.out.go bel hx; clear HM; have HM := Lib.hid hm9; (try clear n0 nr0 n1 nr1 n2 nr2 n3 nr3 n4 nr4 n5 nr5); (try clear o0 or0 o1 or1 o2 or2 o3 or3 o4 or4 o5 or5); obtain ⟨n0, n1, n2, n3, n4, n5, nr0, nr1, nr2, nr3, nr4, nr5⟩ := cf6 (hm9.res); obtain ⟨o0, o1, o2, o3, o4, o5, or0, or1, or2, or3, or4, or5⟩ := cf6 (hm9.out); clear hm9 hx))
      have k2 : w10.cell? ⟨pb, 2, none⟩ = some (.int .i64 s5.deep) := HM.out.pt.1.cell rfl
      have f2 := HM.out.pt.1.free 2
      go_upto_region 13 with fail
      have hx9 := HM.out.pt.1.put (s' := shutT s5) 2 (.int .i64 (Go.RowKit.wrap64 (s5.deep - 1))) rfl HM.out.pt.1.le
      have hm9 := HM.out.go (Below.refl _ _) hx9
      have hny := PT.keepN (Below.refl _ _) hx9 HNY.out (fun b z e => by have := HM.out.pl; omega)
      obtain ⟨w11, hw9⟩ : ∃ wt, w10.setCell ⟨pb, 2, none⟩ (.int .i64 (Go.RowKit.wrap64 (s5.deep - 1))) = wt := ⟨_, rfl⟩
      rw [hw9] at hm9 hny hx9 ⊢
      clear HM hw9
      have HM := Lib.hid hm9
      (try clear n0 nr0 n1 nr1 n2 nr2 n3 nr3 n4 nr4 n5 nr5)
      (try clear o0 or0 o1 or1 o2 or2 o3 or3 o4 or4 o5 or5)
      obtain ⟨n0, n1, n2, n3, n4, n5, nr0, nr1, nr2, nr3, nr4, nr5⟩ := cf6 (hm9.res)
      obtain ⟨o0, o1, o2, o3, o4, o5, or0, or1, or2, or3, or4, or5⟩ := cf6 (hm9.out)
      clear HNY
      have HNY := Lib.hid hny
      clear hm9 hny hx9 k2 f2
      go_wp2_with fail
      obtain ⟨W9, hW9⟩ : ∃ W9, W9 = ((((((w11.setCell ⟨w.heap.size, 0, none⟩ (.int .i64 9)).setCell ⟨w.heap.size, 1, none⟩ (.string eB)).setCell ⟨w.heap.size, 2, none⟩ (.int .i64 0)).setCell ⟨w.heap.size, 3, none⟩ (.slice A n c)).setCell ⟨w.heap.size, 4, none⟩ (.slice A2 ts.length c2)).setCell ⟨w.heap.size, 5, none⟩ (.slice p3 ks.length c3)) := ⟨_, rfl⟩
      have h9 : W9.heap[w.heap.size]? = some (.cells #[.int .i64 9, .string eB, .int .i64 0, .slice A n c, .slice A2 ts.length c2, .slice p3 ks.length c3] 25 (0, 0)) := by rw [hW9]; exact agg_set6 HM.out.res
      obtain ⟨z0, z1, z2, z3, z4, z5⟩ := cc6 h9
      have HT9 : Hid (Turns (fun k => k = w.heap.size) w11 W9) := Lib.hid (by rw [hW9]; exact six_turns (T := fun k => k = w.heap.size) (Turns.refl _ _) (w.heap.size) rfl)
      rw [← hW9]
      clear hW9 h9
      refine bodyPost_ret (v := .agg #[.int .i64 9, .string eB, .int .i64 0, .slice A n c, .slice A2 ts.length c2, .slice p3 ks.length c3]) (by simp [results, Try.results51, go_sem, z0, z1, z2, z3, z4, z5]) rfl ?_
      rw [HE.out]
      refine ⟨⟨A, c, A2, c2, p3, c3⟩, ?_, HM.out.pt.turned HT9.out (fun k e => by have e9 : k = w.heap.size := e; exact ⟨by omega, by have := HPL.out; omega, by rw [e9]; exact HOLD.out⟩), HM.out.node HNY.out HTX.out HTY.out HT9.out (fun b z => .inr (by omega))⟩
      show Ending.returned (.agg #[.int .i64 9, .string eB, .int .i64 0, .slice A n c, .slice A2 ts.length c2, .slice p3 ks.length c3]) = Ending.returned (.agg #[.int .i64 9, .string eB, .int .i64 0, .slice A l.length c, .slice A2 ts.length c2, .slice p3 ks.length c3])
      rw [HM.out.len.1]
end Go.Proofs.Ytnojndgmgkgnpaa
