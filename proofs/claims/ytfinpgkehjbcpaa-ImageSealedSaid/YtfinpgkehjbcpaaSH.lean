/- Chapter 04: both memories in the laws; what is made. -/
import Derived.Test.YtfinpgkehjbcpaaIT
import Derived.Test.YtfinpgkehjbcpaaLW1
import Derived.Test.YtfinpgkehjbcpaaNEW
import Derived.Test.YtfinpgkehjbcpaaRows
import Derived.ProofKit
import Derived.OpenShut
import Derived.Deep.CutBlock
namespace Go.Proofs.Ytfinpgkehjbcpaa
open Go.ChangeShapes Go.WideShapes Go.ChangeAt Go.RowKit Go.Deep Go.Joins Go.Maps
set_option linter.unusedVariables false
set_option linter.unusedSimpArgs false
/-- a list of numbers that was handed in -/
structure RawN (w : World) (A : Option Addr) (n c : Nat) (l : List Int) : Prop where
  len : l.length = n
  le : n ≤ c
  cap : c ≤ maxLen
  nums : Nums w A l
  int : ∀ x, x ∈ l → InI x
structure ThT where
  c : Int
  f : Int
  A : Option Addr
  n : Nat
  k : Nat
  F : List Int
structure IsT (w : World) (t : ThT) : Prop where
  ic : InI t.c
  jf : InI t.f
  a : RawN w t.A t.n t.k t.F
/-- things that were handed in -/
structure RawT (w : World) (A : Option Addr) (n c : Nat) (T : Nat → ThT) : Prop where
  le : n ≤ c
  cap : c ≤ maxLen
  at_ : ∀ i, i < n → ∃ b off, A = some ⟨b, off, none⟩ ∧ b < w.heap.size ∧ w.cell? ⟨b, off + i * 3, none⟩ = some (.int .i64 (T i).c) ∧ w.cell? ⟨b, off + i * 3 + 1, none⟩ = some (.int .i64 (T i).f) ∧ w.cell? ⟨b, off + i * 3 + 2, none⟩ = some (.slice (T i).A (T i).n (T i).k)
  each : ∀ i, i < n → IsT w (T i)
theorem RawN.below {w w' : World} {A : Option Addr} {n c : Nat} {l : List Int} (h : RawN w A n c l) (hb : Below w.heap.size w w') : RawN w' A n c l := ⟨h.len, h.le, h.cap, h.nums.below hb, h.int⟩
theorem IsT.below {w w' : World} {t : ThT} (h : IsT w t) (hb : Below w.heap.size w w') : IsT w' t := ⟨h.ic, h.jf, h.a.below hb⟩
theorem RawT.below {w w' : World} {A : Option Addr} {n c : Nat} {T : Nat → ThT} (h : RawT w A n c T) (hb : Below w.heap.size w w') : RawT w' A n c T := ⟨h.le, h.cap, fun i hi => by
  obtain ⟨b, off, e, hlt, c0, c1, c2⟩ := h.at_ i hi
  exact ⟨b, off, e, Nat.lt_of_lt_of_le hlt hb.size, (hb.cell (p := ⟨b, _, none⟩) hlt).trans c0, (hb.cell (p := ⟨b, _, none⟩) hlt).trans c1, (hb.cell (p := ⟨b, _, none⟩) hlt).trans c2⟩, fun i hi => (h.each i hi).below hb⟩
section
variable {H : Type} {enc : TypeId × Value → H} {w : World} {base b0 : Nat} {spare : Nat → Bool} {held : Bool} {r : Go.Reach}
theorem open_list {fuel : Nat} {cs : List Value} {x : DataW H × List MemPlace} (h : DataW.trod enc Try.prog w base spare held fuel 23 cs = some x) :
    ∃ A n c l, cs = [.slice A n c] ∧ RawN w A n c l := by
  obtain ⟨A, n, c, F, e, hl, hm, hR, hf⟩ := open_nums Try.underlying23 Try.underlying3 (by kernel_rfl) h
  refine ⟨A, n, c, (List.range n).map F, e, by simp, hl, hm, fun k hk => ?_, fun x hx => ?_⟩
  · have hk' : k < n := by simpa using hk
    obtain ⟨b, off, e1, hlt, hc⟩ := hR (by omega)
    refine ⟨b, off, e1, hlt, ?_⟩
    have := hc k hk' 0 (by omega)
    simpa using this
  · obtain ⟨i, hi, rfl⟩ := List.mem_map.1 hx
    exact bounds_i64 (hf i (List.mem_range.1 hi))
theorem list_field {fuel : Nat} {v : Value} {x : DataW H × List MemPlace} (h : DataW.trod enc Try.prog w base spare held fuel 23 [v] = some x) :
    ∃ l, v = .slice (addrOf v) (lenOf v) (capOf v) ∧ RawN w (addrOf v) (lenOf v) (capOf v) l := by
  obtain ⟨A, n, c, l, e, hR⟩ := open_list h
  obtain rfl : v = .slice A n c := by simpa using e
  exact ⟨l, rfl, hR⟩
theorem open_nlist {v : Value} {d : DataW H} {p : List MemPlace} (hv : Value.okWide Try.prog w r b0 23 v) (h : DataW.Trod enc Try.prog w base spare held 23 v d p) :
    ∃ A n c l, v = .slice A n c ∧ RawN w A n c l := by
  obtain ⟨a, n, c, rfl⟩ := okWide_slice Try.underlying23 hv
  obtain ⟨fuel, hf⟩ := h
  obtain ⟨A, n', c', l, e, hR⟩ := open_list hf
  simp [Value.cells] at e
  obtain ⟨rfl, rfl, rfl⟩ := e
  exact ⟨_, _, _, l, rfl, hR⟩
theorem open_things {v : Value} {d : DataW H} {p : List MemPlace} (hv : Value.okWide Try.prog w r b0 22 v) (h : DataW.Trod enc Try.prog w base spare held 22 v d p) :
    ∃ A n c T, v = .slice A n c ∧ RawT w A n c T := by
  obtain ⟨a, n, c, rfl⟩ := okWide_slice Try.underlying22 hv
  obtain ⟨fuel, hf⟩ := h
  obtain ⟨A, n', c', F, e, hl, hm, hR, hfl⟩ := open_row Try.underlying22 Try.underlying53 (by kernel_rfl) (by kernel_rfl) (by decide) hf
  simp [Value.cells] at e
  obtain ⟨rfl, rfl, rfl⟩ := e
  have hex : ∀ i, i < n → ∃ t : ThT, IsT w t ∧ F i 0 = .int .i64 t.c ∧ F i 1 = .int .i64 t.f ∧ F i 2 = .slice t.A t.n t.k := by
    intro i hi
    obtain ⟨_, _, u0⟩ := hfl i hi 0 _ rfl
    obtain ⟨_, _, u1⟩ := hfl i hi 1 _ rfl
    obtain ⟨_, _, u2⟩ := hfl i hi 2 _ rfl
    obtain ⟨e0, w0⟩ := int_field Try.underlying3 u0
    obtain ⟨e1, w1⟩ := int_field Try.underlying3 u1
    obtain ⟨l2, e2, R2⟩ := list_field u2
    exact ⟨⟨intOf (F i 0), intOf (F i 1), addrOf (F i 2), lenOf (F i 2), capOf (F i 2), l2⟩, ⟨bounds_i64 w0, bounds_i64 w1, R2⟩, e0, e1, e2⟩
  have hch : ∃ T : Nat → ThT, ∀ i, i < n → IsT w (T i) ∧ F i 0 = .int .i64 (T i).c ∧ F i 1 = .int .i64 (T i).f ∧ F i 2 = .slice (T i).A (T i).n (T i).k := by
    refine ⟨fun i => if h : i < n then Classical.choose (hex i h) else ⟨0, 0, none, 0, 0, []⟩, fun i hi => ?_⟩
    exact (by simp only [dif_pos hi]; exact Classical.choose_spec (hex i hi))
  obtain ⟨T, hT⟩ := hch
  refine ⟨_, _, _, T, rfl, hl, hm, fun i hi => ?_, fun i hi => (hT i hi).1⟩
  obtain ⟨b, off, e1, hlt, hc⟩ := hR (by omega)
  obtain ⟨_, f0, f1, f2⟩ := hT i hi
  have key : ∀ j, j < 3 → w.cell? ⟨b, off + i * 3 + j, none⟩ = some (F i j) := fun j hj => hc i hi j hj
  exact ⟨b, off, e1, hlt, (key 0 (by omega)).trans (by rw [f0]), (key 1 (by omega)).trans (by rw [f1]), (key 2 (by omega)).trans (by rw [f2])⟩
end
/-- both memories, off the blocks of X; all that was there at the start stays -/
def LG (X : Nat → Prop) (w0 wc : World) (s r : Nat) (mp mr : Hp) : Prop := ∃ bw bm R, Duo X wc s bw bm r R mp mr ∧ Below w0.heap.size w0 wc ∧ ∀ k, k < w0.heap.size → X k
section
variable {X Y : Nat → Prop} {w0 wc w' : World} {s r : Nat} {m mp mr : Hp}
theorem LG.stays (h : LG X w0 wc s r mp mr) : Below w0.heap.size w0 wc := by obtain ⟨_, _, _, _, h, _⟩ := h; exact h
theorem LG.goodp (h : LG X w0 wc s r mp mr) : Good mp := by obtain ⟨_, _, _, ⟨_, _, P, _⟩, _⟩ := h; exact P.good
theorem LG.more (h : LG X w0 wc s r mp mr) (hb : Below wc.heap.size wc w') (hy : ∀ k, Y k → X k ∨ (wc.heap.size ≤ k ∧ k < w'.heap.size)) (hz : ∀ k, k < w0.heap.size → Y k) : LG Y w0 w' s r mp mr := by
  obtain ⟨bw, bm, R, D, k, q⟩ := h
  exact ⟨bw, bm, R, D.more hb hy, k.trans (hb.mono k.size), hz⟩
theorem LG.less (h : LG X w0 wc s r mp mr) (hy : ∀ k, Y k → X k) (hz : ∀ k, k < w0.heap.size → Y k) : LG Y w0 wc s r mp mr := by
  obtain ⟨bw, bm, R, D, hb, q⟩ := h
  exact ⟨bw, bm, R, D.less hy, hb, hz⟩
theorem LG.below (h : LG X w0 wc s r mp mr) (hb : Below wc.heap.size wc w') : LG X w0 w' s r mp mr := by
  obtain ⟨bw, bm, R, D, k, q⟩ := h
  exact ⟨bw, bm, R, D.below hb, k.trans (hb.mono k.size), q⟩
theorem LG.drewN (h : LG X w0 wc s r mp mr) (n : Nat) : LG X w0 (wc.drewN n) s r mp mr := h.below (below_drewN (Below.refl _ _) n)
theorem LG.drew (h : LG X w0 wc s r mp mr) : LG X w0 wc.drew s r mp mr := h.below (Below.drew (Below.refl _ _))
theorem LG.lt (h : LG X w0 wc s r mp mr) {k : Nat} (hk : X k) : k < wc.heap.size := by obtain ⟨_, _, _, ⟨_, _, _, _, _, q⟩, _⟩ := h; exact (q k hk).2.2
theorem heap_cell {w w' : World} (h : w'.heap = w.heap) (a : Addr) : w'.cell? a = w.cell? a := by unfold World.cell?; rw [h]
theorem Nums.keeps {w w' : World} {A : Option Addr} {l : List Int} {Y : Nat → Prop} (h : Nums w A l) (ht : Keeps Y w w') (hd : ∀ b off, A = some ⟨b, off, none⟩ → Y b) : Nums w' A l := h.turns ht (fun b off e q => q (hd b off e))
theorem new_r {n : Int} (hi : InI n) (hok : okN n = true) {bw bm : Nat} (P : PM wc s bw bm (nilHp n)) (q : w0.heap.size ≤ s ∧ w0.heap.size ≤ bw ∧ w0.heap.size ≤ bm) (hb : Below w0.heap.size w0 wc) :
    Calls Try.prog 24 #[.int .i64 n] wc fun e w' => ∃ r, e = .returned (.pointer (some ⟨r, 0, none⟩)) ∧ LG (fun k => k < w0.heap.size) w0 w' s r (nilHp n) (nilHp n) := by
  refine (rnew_any wc n hi).mono ?_
  rintro e w' ⟨h, B⟩
  rw [if_pos hok] at h
  obtain ⟨rfl, hs, Q⟩ := h
  have := hb.size
  refine ⟨_, rfl, bw, bm, _, ⟨_, _, P.below B, Q, fun k hk he => ?_, fun k hk => ⟨?_, ?_, ?_⟩⟩, hb.trans (B.mono hb.size), fun k h => h⟩
  · have := P.lt k hk
    have he' : k = wc.heap.size := he
    omega
  · have hk' : k < w0.heap.size := hk
    rintro (z | z | z) <;> omega
  · have hk' : k < w0.heap.size := hk
    show k ≠ _
    omega
  · have hk' : k < w0.heap.size := hk
    omega
theorem g_like (h : LG X w0 wc s r m m) (size : Int) (hs : size = (m.size : Int)) : Calls Try.prog 20 #[.pointer (some ⟨s, 0, none⟩), .pointer (some ⟨r, 0, none⟩), .int .i64 size] wc fun e w' => e = .returned (.bool true) ∧ LG X w0 w' s r m m ∧ Below wc.heap.size wc w' := by
  obtain ⟨bw, bm, R, D, hb, q⟩ := id h
  obtain ⟨lv, fv, P, Q, _⟩ := D
  refine (like_any P Q rfl rfl size hs).mono ?_
  rintro e w' ⟨rfl, hb'⟩
  exact ⟨rfl, h.below hb', hb'⟩
theorem g_put (h : LG X w0 wc s r mp mr) (a i x : Int) (hi : InI i) (hx : InI x) : Calls Try.prog 30 #[.pointer (some ⟨s, 0, none⟩), .int .i64 a, .int .i64 i, .int .i64 x] wc fun e w' => e = .returned (.int .i64 (putV mp a i x).2) ∧ LG X w0 w' s r ((putV mp a i x).1) (mr) ∧ Keeps X wc w' := by
  obtain ⟨bw, bm, R, D, hb, q⟩ := h
  refine (d_put D a i x hi hx).mono ?_
  rintro e w' ⟨rfl, D', K'⟩
  exact ⟨rfl, ⟨bw, bm, R, D', hb.trans (K'.below (fun k hk => q k hk) hb.size), q⟩, K'⟩
theorem gr_put (h : LG X w0 wc s r mp mr) (a i x : Int) (hi : InI i) (hx : InI x) : Calls Try.prog 31 #[.pointer (some ⟨r, 0, none⟩), .int .i64 a, .int .i64 i, .int .i64 x] wc fun e w' => e = .returned (.int .i64 (putV mr a i x).2) ∧ LG X w0 w' s r (mp) ((putV mr a i x).1) ∧ Keeps X wc w' := by
  obtain ⟨bw, bm, R, D, hb, q⟩ := h
  refine (dr_put D a i x hi hx).mono ?_
  rintro e w' ⟨rfl, D', K'⟩
  exact ⟨rfl, ⟨bw, bm, R, D', hb.trans (K'.below (fun k hk => q k hk) hb.size), q⟩, K'⟩
theorem g_setClass (h : LG X w0 wc s r mp mr) (a c : Int) (hc : InI c) : Calls Try.prog 28 #[.pointer (some ⟨s, 0, none⟩), .int .i64 a, .int .i64 c] wc fun e w' => e = .returned (.int .i64 (setClassV mp a c).2) ∧ LG X w0 w' s r ((setClassV mp a c).1) (mr) ∧ Keeps X wc w' := by
  obtain ⟨bw, bm, R, D, hb, q⟩ := h
  refine (d_setClass D a c hc).mono ?_
  rintro e w' ⟨rfl, D', K'⟩
  exact ⟨rfl, ⟨bw, bm, R, D', hb.trans (K'.below (fun k hk => q k hk) hb.size), q⟩, K'⟩
theorem gr_setClass (h : LG X w0 wc s r mp mr) (a c : Int) (hc : InI c) : Calls Try.prog 29 #[.pointer (some ⟨r, 0, none⟩), .int .i64 a, .int .i64 c] wc fun e w' => e = .returned (.int .i64 (setClassV mr a c).2) ∧ LG X w0 w' s r (mp) ((setClassV mr a c).1) ∧ Keeps X wc w' := by
  obtain ⟨bw, bm, R, D, hb, q⟩ := h
  refine (dr_setClass D a c hc).mono ?_
  rintro e w' ⟨rfl, D', K'⟩
  exact ⟨rfl, ⟨bw, bm, R, D', hb.trans (K'.below (fun k hk => q k hk) hb.size), q⟩, K'⟩
theorem g_make (h : LG X w0 wc s r mp mr) (c f n : Int) (hc : InI c) (hff : InI f) (hn : InI n) : Calls Try.prog 25 #[.pointer (some ⟨s, 0, none⟩), .int .i64 c, .int .i64 f, .int .i64 n] wc fun e w' => e = .returned (.tuple #[.int .i64 (makeV mp c f n).2.1, .int .i64 (makeV mp c f n).2.2]) ∧ LG X w0 w' s r ((makeV mp c f n).1) (mr) ∧ Keeps X wc w' := by
  obtain ⟨bw, bm, R, D, hb, q⟩ := h
  refine (d_make D c f n hc hff hn).mono ?_
  rintro e w' ⟨rfl, D', K'⟩
  exact ⟨rfl, ⟨bw, bm, R, D', hb.trans (K'.below (fun k hk => q k hk) hb.size), q⟩, K'⟩
theorem gr_make (h : LG X w0 wc s r mp mr) (c f n : Int) (hc : InI c) (hff : InI f) (hn : InI n) : Calls Try.prog 26 #[.pointer (some ⟨r, 0, none⟩), .int .i64 c, .int .i64 f, .int .i64 n] wc fun e w' => e = .returned (.tuple #[.int .i64 (makeV mr c f n).2.1, .int .i64 (makeV mr c f n).2.2]) ∧ LG X w0 w' s r (mp) ((makeV mr c f n).1) ∧ Keeps X wc w' := by
  obtain ⟨bw, bm, R, D, hb, q⟩ := h
  refine (dr_make D c f n hc hff hn).mono ?_
  rintro e w' ⟨rfl, R', D', K'⟩
  exact ⟨rfl, ⟨bw, bm, R', D', hb.trans (K'.below (fun k hk => q k hk) hb.size), q⟩, K'⟩
theorem g_objects (h : LG X w0 wc s r mp mr) {n : Nat} (hn : (ptrs mp.L).length = n) : Calls Try.prog 36 #[.pointer (some ⟨s, 0, none⟩)] wc fun e w' => ∃ A c, e = .returned (.slice A n c) ∧ Nums w' A (ptrs mp.L) ∧ (∀ b off, A = some ⟨b, off, none⟩ → wc.heap.size ≤ b ∧ b < w'.heap.size) ∧ Below wc.heap.size wc w' ∧ LG X w0 w' s r mp mr := by
  obtain ⟨bw, bm, R, ⟨lv, fv, P, _⟩, _⟩ := id h
  refine (objects_any P).mono ?_
  rintro e w' ⟨v, rfl, hv, hb⟩
  obtain ⟨A1, c1, rfl, hc1, hn1, hl1, hm1, hob1⟩ := hv.nums
  rw [hn] at hv ⊢
  exact ⟨A1, c1, rfl, hn1, fun b off e => ⟨(hl1 b off e).1, (World.ownsRow.lt hv b (by rw [show (Value.slice A1 n c1).ownBlock = A1.map (·.block) by cases A1 <;> rfl, e]; rfl)).2⟩, hb, h.below hb⟩
theorem gr_objects (h : LG X w0 wc s r mp mr) {n : Nat} (hn : (ptrs mr.L).length = n) : Calls Try.prog 12 #[.pointer (some ⟨r, 0, none⟩)] wc fun e w' => ∃ A c, e = .returned (.slice A n c) ∧ Nums w' A (ptrs mr.L) ∧ (∀ b off, A = some ⟨b, off, none⟩ → wc.heap.size ≤ b ∧ b < w'.heap.size) ∧ Below wc.heap.size wc w' ∧ LG X w0 w' s r mp mr := by
  obtain ⟨bw, bm, R, ⟨lv, fv, P, Q, _⟩, _⟩ := id h
  refine (robjects_any Q).mono ?_
  rintro e w' ⟨v, rfl, hv, hb⟩
  obtain ⟨A1, c1, rfl, hc1, hn1, hl1, hm1, hob1⟩ := hv.nums
  rw [hn] at hv ⊢
  exact ⟨A1, c1, rfl, hn1, fun b off e => ⟨(hl1 b off e).1, (World.ownsRow.lt hv b (by rw [show (Value.slice A1 n c1).ownBlock = A1.map (·.block) by cases A1 <;> rfl, e]; rfl)).2⟩, hb, h.below hb⟩
theorem ptrs_in {m : Hp} (h : Good m) : ∀ x, x ∈ ptrs m.L → InI x := by
  intro x hx
  unfold ptrs at hx
  obtain ⟨i, _, rfl⟩ := List.mem_map.1 hx
  have := ptr_bd h i
  exact inI_of (by omega) (by omega)
theorem word_any' {w : World} {A : Option Addr} {l : List Int} {n c : Nat} (hA : Nums w A l) (hl : l.length = n) (hn : l.length ≤ 1000000) (i : Int) (hi : InI i) :
    Calls Try.prog 27 #[.slice A n c, .int .i64 i] w fun e w' => e = .returned (.int .i64 (wordV l i)) ∧ w' = w := by subst hl; exact word_any hA hn i hi
end
theorem block_cell5 {w w' : World} {b : Nat} (h : w'.heap[b]? = w.heap[b]?) (o : Nat) : w'.cell? ⟨b, o, none⟩ = w.cell? ⟨b, o, none⟩ := by unfold World.cell?; rw [h]
/-! ### what is made -/
def mk1 (T : Nat → ThT) : Nat → Hp
  | 0 => nilHp 2000
  | i + 1 => (makeV (mk1 T i) 0 (T i).f ((min (T i).n 6 : Nat) : Int)).1
def flds (t : ThT) (o : List Int) (p : Int) (m : Hp) : Nat → Hp
  | 0 => (setClassV m p (wordV o t.c)).1
  | j + 1 => (putV (flds t o p m j) p (j : Int) (wordV o (t.F.getD j 0))).1
def mk2 (T : Nat → ThT) (o : List Int) (m : Hp) : Nat → Hp × Nat
  | 0 => (m, 0)
  | i + 1 => if o.length ≤ (mk2 T o m i).2 then mk2 T o m i else if (T i).f < 0 ∨ 2 < (T i).f then mk2 T o m i else (flds (T i) o (o.getD (mk2 T o m i).2 0) (mk2 T o m i).1 (min (T i).n 6), (mk2 T o m i).2 + 1)
def madeV (T : Nat → ThT) (n : Nat) : Hp := (mk2 T (ptrs (mk1 T (min n 20)).L) (mk1 T (min n 20)) (min n 20)).1
theorem mk2_stop {T : Nat → ThT} {o : List Int} {m : Hp} {i : Nat} (h : o.length ≤ (mk2 T o m i).2) : ∀ d, mk2 T o m (i + d) = mk2 T o m i
  | 0 => rfl
  | d + 1 => by
    have ih := mk2_stop h d
    rw [← Nat.add_assoc]
    show (if o.length ≤ (mk2 T o m (i + d)).2 then mk2 T o m (i + d) else _) = _
    rw [ih, if_pos h]
theorem mk2_le {T : Nat → ThT} {o : List Int} {m : Hp} : ∀ i, (mk2 T o m i).2 ≤ i
  | 0 => Nat.le_refl _
  | i + 1 => by
    have ih := mk2_le (T := T) (o := o) (m := m) i
    unfold mk2
    repeat' split
    all_goals first | omega | (dsimp only; omega)
set_option maxRecDepth 100000 in
set_option maxHeartbeats 16000000 in
theorem things_any {w : World} {A : Option Addr} {n c : Nat} {T : Nat → ThT} (hR : RawT w A n c T) : Calls Try.prog 10 #[.slice A n c] w fun e w' => ∃ s r, e = .returned (.tuple #[.pointer (some ⟨s, 0, none⟩), .pointer (some ⟨r, 0, none⟩), .bool true]) ∧ LG (fun k => k < w.heap.size) w w' s r (madeV T n) (madeV T n) := by
  have HR := Lib.hid hR
  have hcap : n ≤ 9223372036854775807 := Nat.le_trans hR.le hR.cap
  obtain ⟨q, hq⟩ : ∃ q, min n 20 = q := ⟨_, rfl⟩
  have hq20 : q ≤ 20 := by omega
  have hqn : q ≤ n := by omega
  have HQ := Lib.hid hq
  have HMV : Hid (madeV T n = (mk2 T (ptrs (mk1 T q).L) (mk1 T q) q).1) := Lib.hid (by unfold madeV; rw [hq])
  rw [HMV.out]
  clear hR hq
  go_enter Try.func10, Try.ntmps10
  go_upto_block 0 with (first | (go_at_call 23; (with_reducible refine (pnew_any _ 2000 (inI_of (by decide) (by decide))).mono ?_); rintro e w1 ⟨h, B1⟩; rw [if_pos (show okN 2000 = true from rfl)] at h; obtain ⟨s, bw, bm, rfl, qs, P1⟩ := h; have HP1 := Lib.hid P1; have HQ1 := Lib.hid qs; have HB1 := Lib.hid B1; clear P1 qs B1) | (go_at_call 24; (with_reducible refine (new_r (inI_of (by decide) (by decide)) (show okN 2000 = true from rfl) HP1.out HQ1.out HB1.out).mono ?_); rintro e w2 ⟨r, rfl, hst⟩; have HG := Lib.hid hst; clear hst))
  go_cut [] (fun wx => LG (fun k => k < w.heap.size) w wx s r (mk1 T q) (mk1 T q))
  case first =>
    go_wp2_with fail
    go_loopw [7] (fun i wr => ∃ k : Nat, k ≤ q ∧ i = .int .i64 k ∧ LG (fun k => k < w.heap.size) w wr s r (mk1 T k) (mk1 T k)) (fun i _ => q - (intOf i).toNat)
    case atStart => exact ⟨0, Nat.zero_le _, rfl, HG.out⟩
    case round =>
      obtain ⟨k, hk, rfl, hst⟩ := hrel
      replace HG := Lib.hid hst
      clear hst
      by_cases hlt : k < q
      · have d1 : decide (k < n) = true := decide_eq_true (by omega)
        have d2 : decide (k < 20) = true := decide_eq_true (by omega)
        have d3 : decide ((k : Int) < 20) = true := decide_eq_true (by omega)
        have hkn : k < n := by omega
        obtain ⟨g, off, rfl, hgl, e0, e1, e2⟩ := HR.out.at_ k hkn
        obtain ⟨t, ht⟩ : ∃ t, T k = t := ⟨_, rfl⟩
        have HTT := Lib.hid ht
        have HD := Lib.hid (HR.out.each k hkn)
        rw [ht] at e0 e1 e2 HD
        obtain ⟨tc, tf, TA, tn, tk, tF⟩ := t
        dsimp only at e0 e1 e2
        have HCE : Hid (∀ w', Below w.heap.size w w' → w'.cell? ⟨g, off + k * 3, none⟩ = some (.int .i64 tc) ∧ w'.cell? ⟨g, off + k * 3 + 1, none⟩ = some (.int .i64 tf) ∧ w'.cell? ⟨g, off + k * 3 + 2, none⟩ = some (.slice TA tn tk)) := Lib.hid (fun w' hb => ⟨(hb.cell (p := ⟨g, _, none⟩) hgl).trans e0, (hb.cell (p := ⟨g, _, none⟩) hgl).trans e1, (hb.cell (p := ⟨g, _, none⟩) hgl).trans e2⟩)
        clear ht hgl e0 e1 e2
        have hrc : n ≤ c := HR.out.le
        have hnk : tn ≤ tk := HD.out.a.le
        have hkc : tk ≤ 9223372036854775807 := HD.out.a.cap
        have htl : tn ≤ 9223372036854775807 := Nat.le_trans hnk hkc
        have g0 : (0 : Int) ≤ (k : Int) := by omega
        have g1 : (k : Int) < (n : Int) := by omega
        obtain ⟨e0, e1, e2⟩ := HCE.out _ HG.out.stays
        by_cases h6 : 6 < tn
        · have y0 : decide (6 < tn) = true := decide_eq_true h6; have y1 : decide ((6 : Int) < (tn : Int)) = true := decide_eq_true (by omega)
          obtain ⟨N6, hN6⟩ : ∃ N6 : Int, ((min tn 6 : Nat) : Int) = N6 := ⟨_, rfl⟩
          obtain ⟨mm, p, er, hm⟩ : ∃ mm p er, makeV (mk1 T k) 0 tf N6 = (mm, p, er) := ⟨_, _, _, rfl⟩
          have HNE := Lib.hid hN6
          have HM := Lib.hid hm
          have HN6 : Hid (InI N6) := Lib.hid (by rw [← hN6]; exact inI_of (by omega) (by omega))
          have hv6 : N6 = 6 := by omega
          clear hm hN6
          subst hv6
          go_wp2_with (first | (go_at_call 25; (with_reducible refine (g_make HG.out 0 tf _ (inI_of (by decide) (by decide)) HD.out.jf HN6.out).mono ?_); rw [HM.out]; rintro e w3 ⟨rfl, hst, hkp⟩; replace HG := Lib.hid hst; obtain ⟨e0, e1, e2⟩ := HCE.out _ HG.out.stays; clear hst hkp) | (go_at_call 26; (with_reducible refine (gr_make HG.out 0 tf _ (inI_of (by decide) (by decide)) HD.out.jf HN6.out).mono ?_); rw [HM.out]; rintro e w4 ⟨rfl, hst, hkp⟩; replace HG := Lib.hid hst; obtain ⟨e0, e1, e2⟩ := HCE.out _ HG.out.stays; clear hst hkp))
          go_roundw
          case rel => exact ⟨k + 1, by omega, by go_num, by rw [show mk1 T (k + 1) = mm by show (makeV (mk1 T k) 0 (T k).f ((min (T k).n 6 : Nat) : Int)).1 = mm; rw [HTT.out]; dsimp only; rw [HNE.out, HM.out]]; exact HG.out⟩
          case measure => simp [intOf]; omega
        · have y0 : decide (6 < tn) = false := decide_eq_false h6; have y1 : decide ((6 : Int) < (tn : Int)) = false := decide_eq_false (by omega)
          obtain ⟨N6, hN6⟩ : ∃ N6 : Int, ((min tn 6 : Nat) : Int) = N6 := ⟨_, rfl⟩
          obtain ⟨mm, p, er, hm⟩ : ∃ mm p er, makeV (mk1 T k) 0 tf N6 = (mm, p, er) := ⟨_, _, _, rfl⟩
          have HNE := Lib.hid hN6
          have HM := Lib.hid hm
          have HN6 : Hid (InI N6) := Lib.hid (by rw [← hN6]; exact inI_of (by omega) (by omega))
          have hv6 : N6 = (tn : Int) := by omega
          clear hm hN6
          subst hv6
          go_wp2_with (first | (go_at_call 25; (with_reducible refine (g_make HG.out 0 tf _ (inI_of (by decide) (by decide)) HD.out.jf HN6.out).mono ?_); rw [HM.out]; rintro e w3 ⟨rfl, hst, hkp⟩; replace HG := Lib.hid hst; obtain ⟨e0, e1, e2⟩ := HCE.out _ HG.out.stays; clear hst hkp) | (go_at_call 26; (with_reducible refine (gr_make HG.out 0 tf _ (inI_of (by decide) (by decide)) HD.out.jf HN6.out).mono ?_); rw [HM.out]; rintro e w4 ⟨rfl, hst, hkp⟩; replace HG := Lib.hid hst; obtain ⟨e0, e1, e2⟩ := HCE.out _ HG.out.stays; clear hst hkp))
          go_roundw
          case rel => exact ⟨k + 1, by omega, by go_num, by rw [show mk1 T (k + 1) = mm by show (makeV (mk1 T k) 0 (T k).f ((min (T k).n 6 : Nat) : Int)).1 = mm; rw [HTT.out]; dsimp only; rw [HNE.out, HM.out]]; exact HG.out⟩
          case measure => simp [intOf]; omega
      · have hkn : k = q := by omega
        subst hkn
        rcases Nat.lt_or_ge k n with z | z
        · have d1 : decide (k < n) = true := decide_eq_true z
          have hk50 : k = 20 := by have := HQ.out; omega
          have d2 : decide (k < 20) = false := decide_eq_false (by omega)
          have d3 : decide ((k : Int) < 20) = false := decide_eq_false (by omega)
          clear hlt hk50
          go_wp2_with fail
          go_meet
          exact HG.out
        · have d1 : decide (k < n) = false := decide_eq_false (by omega)
          clear hlt
          go_wp2_with fail
          go_meet
          exact HG.out
  case rest =>
    replace HG := Lib.hid hcut
    obtain ⟨m1, hm1⟩ : ∃ m1, mk1 T q = m1 := ⟨_, rfl⟩
    have HM1 := Lib.hid hm1
    rw [hm1] at HG
    obtain ⟨o, ho⟩ : ∃ o, ptrs m1.L = o := ⟨_, rfl⟩
    obtain ⟨pn, hpn⟩ : ∃ pn, o.length = pn := ⟨_, rfl⟩
    have HO := Lib.hid ho
    have HPN0 : Hid ((ptrs m1.L).length = pn) := Lib.hid (by rw [ho]; exact hpn)
    have HPN := Lib.hid hpn
    have HPL : Hid (o.length ≤ 1000000) := Lib.hid (by rw [← ho]; have := len_bd HG.out.goodp; simp [ptrs]; omega)
    have hpb : pn ≤ 1000000 := by rw [← hpn]; exact HPL.out
    have HPI : Hid (∀ x, x ∈ o → InI x) := Lib.hid (by rw [← ho]; exact ptrs_in HG.out.goodp)
    clear hcut hm1 ho hpn
    go_wp2_with (go_at_call 12; (with_reducible refine (gr_objects HG.out HPN0.out).mono ?_); rintro e w5 ⟨A5, c5, rfl, hn5, hx5, hb5, hst⟩; rw [HO.out] at hn5; have HN5 := Lib.hid hn5; obtain ⟨X1, hX1⟩ : ∃ X1 : Nat → Prop, (fun k => k < w.heap.size ∨ (wc.heap.size ≤ k ∧ k < w5.heap.size)) = X1 := ⟨_, rfl⟩; have HX5 : Hid (∀ b off, A5 = some ⟨b, off, none⟩ → X1 b) := Lib.hid (fun b off e => by rw [← hX1]; exact .inr (hx5 b off e)); have HX1 : Hid (∀ k, k < w.heap.size → X1 k) := Lib.hid (fun k h => by rw [← hX1]; exact .inl h); have hg5 := HG.out.more (Y := X1) hb5 (fun k z => by rw [← hX1] at z; exact z) (fun k h => HX1.out k h); replace HG := Lib.hid hg5; clear hn5 hx5 hb5 hst hX1 hg5)
    go_loopw [14, 15] (fun kv i wr => ∃ i0 : Nat, i0 ≤ q ∧ i = .int .i64 i0 ∧ kv = .int .i64 (((mk2 T o m1 i0).2 : Nat) : Int) ∧ LG X1 w wr s r (mk2 T o m1 i0).1 (mk2 T o m1 i0).1 ∧ Keeps X1 w5 wr) (fun _ i _ => q - (intOf i).toNat)
    case atStart => exact ⟨0, Nat.zero_le _, rfl, rfl, HG.out, Keeps.refl⟩
    case round =>
      obtain ⟨k, hk, rfl, rfl, hst, hkp⟩ := hrel
      replace HG := Lib.hid hst
      have HKP := Lib.hid hkp
      have hml := mk2_le (T := T) (o := o) (m := m1) k
      obtain ⟨m0, k0, hmk⟩ : ∃ m0 k0, mk2 T o m1 k = (m0, k0) := ⟨_, _, rfl⟩
      have HMK := Lib.hid hmk
      rw [hmk] at HG hml ⊢
      clear hst hkp hmk
      by_cases hlt : k < q
      · have d1 : decide (k < n) = true := decide_eq_true (by omega)
        have d2 : decide (k < 20) = true := decide_eq_true (by omega)
        have d3 : decide ((k : Int) < 20) = true := decide_eq_true (by omega)
        by_cases hkp : k0 < pn
        · have d4 : decide (k0 < pn) = true := decide_eq_true hkp
          have hkn : k < n := by omega
          obtain ⟨g, off, rfl, hgl, e0, e1, e2⟩ := HR.out.at_ k hkn
          obtain ⟨t, ht⟩ : ∃ t, T k = t := ⟨_, rfl⟩
          have HTT := Lib.hid ht
          have HD := Lib.hid (HR.out.each k hkn)
          rw [ht] at e0 e1 e2 HD
          obtain ⟨tc, tf, TA, tn, tk, tF⟩ := t
          dsimp only at e0 e1 e2
          have HCE : Hid (∀ w', Below w.heap.size w w' → w'.cell? ⟨g, off + k * 3, none⟩ = some (.int .i64 tc) ∧ w'.cell? ⟨g, off + k * 3 + 1, none⟩ = some (.int .i64 tf) ∧ w'.cell? ⟨g, off + k * 3 + 2, none⟩ = some (.slice TA tn tk)) := Lib.hid (fun w' hb => ⟨(hb.cell (p := ⟨g, _, none⟩) hgl).trans e0, (hb.cell (p := ⟨g, _, none⟩) hgl).trans e1, (hb.cell (p := ⟨g, _, none⟩) hgl).trans e2⟩)
          clear ht hgl e0 e1 e2
          have hrc : n ≤ c := HR.out.le
          have hnk : tn ≤ tk := HD.out.a.le
          have hkc : tk ≤ 9223372036854775807 := HD.out.a.cap
          have htl : tn ≤ 9223372036854775807 := Nat.le_trans hnk hkc
          have g0 : (0 : Int) ≤ (k : Int) := by omega
          have g1 : (k : Int) < (n : Int) := by omega
          obtain ⟨e0, e1, e2⟩ := HCE.out _ HG.out.stays
          have HNS : Hid (¬ o.length ≤ (mk2 T o m1 k).2) := Lib.hid (by rw [HMK.out, HPN.out]; dsimp only; omega)
          by_cases hf : tf < 0 ∨ 2 < tf
          · have HS : Hid (mk2 T o m1 (k + 1) = (m0, k0)) := Lib.hid (by
              show (if o.length ≤ (mk2 T o m1 k).2 then mk2 T o m1 k else if (T k).f < 0 ∨ 2 < (T k).f then mk2 T o m1 k else _) = _
              rw [if_neg HNS.out, HTT.out, if_pos hf, HMK.out])
            by_cases hf0 : tf < 0
            · have y0 : decide (tf < 0) = true := decide_eq_true hf0
              clear hf hf0
              go_wp2_with fail
              go_roundw
              case rel => exact ⟨k + 1, by omega, by go_num, by rw [HS.out], by rw [HS.out]; exact HG.out, HKP.out⟩
              case measure => simp [intOf]; omega
            · have y0 : decide (tf < 0) = false := decide_eq_false hf0
              have y1 : decide (2 < tf) = true := decide_eq_true (hf.resolve_left hf0)
              clear hf hf0
              go_wp2_with fail
              go_roundw
              case rel => exact ⟨k + 1, by omega, by go_num, by rw [HS.out], by rw [HS.out]; exact HG.out, HKP.out⟩
              case measure => simp [intOf]; omega
          · have y0 : decide (tf < 0) = false := decide_eq_false (fun z => hf (.inl z))
            have y1 : decide (2 < tf) = false := decide_eq_false (fun z => hf (.inr z))
            have HKL : Hid (k0 < o.length) := Lib.hid (by rw [HPN.out]; exact hkp)
            obtain ⟨p, hp⟩ : ∃ p, o[k0]'HKL.out = p := ⟨_, rfl⟩
            have HP := Lib.hid hp
            obtain ⟨og, ooff, rfl, hol, hoc⟩ := HN5.out k0 HKL.out
            rw [hp] at hoc
            have HOC : Hid (∀ w', Keeps X1 w5 w' → w'.cell? ⟨og, ooff + k0, none⟩ = some (.int .i64 p)) := Lib.hid (fun w' hk' => (block_cell5 (hk'.block (HX5.out og ooff rfl) hol) _).trans hoc)
            have co := HOC.out _ HKP.out
            obtain ⟨t6, ht6⟩ : ∃ t6, min tn 6 = t6 := ⟨_, rfl⟩
            have HT6 := Lib.hid ht6
            have h66 : t6 ≤ 6 := by omega
            have h6n : t6 ≤ tn := by omega
            obtain ⟨tt, htt⟩ : ∃ tt : ThT, (⟨tc, tf, TA, tn, tk, tF⟩ : ThT) = tt := ⟨_, rfl⟩
            have HTQ := Lib.hid htt
            have HS : Hid (mk2 T o m1 (k + 1) = (flds tt o p m0 t6, k0 + 1)) := Lib.hid (by
              show (if o.length ≤ (mk2 T o m1 k).2 then mk2 T o m1 k else if (T k).f < 0 ∨ 2 < (T k).f then mk2 T o m1 k else (flds (T k) o (o.getD (mk2 T o m1 k).2 0) (mk2 T o m1 k).1 (min (T k).n 6), (mk2 T o m1 k).2 + 1)) = _
              rw [if_neg HNS.out, HTT.out, if_neg hf, HMK.out, htt, ← htt]
              dsimp only
              rw [ht6, List.getD_eq_getElem?_getD, List.getElem?_eq_getElem HKL.out]
              simp only [Option.getD_some, hp])
            obtain ⟨x, hx⟩ : ∃ x, wordV o tc = x := ⟨_, rfl⟩
            have HX := Lib.hid hx
            have HXI : Hid (InI x) := Lib.hid (by rw [← hx]; exact wordV_in HPI.out HD.out.ic)
            have H0 : Hid ((setClassV m0 p x).1 = flds tt o p m0 0) := Lib.hid (by rw [← htt, ← hx]; rfl)
            clear hf hp hol hoc ht6 htt hx hkp
            have gk0 : (0 : Int) ≤ (k0 : Int) := by omega
            have gk1 : (k0 : Int) < (pn : Int) := by have := HKL.out; have := HPN.out; omega
            go_wp2_with (first | (go_at_call_of 27 (Value.int .i64 tc); (with_reducible refine (word_any' (HN5.out.keeps HKP.out HX5.out) HPN.out HPL.out tc (HD.out.ic)).mono ?_); rw [HX.out]; rintro e w6 ⟨rfl, hw6⟩; replace hw6 := hw6.symm; subst hw6) | (go_at_call 28; (with_reducible refine (g_setClass HG.out p x HXI.out).mono ?_); rintro e w8 ⟨rfl, hst, hkk⟩; replace HG := Lib.hid hst; replace HKP := Lib.hid (HKP.out.trans hkk); obtain ⟨e0, e1, e2⟩ := HCE.out _ HG.out.stays; have co := HOC.out _ HKP.out; clear hst hkk) | (go_at_call 29; (with_reducible refine (gr_setClass HG.out p x HXI.out).mono ?_); rintro e w8 ⟨rfl, hst, hkk⟩; replace HG := Lib.hid hst; replace HKP := Lib.hid (HKP.out.trans hkk); obtain ⟨e0, e1, e2⟩ := HCE.out _ HG.out.stays; have co := HOC.out _ HKP.out; clear hst hkk))
            have HG0 : Hid (LG X1 w w8 s r (flds tt o p m0 0) (flds tt o p m0 0)) := Lib.hid (by rw [← H0.out]; exact HG.out)
            have HKP0 := Lib.hid HKP.out
            go_loopw [17] (fun i wr => ∃ j : Nat, j ≤ t6 ∧ i = .int .i64 (j : Int) ∧ LG X1 w wr s r (flds tt o p m0 j) (flds tt o p m0 j) ∧ Keeps X1 w5 wr) (fun i _ => t6 - (intOf i).toNat)
            case atStart => exact ⟨0, Nat.zero_le _, rfl, HG0.out, HKP0.out⟩
            case round =>
              clear e0 e1 e2 co
              obtain ⟨j, hj, rfl, hst, hkp⟩ := hrel
              replace HG := Lib.hid hst
              replace HKP := Lib.hid hkp
              clear hst hkp
              obtain ⟨e0, e1, e2⟩ := HCE.out _ HG.out.stays
              have co := HOC.out _ HKP.out
              by_cases hjt : j < t6
              · have y2 : decide (j < tn) = true := decide_eq_true (by omega)
                have y3 : decide (j < 6) = true := decide_eq_true (by omega)
                have y4 : decide ((j : Int) < 6) = true := decide_eq_true (by omega)
                have hjl : j < tF.length := by rw [HD.out.a.len]; dsimp only; omega
                obtain ⟨tg, toff, hTA, htl, htc⟩ := HD.out.a.nums j hjl
                have hTA' : TA = some ⟨tg, toff, none⟩ := hTA
                subst hTA'
                obtain ⟨y, hy⟩ : ∃ y, tF[j] = y := ⟨_, rfl⟩
                rw [hy] at htc
                have HCF : Hid (∀ w', Below w.heap.size w w' → w'.cell? ⟨tg, toff + j, none⟩ = some (.int .i64 y)) := Lib.hid (fun w' hb => (hb.cell (p := ⟨tg, _, none⟩) htl).trans htc)
                have cf := HCF.out _ HG.out.stays
                have HYI : Hid (InI y) := Lib.hid (by rw [← hy]; exact HD.out.a.int _ (List.getElem_mem hjl))
                obtain ⟨z, hz⟩ : ∃ z, wordV o y = z := ⟨_, rfl⟩
                have HZ := Lib.hid hz
                have HZI : Hid (InI z) := Lib.hid (by rw [← hz]; exact wordV_in HPI.out HYI.out)
                have HJI : Hid (InI (j : Int)) := Lib.hid (inI_of (by omega) (by omega))
                have HSJ : Hid ((putV (flds tt o p m0 j) p (j : Int) z).1 = flds tt o p m0 (j + 1)) := Lib.hid (by
                  show _ = (putV (flds tt o p m0 j) p (j : Int) (wordV o (tt.F.getD j 0))).1
                  rw [show tt.F = tF from by rw [← HTQ.out], List.getD_eq_getElem?_getD, List.getElem?_eq_getElem hjl]
                  simp only [Option.getD_some, hy, hz])
                have gj0 : (0 : Int) ≤ (j : Int) := by omega
                have gj1 : (j : Int) < (tn : Int) := by omega
                clear hTA htl htc hy hz hjl
                go_wp2_with (first | (go_at_call_of 27 (Value.int .i64 y); (with_reducible refine (word_any' (HN5.out.keeps HKP.out HX5.out) HPN.out HPL.out y (HYI.out)).mono ?_); rw [HZ.out]; rintro e w6 ⟨rfl, hw6⟩; replace hw6 := hw6.symm; subst hw6) | (go_at_call 30; (with_reducible refine (g_put HG.out p (j : Int) z HJI.out HZI.out).mono ?_); rintro e w8 ⟨rfl, hst, hkk⟩; replace HG := Lib.hid hst; replace HKP := Lib.hid (HKP.out.trans hkk); obtain ⟨e0, e1, e2⟩ := HCE.out _ HG.out.stays; have co := HOC.out _ HKP.out; have cf := HCF.out _ HG.out.stays; clear hst hkk) | (go_at_call 31; (with_reducible refine (gr_put HG.out p (j : Int) z HJI.out HZI.out).mono ?_); rintro e w8 ⟨rfl, hst, hkk⟩; replace HG := Lib.hid hst; replace HKP := Lib.hid (HKP.out.trans hkk); obtain ⟨e0, e1, e2⟩ := HCE.out _ HG.out.stays; have co := HOC.out _ HKP.out; have cf := HCF.out _ HG.out.stays; clear hst hkk))
                go_roundw
                case rel => exact ⟨j + 1, by omega, by go_num, by rw [← HSJ.out]; exact HG.out, HKP.out⟩
                case measure => simp [intOf]; omega
              · have hjn : j = t6 := by omega
                subst hjn
                rcases Nat.lt_or_ge j tn with u | u
                · have y2 : decide (j < tn) = true := decide_eq_true u
                  have hj6 : j = 6 := by have := HT6.out; omega
                  have y3 : decide (j < 6) = false := decide_eq_false (by omega)
                  have y4 : decide ((j : Int) < 6) = false := decide_eq_false (by omega)
                  clear hjt hj6
                  go_wp2_with fail
                  go_roundw
                  case rel => exact ⟨k + 1, by omega, by go_num, by rw [HS.out]; go_num, by rw [HS.out]; exact HG.out, HKP.out⟩
                  case measure => simp [intOf]; omega
                · have y2 : decide (j < tn) = false := decide_eq_false (by omega)
                  clear hjt
                  go_wp2_with fail
                  go_roundw
                  case rel => exact ⟨k + 1, by omega, by go_num, by rw [HS.out]; go_num, by rw [HS.out]; exact HG.out, HKP.out⟩
                  case measure => simp [intOf]; omega
        · have d4 : decide (k0 < pn) = false := decide_eq_false hkp
          have HE : Hid ((mk2 T (ptrs (mk1 T q).L) (mk1 T q) q).1 = m0) := Lib.hid (by
            rw [HM1.out, HO.out]
            have := mk2_stop (T := T) (o := o) (m := m1) (i := k) (by rw [HMK.out, HPN.out]; dsimp only; omega) (q - k)
            rw [show k + (q - k) = q by omega] at this
            rw [this, HMK.out])
          have hrc : n ≤ c := HR.out.le
          go_wp2_with fail
          go_returns
          exact ⟨s, r, rfl, by rw [HE.out]; exact HG.out.less (fun k h => HX1.out k h) (fun k h => h)⟩
      · have hkn : k = q := by omega
        subst hkn
        have HE : Hid ((mk2 T (ptrs (mk1 T k).L) (mk1 T k) k).1 = m0) := Lib.hid (by rw [HM1.out, HO.out, HMK.out])
        rcases Nat.lt_or_ge k n with z | z
        · have d1 : decide (k < n) = true := decide_eq_true z
          have hk50 : k = 20 := by have := HQ.out; omega
          have d2 : decide (k < 20) = false := decide_eq_false (by omega)
          have d3 : decide ((k : Int) < 20) = false := decide_eq_false (by omega)
          clear hlt hk50
          go_wp2_with fail
          go_returns
          exact ⟨s, r, rfl, by rw [HE.out]; exact HG.out.less (fun k h => HX1.out k h) (fun k h => h)⟩
        · have d1 : decide (k < n) = false := decide_eq_false (by omega)
          clear hlt
          go_wp2_with fail
          go_returns
          exact ⟨s, r, rfl, by rw [HE.out]; exact HG.out.less (fun k h => HX1.out k h) (fun k h => h)⟩
end Go.Proofs.Ytfinpgkehjbcpaa
