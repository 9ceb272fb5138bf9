/- Chapter 02: what the statements' arguments hold, and the state of both memories. -/
import Derived.Test.YtpifodfckjphiaaLW5
import Derived.Test.YtpifodfckjphiaaNEW
import Derived.Test.YtpifodfckjphiaaHSound
import Derived.Test.YtpifodfckjphiaaRows
import Derived.ProofKit
import Derived.OpenShut
namespace Go.Proofs.Ytpifodfckjphiaa
open Go.ChangeShapes Go.WideShapes Go.ChangeAt Go.RowKit Go.Deep Go.Joins Go.Maps
set_option linter.unusedVariables false
set_option linter.unusedSimpArgs false

/-- a list of numbers that was handed in -/
structure RawN (w : World) (A : Option Addr) (n c : Nat) (l : List Int) : Prop where
  len : l.length = n
  le : n ≤ c
  cap : c ≤ maxLen
  nums : Nums w A l
  int : ∀ x, x ∈ l → InI x
  lt : ∀ b off, A = some ⟨b, off, none⟩ → 0 < n → b < w.heap.size
/-- a deed -/
structure DeedT where
  k0 : Int
  k1 : Int
  k2 : Int
  k3 : Int
  k4 : Int
  A : Option Addr
  na : Nat
  ca : Nat
  la : List Int
  B : Option Addr
  nb : Nat
  cb : Nat
  lb : List Int
structure IsD (w : World) (t : DeedT) : Prop where
  i1 : InI t.k1
  i2 : InI t.k2
  i3 : InI t.k3
  a : RawN w t.A t.na t.ca t.la
  b : RawN w t.B t.nb t.cb t.lb
/-- deeds that were handed in -/
structure RawD (w : World) (A : Option Addr) (n c : Nat) (T : Nat → DeedT) : Prop where
  le : n ≤ c
  cap : c ≤ maxLen
  at_ : ∀ i, i < n → ∃ b off, A = some ⟨b, off, none⟩ ∧ b < w.heap.size ∧ w.cell? ⟨b, off + i * 7, none⟩ = some (.int .i64 (T i).k0) ∧ w.cell? ⟨b, off + i * 7 + 1, none⟩ = some (.int .i64 (T i).k1) ∧ w.cell? ⟨b, off + i * 7 + 2, none⟩ = some (.int .i64 (T i).k2) ∧ w.cell? ⟨b, off + i * 7 + 3, none⟩ = some (.int .i64 (T i).k3) ∧ w.cell? ⟨b, off + i * 7 + 4, none⟩ = some (.int .i64 (T i).k4) ∧ w.cell? ⟨b, off + i * 7 + 5, none⟩ = some (.slice (T i).A (T i).na (T i).ca) ∧ w.cell? ⟨b, off + i * 7 + 6, none⟩ = some (.slice (T i).B (T i).nb (T i).cb)
  each : ∀ i, i < n → IsD w (T i)
theorem RawN.below {w w' : World} {A : Option Addr} {n c : Nat} {l : List Int} (h : RawN w A n c l) (hb : Below w.heap.size w w') : RawN w' A n c l := ⟨h.len, h.le, h.cap, h.nums.below hb, h.int, fun b off e h0 => Nat.lt_of_lt_of_le (h.lt b off e h0) hb.size⟩
theorem IsD.below {w w' : World} {t : DeedT} (h : IsD w t) (hb : Below w.heap.size w w') : IsD w' t := ⟨h.i1, h.i2, h.i3, h.a.below hb, h.b.below hb⟩
theorem RawD.below {w w' : World} {A : Option Addr} {n c : Nat} {T : Nat → DeedT} (h : RawD w A n c T) (hb : Below w.heap.size w w') : RawD w' A n c T := ⟨h.le, h.cap, fun i hi => by
  obtain ⟨b, off, e, hlt, c0, c1, c2, c3, c4, c5, c6⟩ := h.at_ i hi
  exact ⟨b, off, e, Nat.lt_of_lt_of_le hlt hb.size, (hb.cell (p := ⟨b, _, none⟩) hlt).trans c0, (hb.cell (p := ⟨b, _, none⟩) hlt).trans c1, (hb.cell (p := ⟨b, _, none⟩) hlt).trans c2, (hb.cell (p := ⟨b, _, none⟩) hlt).trans c3, (hb.cell (p := ⟨b, _, none⟩) hlt).trans c4, (hb.cell (p := ⟨b, _, none⟩) hlt).trans c5, (hb.cell (p := ⟨b, _, none⟩) hlt).trans c6⟩, fun i hi => (h.each i hi).below hb⟩
section
variable {H : Type} {enc : TypeId × Value → H} {w : World} {base b0 : Nat} {spare : Nat → Bool} {held : Bool} {r : Go.Reach}
theorem bounds_wf {n : Int} (h : (Lit.int .i64 n).wf = true) : InI n := bounds_i64 h
theorem open_list {fuel : Nat} {cs : List Value} {x : DataW H × List MemPlace} (h : DataW.trod enc Try.prog w base spare held fuel 28 cs = some x) :
    ∃ A n c l, cs = [.slice A n c] ∧ RawN w A n c l := by
  obtain ⟨A, n, c, F, e, hl, hm, hR, hf⟩ := open_nums Try.underlying28 Try.underlying3 (by kernel_rfl) h
  refine ⟨A, n, c, (List.range n).map F, e, by simp, hl, hm, fun k hk => ?_, fun x hx => ?_, fun b off e h0 => ?_⟩
  · have hk' : k < n := by simpa using hk
    obtain ⟨b, off, e1, hlt, hc⟩ := hR (by omega)
    refine ⟨b, off, e1, hlt, ?_⟩
    have := hc k hk' 0 (by omega)
    simpa using this
  · obtain ⟨i, hi, rfl⟩ := List.mem_map.1 hx
    exact bounds_wf (hf i (List.mem_range.1 hi))
  · obtain ⟨b', off', e1, hlt, _⟩ := hR h0
    rw [e1] at e
    cases e
    exact hlt
theorem list_field {fuel : Nat} {v : Value} {x : DataW H × List MemPlace} (h : DataW.trod enc Try.prog w base spare held fuel 28 [v] = some x) :
    ∃ l, v = .slice (addrOf v) (lenOf v) (capOf v) ∧ RawN w (addrOf v) (lenOf v) (capOf v) l := by
  obtain ⟨A, n, c, l, e, hR⟩ := open_list h
  obtain rfl : v = .slice A n c := by simpa using e
  exact ⟨l, rfl, hR⟩
theorem open_nlist {v : Value} {d : DataW H} {p : List MemPlace} (hv : Value.okWide Try.prog w r b0 28 v) (h : DataW.Trod enc Try.prog w base spare held 28 v d p) :
    ∃ A n c l, v = .slice A n c ∧ RawN w A n c l := by
  obtain ⟨a, n, c, rfl⟩ := okWide_slice Try.underlying28 hv
  obtain ⟨fuel, hf⟩ := h
  obtain ⟨A, n', c', l, e, hR⟩ := open_list hf
  simp [Value.cells] at e
  obtain ⟨rfl, rfl, rfl⟩ := e
  exact ⟨_, _, _, l, rfl, hR⟩
theorem open_deeds {v : Value} {d : DataW H} {p : List MemPlace} (hv : Value.okWide Try.prog w r b0 22 v) (h : DataW.Trod enc Try.prog w base spare held 22 v d p) :
    ∃ A n c T, v = .slice A n c ∧ RawD w A n c T := by
  obtain ⟨a, n, c, rfl⟩ := okWide_slice Try.underlying22 hv
  obtain ⟨fuel, hf⟩ := h
  obtain ⟨A, n', c', F, e, hl, hm, hR, hfl⟩ := open_row Try.underlying22 Try.underlying30 (by kernel_rfl) (by kernel_rfl) (by decide) hf
  simp [Value.cells] at e
  obtain ⟨rfl, rfl, rfl⟩ := e
  have hex : ∀ i, i < n → ∃ t : DeedT, IsD w t ∧ F i 0 = .int .i64 t.k0 ∧ F i 1 = .int .i64 t.k1 ∧ F i 2 = .int .i64 t.k2 ∧ F i 3 = .int .i64 t.k3 ∧ F i 4 = .int .i64 t.k4 ∧ F i 5 = .slice t.A t.na t.ca ∧ F i 6 = .slice t.B t.nb t.cb := by
    intro i hi
    obtain ⟨_, _, u0⟩ := hfl i hi 0 _ rfl
    obtain ⟨_, _, u1⟩ := hfl i hi 1 _ rfl
    obtain ⟨_, _, u2⟩ := hfl i hi 2 _ rfl
    obtain ⟨_, _, u3⟩ := hfl i hi 3 _ rfl
    obtain ⟨_, _, u4⟩ := hfl i hi 4 _ rfl
    obtain ⟨_, _, u5⟩ := hfl i hi 5 _ rfl
    obtain ⟨_, _, u6⟩ := hfl i hi 6 _ rfl
    obtain ⟨e0, _⟩ := int_field Try.underlying3 u0
    obtain ⟨e1, w1⟩ := int_field Try.underlying3 u1
    obtain ⟨e2, w2⟩ := int_field Try.underlying3 u2
    obtain ⟨e3, w3⟩ := int_field Try.underlying3 u3
    obtain ⟨e4, _⟩ := int_field Try.underlying3 u4
    obtain ⟨l5, e5, R5⟩ := list_field u5
    obtain ⟨l6, e6, R6⟩ := list_field u6
    exact ⟨⟨intOf (F i 0), intOf (F i 1), intOf (F i 2), intOf (F i 3), intOf (F i 4), addrOf (F i 5), lenOf (F i 5), capOf (F i 5), l5, addrOf (F i 6), lenOf (F i 6), capOf (F i 6), l6⟩, ⟨bounds_wf w1, bounds_wf w2, bounds_wf w3, R5, R6⟩, e0, e1, e2, e3, e4, e5, e6⟩
  have hch : ∃ T : Nat → DeedT, ∀ i, i < n → IsD w (T i) ∧ F i 0 = .int .i64 (T i).k0 ∧ F i 1 = .int .i64 (T i).k1 ∧ F i 2 = .int .i64 (T i).k2 ∧ F i 3 = .int .i64 (T i).k3 ∧ F i 4 = .int .i64 (T i).k4 ∧ F i 5 = .slice (T i).A (T i).na (T i).ca ∧ F i 6 = .slice (T i).B (T i).nb (T i).cb := by
    refine ⟨fun i => if h : i < n then Classical.choose (hex i h) else ⟨0, 0, 0, 0, 0, none, 0, 0, [], none, 0, 0, []⟩, fun i hi => ?_⟩
    exact (by simp only [dif_pos hi]; exact Classical.choose_spec (hex i hi))
  obtain ⟨T, hT⟩ := hch
  refine ⟨_, _, _, T, rfl, hl, hm, fun i hi => ?_, fun i hi => (hT i hi).1⟩
  obtain ⟨b, off, e1, hlt, hc⟩ := hR (by omega)
  obtain ⟨_, f0, f1, f2, f3, f4, f5, f6⟩ := hT i hi
  have key : ∀ j, j < 7 → w.cell? ⟨b, off + i * 7 + j, none⟩ = some (F i j) := fun j hj => hc i hi j hj
  exact ⟨b, off, e1, hlt, (key 0 (by omega)).trans (by rw [f0]), (key 1 (by omega)).trans (by rw [f1]), (key 2 (by omega)).trans (by rw [f2]), (key 3 (by omega)).trans (by rw [f3]), (key 4 (by omega)).trans (by rw [f4]), (key 5 (by omega)).trans (by rw [f5]), (key 6 (by omega)).trans (by rw [f6])⟩
end
/-- both memories answer alike so far; all that was there at the start stays -/
def LSt (w0 wc : World) (s r : Nat) (m : Hp) : Prop := ∃ bw bm R, Duo (fun k => k < w0.heap.size) wc s bw bm r R m m ∧ Below w0.heap.size w0 wc ∧ w0.heap.size ≤ s ∧ Sound m.L
section
variable {w0 wc w' : World} {s r : Nat} {m : Hp}
theorem LSt.stays (h : LSt w0 wc s r m) : Below w0.heap.size w0 wc := by obtain ⟨_, _, _, _, h, _⟩ := h; exact h
theorem LSt.below (h : LSt w0 wc s r m) (hb : Below wc.heap.size wc w') : LSt w0 w' s r m := by
  obtain ⟨bw, bm, R, D, k, q, so⟩ := h
  exact ⟨bw, bm, R, D.below hb, k.trans (hb.mono k.size), q, so⟩
theorem LSt.sound (h : LSt w0 wc s r m) : Sound m.L := by obtain ⟨_, _, _, _, _, _, h⟩ := h; exact h
theorem LSt.drewN (h : LSt w0 wc s r m) (n : Nat) : LSt w0 (wc.drewN n) s r m := h.below (below_drewN (Below.refl _ _) n)
theorem LSt.good (h : LSt w0 wc s r m) : Good m := by obtain ⟨_, _, _, ⟨_, _, P, _⟩, _⟩ := h; exact P.good
theorem new_r {n : Int} (hi : InI n) (hok : okN n = true) {bw bm : Nat} (P : PM wc s bw bm (nilHp n)) (q : w0.heap.size ≤ s ∧ w0.heap.size ≤ bw ∧ w0.heap.size ≤ bm) (hb : Below w0.heap.size w0 wc) :
    Calls Try.prog 11 #[.int .i64 n] wc fun e w' => ∃ r, e = .returned (.pointer (some ⟨r, 0, none⟩)) ∧ LSt w0 w' s r (nilHp n) := by
  refine (rnew_any wc n hi).mono ?_
  rintro e w' ⟨h, B⟩
  rw [if_pos hok] at h
  obtain ⟨rfl, hs, Q⟩ := h
  have := hb.size
  refine ⟨_, rfl, bw, bm, _, ⟨_, _, P.below B, Q, fun k hk he => ?_, fun k hk => ⟨?_, ?_, ?_⟩⟩, hb.trans (B.mono hb.size), q.1, sound_nil⟩
  · have := P.lt k hk
    have he' : k = wc.heap.size := he
    omega
  · have hk' : k < w0.heap.size := hk
    rintro (z | z | z) <;> omega
  · have hk' : k < w0.heap.size := hk
    show k ≠ _
    omega
  · have hk' : k < w0.heap.size := hk
    omega
theorem does_law (h : LSt w0 wc s r m) {t : DeedT} (hd : IsD w0 t) :
    Calls Try.prog 12 #[.pointer (some ⟨s, 0, none⟩), .pointer (some ⟨r, 0, none⟩), .agg #[.int .i64 t.k0, .int .i64 t.k1, .int .i64 t.k2, .int .i64 t.k3, .int .i64 t.k4, .slice t.A t.na t.ca, .slice t.B t.nb t.cb]] wc fun e w' => e = .returned (.bool true) ∧ LSt w0 w' s r (stepV m t.k0 t.k1 t.k2 t.k3 t.la t.lb) := by
  have hg := h.good
  obtain ⟨bw, bm, R, D, hb, q, so⟩ := h
  have hA := hd.a.below hb
  have hB := hd.b.below hb
  refine (does_any D hd.i1 hd.i2 hd.i3 hA.nums hB.nums hA.int hB.int (by rw [hA.len]; exact Nat.le_trans hA.le hA.cap) (by rw [hB.len]; exact Nat.le_trans hB.le hB.cap) hA.len hB.len (fun b off e z => hd.a.lt b off e (by rw [← hA.len]; exact z)) (fun b off e z => hd.b.lt b off e (by rw [← hB.len]; exact z))).mono ?_
  rintro e w' ⟨rfl, bm', R', D', K'⟩
  exact ⟨rfl, bw, bm', R', D', hb.trans (K'.below (fun k hk => hk) hb.size), q, sound_step hg so _ _ _ _ _ _⟩
theorem like_law (h : LSt w0 wc s r m) : Calls Try.prog 26 #[.pointer (some ⟨s, 0, none⟩), .pointer (some ⟨r, 0, none⟩)] wc fun e w' => e = .returned (.bool true) ∧ LSt w0 w' s r m := by
  obtain ⟨bw, bm, R, D, hb, q, so⟩ := h
  refine (like_any D).mono ?_
  rintro e w' ⟨rfl, hb'⟩
  exact ⟨rfl, LSt.below ⟨bw, bm, R, D, hb, q, so⟩ hb'⟩
end
end Go.Proofs.Ytpifodfckjphiaa
