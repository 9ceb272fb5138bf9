/- Chapter 18: instructions done one after the other. -/
import Derived.Test.YtjiidjcehhdnbaaFW5
import Derived.Test.YtjiidjcehhdnbaaFW18
import Derived.LoopN
namespace Go.Proofs.Ytjiidjcehhdnbaa
open Go.ChangeShapes Go.WideShapes Go.ChangeAt Go.RowKit Go.Deep Go.Joins
set_option linter.unusedVariables false
set_option linter.unusedSimpArgs false
section
variable {w0 w : World} {LA : Option Addr} {ln lc : Nat} {CA : Option Addr} {cn cc : Nat} {L : Nat → LitR} {C : Nat → InsR} {s : ByteArray} {x0 x1 x2 : Int} {TA : Option Addr} {tn tc : Nat} {TF : Nat → Int} {FA : Option Addr} {fn fc : Nat} {FF : Nat → Int} {self : Int}

/-- what Done tells -/
def DonePost (w : World) (v : Eff) (e : Ending) (w' : World) : Prop :=
  ∃ A cap, e = .returned (.tuple #[.agg #[.int .i64 v.dst, .slice A v.push.length cap, .int .i64 v.temp, .int .i64 v.val], .bool v.ok]) ∧ Row w' A v.push.length 1 (fun i _ => .int .i64 (v.push.getD i 0)) ∧ Below w.heap.size w w'
/-- Done's own boxes, and the static memory, at a round -/
structure Bx (w0 w : World) (M : Array Value) (t v : Int) (c : World) : Prop where
  b0 : Below w0.heap.size w0 c
  bw : Below w.heap.size w c
  lt : w.heap.size + 1 + 1 < c.heap.size
  m : ∀ j u, M[j]? = some u → c.cell? ⟨w.heap.size, j, none⟩ = some u
  r0 : c.cell? ⟨w.heap.size + 1, 0, none⟩ = some (.int .i64 0)
  r1 : c.cell? ⟨w.heap.size + 1, 1, none⟩ = some (.slice none 0 0)
  r2 : c.cell? ⟨w.heap.size + 1, 2, none⟩ = some (.int .i64 0)
  r3 : c.cell? ⟨w.heap.size + 1, 3, none⟩ = some (.int .i64 0)
  o0 : c.cell? ⟨w.heap.size + 1 + 1, 0, none⟩ = some (.int .i64 0)
  o1 : c.cell? ⟨w.heap.size + 1 + 1, 1, none⟩ = some (.slice none 0 0)
  o2 : c.cell? ⟨w.heap.size + 1 + 1, 2, none⟩ = some (.int .i64 t)
  o3 : c.cell? ⟨w.heap.size + 1 + 1, 3, none⟩ = some (.int .i64 v)
  fr : ∀ b j, w.heap.size ≤ b → b ≤ w.heap.size + 1 + 1 → c.frozen? ⟨b, j, none⟩ = false
theorem Bx.step' {M : Array Value} {t v : Int} {c d : World} (h : Bx w0 w M t v c) (k : Below (w.heap.size + 1 + 1 + 1) c d) (h0 : w0.heap.size ≤ w.heap.size) : Bx w0 w M t v d := by
  have lt := h.lt
  have cc : ∀ b o u, b ≤ w.heap.size + 1 + 1 → c.cell? ⟨b, o, none⟩ = some u → d.cell? ⟨b, o, none⟩ = some u := fun b o u hb hc => (k.cell (p := ⟨b, o, none⟩) (by show b < _; omega)).trans hc
  exact ⟨h.b0.trans (k.mono (by omega)), h.bw.trans (k.mono (by omega)), Nat.lt_of_lt_of_le h.lt k.size, fun j u hu => cc _ _ _ (by omega) (h.m j u hu),
    cc _ _ _ (by omega) h.r0, cc _ _ _ (by omega) h.r1, cc _ _ _ (by omega) h.r2, cc _ _ _ (by omega) h.r3, cc _ _ _ (by omega) h.o0, cc _ _ _ (by omega) h.o1, cc _ _ _ (by omega) h.o2, cc _ _ _ (by omega) h.o3,
    fun b j h1 h2 => (k.frozen (p := ⟨b, j, none⟩) (by show b < _; omega)).trans (h.fr b j h1 h2)⟩
theorem Bx.step {M : Array Value} {t v : Int} {c d : World} (h : Bx w0 w M t v c) (k : Below c.heap.size c d) (h0 : w0.heap.size ≤ w.heap.size) : Bx w0 w M t v d := h.step' (k.mono (by have := h.lt; omega)) h0
theorem Bx.set2 {M : Array Value} {t v : Int} {c : World} (h : Bx w0 w M t v c) (x : Int) (h0 : w0.heap.size ≤ w.heap.size) : Bx w0 w M x v (c.setCell ⟨w.heap.size + 1 + 1, 2, none⟩ (.int .i64 x)) := by
  have lt := h.lt
  have k : Below w.heap.size w (c.setCell ⟨w.heap.size + 1 + 1, 2, none⟩ (.int .i64 x)) := by have := h.bw; (repeat' (first | (with_reducible exact Below.refl _ _) | (with_reducible assumption) | (with_reducible refine below_drewN ?_ _) | (with_reducible refine Below.alloc ?_ ?_ _) | (with_reducible refine Below.drew ?_) | (with_reducible refine Below.setCell ?_ ?_ _) | go_size))
  have k0 : Below w0.heap.size w0 (c.setCell ⟨w.heap.size + 1 + 1, 2, none⟩ (.int .i64 x)) := by have := h.b0; (repeat' (first | (with_reducible exact Below.refl _ _) | (with_reducible assumption) | (with_reducible refine below_drewN ?_ _) | (with_reducible refine Below.alloc ?_ ?_ _) | (with_reducible refine Below.drew ?_) | (with_reducible refine Below.setCell ?_ ?_ _) | go_size))
  have o : ∀ b j' u, (b ≠ w.heap.size + 1 + 1 ∨ j' ≠ 2) → c.cell? ⟨b, j', none⟩ = some u → (c.setCell ⟨w.heap.size + 1 + 1, 2, none⟩ (.int .i64 x)).cell? ⟨b, j', none⟩ = some u := fun b j' u hne hc => by
    rw [World.cell?_setCell_other _ _ _ _ (fun e => by simp at e; omega)]; exact hc
  exact ⟨k0, k, by simpa using h.lt, fun j' u hu => o _ _ _ (by omega) (h.m j' u hu), o _ _ _ (by omega) h.r0, o _ _ _ (by omega) h.r1, o _ _ _ (by omega) h.r2, o _ _ _ (by omega) h.r3, o _ _ _ (by omega) h.o0, o _ _ _ (by omega) h.o1, World.cell?_setCell_same _ _ _ h.o2, o _ _ _ (by omega) h.o3,
    fun b j' h1 h2 => by rw [World.frozen?_setCell]; exact h.fr b j' h1 h2⟩
theorem Bx.set3 {M : Array Value} {t v : Int} {c : World} (h : Bx w0 w M t v c) (x : Int) (h0 : w0.heap.size ≤ w.heap.size) : Bx w0 w M t x (c.setCell ⟨w.heap.size + 1 + 1, 3, none⟩ (.int .i64 x)) := by
  have lt := h.lt
  have k : Below w.heap.size w (c.setCell ⟨w.heap.size + 1 + 1, 3, none⟩ (.int .i64 x)) := by have := h.bw; (repeat' (first | (with_reducible exact Below.refl _ _) | (with_reducible assumption) | (with_reducible refine below_drewN ?_ _) | (with_reducible refine Below.alloc ?_ ?_ _) | (with_reducible refine Below.drew ?_) | (with_reducible refine Below.setCell ?_ ?_ _) | go_size))
  have k0 : Below w0.heap.size w0 (c.setCell ⟨w.heap.size + 1 + 1, 3, none⟩ (.int .i64 x)) := by have := h.b0; (repeat' (first | (with_reducible exact Below.refl _ _) | (with_reducible assumption) | (with_reducible refine below_drewN ?_ _) | (with_reducible refine Below.alloc ?_ ?_ _) | (with_reducible refine Below.drew ?_) | (with_reducible refine Below.setCell ?_ ?_ _) | go_size))
  have o : ∀ b j' u, (b ≠ w.heap.size + 1 + 1 ∨ j' ≠ 3) → c.cell? ⟨b, j', none⟩ = some u → (c.setCell ⟨w.heap.size + 1 + 1, 3, none⟩ (.int .i64 x)).cell? ⟨b, j', none⟩ = some u := fun b j' u hne hc => by
    rw [World.cell?_setCell_other _ _ _ _ (fun e => by simp at e; omega)]; exact hc
  exact ⟨k0, k, by simpa using h.lt, fun j' u hu => o _ _ _ (by omega) (h.m j' u hu), o _ _ _ (by omega) h.r0, o _ _ _ (by omega) h.r1, o _ _ _ (by omega) h.r2, o _ _ _ (by omega) h.r3, o _ _ _ (by omega) h.o0, o _ _ _ (by omega) h.o1, o _ _ _ (by omega) h.o2, World.cell?_setCell_same _ _ _ h.o3,
    fun b j' h1 h2 => by rw [World.frozen?_setCell]; exact h.fr b j' h1 h2⟩
theorem info3 : (Try.prog.info? 3).map (fun i => (i.zero, i.size, i.bytes)) = some (some (.int .i64 0), 1, 8) := by kernel_rfl
def mArr : ByteArray → Int → Int → Int → Option Addr → Nat → Nat → Option Addr → Nat → Nat → Array Value := fun s x0 x1 x2 LA ln lc CA cn cc => #[.string s, .int .i64 x0, .int .i64 x1, .int .i64 x2, .slice LA ln lc, .slice CA cn cc]
set_option maxRecDepth 100000 in
set_option maxHeartbeats 8000000 in
theorem done_move (hM : IsM w0 LA ln CA cn L C) (hT : Words w0 TA tn TF) (hF : Words w0 FA fn FF) (hB : Below w0.heap.size w0 w) (q : Nat) (hq : q + 3 ≤ cn)
    (a : Int) (ho : opndV ln L cn C self tn TF fn FF q = (a, true)) (j1 j2 : InsR) (hj1 : C (q + 1) = j1) (hj2 : C (q + 2) = j2) (h10 : j1.op = 10) (h12 : j2.op = 12)
    (a1 : Int) (ho1 : opndV ln L cn C self tn TF fn FF ((q : Int) + 1) = (a1, false)) (a2 : Int) (ho2 : opndV ln L cn C self tn TF fn FF ((q : Int) + 2) = (a2, false)) :
    Calls Try.prog 17 #[.agg #[.string s, .int .i64 x0, .int .i64 x1, .int .i64 x2, .slice LA ln lc, .slice CA cn cc], .int .i64 q, .int .i64 3, .int .i64 self, .slice TA tn tc, .slice FA fn fc] w (DonePost w ⟨q + 3, [], j1.a, a, true⟩) := by
  obtain ⟨i0, hi, hz0, hz1, hz2⟩ := info_parts info3
  have h0 := hB.size
  have hcn := hM.cn_le
  have hq' : q ≤ 1000 := by omega
  have HO := Lib.hid ho
  have HO1 := Lib.hid ho1
  have HO2 := Lib.hid (show opndV ln L cn C self tn TF fn FF ((q : Int) + 1 + 1) = (a2, false) by rw [show (q : Int) + 1 + 1 = (q : Int) + 2 by omega]; exact ho2)
  have hX : Bx w0 w #[.string s, .int .i64 x0, .int .i64 x1, .int .i64 x2, .slice LA ln lc, .slice CA cn cc] (-1) 0 (((w.alloc (.cells #[.string s, .int .i64 x0, .int .i64 x1, .int .i64 x2, .slice LA ln lc, .slice CA cn cc] 25)).alloc (.cells #[.int .i64 0, .slice none 0 0, .int .i64 0, .int .i64 0] 48)).alloc (.cells #[.int .i64 0, .slice none 0 0, .int .i64 (-1), .int .i64 0] 48)) := by
    have cc : ∀ j u, (#[.string s, .int .i64 x0, .int .i64 x1, .int .i64 x2, .slice LA ln lc, .slice CA cn cc] : Array Value)[j]? = some u → (((w.alloc (.cells #[.string s, .int .i64 x0, .int .i64 x1, .int .i64 x2, .slice LA ln lc, .slice CA cn cc] 25)).alloc (.cells #[.int .i64 0, .slice none 0 0, .int .i64 0, .int .i64 0] 48)).alloc (.cells #[.int .i64 0, .slice none 0 0, .int .i64 (-1), .int .i64 0] 48)).cell? ⟨w.heap.size, j, none⟩ = some u := by
      intro j u hu
      simpa [go_sem] using hu
    refine ⟨?_, ?_, by simp only [World.size_alloc, World.size_setCell, World.size_drew, size_drewN]; omega, cc, ?_, ?_, ?_, ?_, ?_, ?_, ?_, ?_, ?_⟩
    · have hS := hB.size; (repeat' (first | (with_reducible exact Below.refl _ _) | (with_reducible assumption) | (with_reducible refine below_drewN ?_ _) | (with_reducible refine Below.alloc ?_ ?_ _) | (with_reducible refine Below.drew ?_) | (with_reducible refine Below.setCell ?_ ?_ _) | go_size))
    · (repeat' (first | (with_reducible exact Below.refl _ _) | (with_reducible assumption) | (with_reducible refine below_drewN ?_ _) | (with_reducible refine Below.alloc ?_ ?_ _) | (with_reducible refine Below.drew ?_) | (with_reducible refine Below.setCell ?_ ?_ _) | go_size))
    all_goals (try (simp [go_sem]; done))
    intro b j h1 h2
    rcases (show b = w.heap.size ∨ b = w.heap.size + 1 ∨ b = w.heap.size + 1 + 1 by omega) with rfl | rfl | rfl <;> simp [go_sem]
  clear ho ho1 ho2
  obtain ⟨b, off, rfl, hlt, c0, c1, c2⟩ := hM.ins hB (k := q) (by omega)
  clear hlt c0 c1 c2
  go_enter Try.func17, Try.ntmps17
  go_wp2_with fail
  refine wp_loop_rounds 4 ?_
  rw [rounds_succ]
  go_wp2_with (first | (go_at_call 20; (with_reducible refine (ropnd_any hM hT hF (Below.trans' hX.b0 (by (repeat' (first | (with_reducible exact Below.refl _ _) | (with_reducible assumption) | (with_reducible refine below_drewN ?_ _) | (with_reducible refine Below.alloc ?_ ?_ _) | (with_reducible refine Below.drew ?_) | (with_reducible refine Below.setCell ?_ ?_ _) | go_size)))) _).mono ?_); rw [HO.out]; rintro e w2 ⟨rfl, hb⟩; replace hX := hX.step hb h0; (try clear b0 bw lt m m0 m1 m2 m3 m4 m5 r0 r1 r2 r3 o0 o1 o2 o3 fr hl0 hl1 hl2 ff0 ff1 ff2 ff3 fe0 fe1 fe2 fe3); clear hb; have hX' := hX; obtain ⟨b0, bw, lt, m, r0, r1, r2, r3, o0, o1, o2, o3, fr⟩   := hX'; have m0 := m 0 _ rfl; have m1 := m 1 _ rfl; have m2 := m 2 _ rfl; have m3 := m 3 _ rfl; have m4 := m 4 _ rfl; have m5 := m 5 _ rfl; have hl0 := Nat.lt_trans (Nat.lt_succ_self _) (Nat.lt_trans (Nat.lt_succ_self _) lt); have hl1 := Nat.lt_trans (Nat.lt_succ_self _) lt; have hl2 := lt; have ff0 := fr (w.heap.size + 1 + 1) 0 (by omega) (by omega); have ff1 := fr (w.heap.size + 1 + 1) 1 (by omega) (by omega); have ff2 := fr (w.heap.size + 1 + 1) 2 (by omega) (by omega); have ff3 := fr (w.heap.size + 1 + 1) 3 (by omega) (by omega); have fe0 := fr (w.heap.size + 1) 0 (by omega) (by omega); have fe1 := fr (w.heap.size + 1) 1 (by omega) (by omega); have fe2 := fr (w.heap.size + 1) 2 (by omega) (by omega); have fe3 := fr (w.heap.size + 1) 3 (by omega) (by omega)) | (at_builtin; refine wpList_append_own _ rfl _ _ 36 rfl (w.heap.size + 1 + 1 + 1) 3 i0 (.int .i64 0) 1 8 Try.underlying36 hi hz0 hz1 hz2 rfl (by decide) _ _ _ rfl ((World.ownsRow_nil _ _ _ _).alloc _) ⟨w2.heap.size, 0, none⟩ 1 1 [.int .i64 a] rfl rfl (cells_new _ _ _) (by simp [Value.oneCell']) (by unfold maxLen; omega) (by omega) (by simp only [World.size_alloc]; omega) ?_; intro v2 w3 hown2 hg2 _; replace hX := (hX.step (show Below _ _ (w2.alloc (.cells #[.int .i64 a] 3)) by (repeat' (first | (with_reducible exact Below.refl _ _) | (with_reducible assumption) | (with_reducible refine below_drewN ?_ _) | (with_reducible refine Below.alloc ?_ ?_ _) | (with_reducible refine Below.drew ?_) | (with_reducible refine Below.setCell ?_ ?_ _) | go_size))) h0).step' (below_of_append ((World.ownsRow_nil w2 (w.heap.size + 1 + 1 + 1) 3 1).alloc _) hg2 (by have := hX.lt; simp only [World.size_alloc]; omega)) h0))
  obtain ⟨g, cap, rfl, hg, hc1, hcm⟩ := own_one_shape hown2
  have hne : g ≠ w.heap.size + 1 + 1 := by omega
  have hne' := hne.symm
  (try clear b0 bw lt m m0 m1 m2 m3 m4 m5 r0 r1 r2 r3 o0 o1 o2 o3 fr hl0 hl1 hl2 ff0 ff1 ff2 ff3 fe0 fe1 fe2 fe3)
  have hX' := hX; obtain ⟨b0, bw, lt, m, r0, r1, r2, r3, o0, o1, o2, o3, fr⟩   := hX'; have m0 := m 0 _ rfl; have m1 := m 1 _ rfl; have m2 := m 2 _ rfl; have m3 := m 3 _ rfl; have m4 := m 4 _ rfl; have m5 := m 5 _ rfl; have hl0 := Nat.lt_trans (Nat.lt_succ_self _) (Nat.lt_trans (Nat.lt_succ_self _) lt); have hl1 := Nat.lt_trans (Nat.lt_succ_self _) lt; have hl2 := lt; have ff0 := fr (w.heap.size + 1 + 1) 0 (by omega) (by omega); have ff1 := fr (w.heap.size + 1 + 1) 1 (by omega) (by omega); have ff2 := fr (w.heap.size + 1 + 1) 2 (by omega) (by omega); have ff3 := fr (w.heap.size + 1 + 1) 3 (by omega) (by omega); have fe0 := fr (w.heap.size + 1) 0 (by omega) (by omega); have fe1 := fr (w.heap.size + 1) 1 (by omega) (by omega); have fe2 := fr (w.heap.size + 1) 2 (by omega) (by omega); have fe3 := fr (w.heap.size + 1) 3 (by omega) (by omega)
  have HJ1 := Lib.hid hj1
  have HJ2 := Lib.hid (show C (q + 1 + 1) = j2 from hj2)
  clear hj1 hj2
  rw [rounds_succ]
  go_wp2_with (go_at_call 20; (with_reducible refine (ropnd_any hM hT hF (Below.trans' hX.b0 (by (repeat' (first | (with_reducible exact Below.refl _ _) | (with_reducible assumption) | (with_reducible refine below_drewN ?_ _) | (with_reducible refine Below.alloc ?_ ?_ _) | (with_reducible refine Below.drew ?_) | (with_reducible refine Below.setCell ?_ ?_ _) | go_size)))) _).mono ?_); rw [HO1.out]; rintro e w4 ⟨rfl, hb⟩; replace hX := hX.step hb h0; (try clear s0 hgl); have hown2 := ownsRow_below hown2 hb; have s0 := (hown2.cellAt 0 (by simp)).trans rfl; have hgl := cell_lt s0; (try clear b0 bw lt m m0 m1 m2 m3 m4 m5 r0 r1 r2 r3 o0 o1 o2 o3 fr hl0 hl1 hl2 ff0 ff1 ff2 ff3 fe0 fe1 fe2 fe3); (try clear c0 c1 c2 hlt); clear hb; have hX' := hX; obtain ⟨b0, bw, lt, m, r0, r1, r2, r3, o0, o1, o2, o3, fr⟩   := hX'; have m0 := m 0 _ rfl; have m1 := m 1 _ rfl; have m2 := m 2 _ rfl; have m3 := m 3 _ rfl; have m4 := m 4 _ rfl; have m5 := m 5 _ rfl; have hl0 := Nat.lt_trans (Nat.lt_succ_self _) (Nat.lt_trans (Nat.lt_succ_self _) lt); have hl1 := Nat.lt_trans (Nat.lt_succ_self _) lt; have hl2 := lt; have ff0 := fr (w.heap.size + 1 + 1) 0 (by omega) (by omega); have ff1 := fr (w.heap.size + 1 + 1) 1 (by omega) (by omega); have ff2 := fr (w.heap.size + 1 + 1) 2 (by omega) (by omega); have ff3 := fr (w.heap.size + 1 + 1) 3 (by omega) (by omega); have fe0 := fr (w.heap.size + 1) 0 (by omega) (by omega); have fe1 := fr (w.heap.size + 1) 1 (by omega) (by omega); have fe2 := fr (w.heap.size + 1) 2 (by omega) (by omega); have fe3 := fr (w.heap.size + 1) 3 (by omega) (by omega); obtain ⟨b', off', eb, hlt, c0, c1, c2⟩ := hM.ins hX.b0 (k := q + 1) (by omega); cases eb; rw [HJ1.out] at c0 c1 c2; rw [h10] at c0)
  have hX2 := ((hX.set2 j1.a h0).set3 a h0).step (d := (((w4.setCell ⟨w.heap.size + 1 + 1, 2, none⟩ (.int .i64 j1.a)).setCell ⟨w.heap.size + 1 + 1, 3, none⟩ (.int .i64 a)).alloc (.cells #[.int .i64 10, .int .i64 j1.a, .int .i64 j1.b] 56))) (by (repeat' (first | (with_reducible exact Below.refl _ _) | (with_reducible assumption) | (with_reducible refine below_drewN ?_ _) | (with_reducible refine Below.alloc ?_ ?_ _) | (with_reducible refine Below.drew ?_) | (with_reducible refine Below.setCell ?_ ?_ _) | go_size))) h0
  have hown3 := (own_setCell (own_setCell hown2 (b := w.heap.size + 1 + 1) (o := 2) (.int .i64 j1.a) (by omega)) (b := w.heap.size + 1 + 1) (o := 3) (.int .i64 a) (by omega)).alloc (.cells #[.int .i64 10, .int .i64 j1.a, .int .i64 j1.b] 56)
  clear hX hown2 s0 hgl c0 c1 c2 hlt
  (try clear b0 bw lt m m0 m1 m2 m3 m4 m5 r0 r1 r2 r3 o0 o1 o2 o3 fr hl0 hl1 hl2 ff0 ff1 ff2 ff3 fe0 fe1 fe2 fe3)
  obtain ⟨hX, hown2⟩ := And.intro hX2 hown3
  clear hX2 hown3
  have hX' := hX; obtain ⟨b0, bw, lt, m, r0, r1, r2, r3, o0, o1, o2, o3, fr⟩   := hX'; have m0 := m 0 _ rfl; have m1 := m 1 _ rfl; have m2 := m 2 _ rfl; have m3 := m 3 _ rfl; have m4 := m 4 _ rfl; have m5 := m 5 _ rfl; have hl0 := Nat.lt_trans (Nat.lt_succ_self _) (Nat.lt_trans (Nat.lt_succ_self _) lt); have hl1 := Nat.lt_trans (Nat.lt_succ_self _) lt; have hl2 := lt; have ff0 := fr (w.heap.size + 1 + 1) 0 (by omega) (by omega); have ff1 := fr (w.heap.size + 1 + 1) 1 (by omega) (by omega); have ff2 := fr (w.heap.size + 1 + 1) 2 (by omega) (by omega); have ff3 := fr (w.heap.size + 1 + 1) 3 (by omega) (by omega); have fe0 := fr (w.heap.size + 1) 0 (by omega) (by omega); have fe1 := fr (w.heap.size + 1) 1 (by omega) (by omega); have fe2 := fr (w.heap.size + 1) 2 (by omega) (by omega); have fe3 := fr (w.heap.size + 1) 3 (by omega) (by omega)
  rw [rounds_succ]
  go_wp2_with (go_at_call 20; (with_reducible refine (ropnd_any hM hT hF (Below.trans' hX.b0 (by (repeat' (first | (with_reducible exact Below.refl _ _) | (with_reducible assumption) | (with_reducible refine below_drewN ?_ _) | (with_reducible refine Below.alloc ?_ ?_ _) | (with_reducible refine Below.drew ?_) | (with_reducible refine Below.setCell ?_ ?_ _) | go_size)))) _).mono ?_); rw [HO2.out]; rintro e w5 ⟨rfl, hb⟩; replace hX := hX.step hb h0; (try clear s0 hgl); have hown2 := ownsRow_below hown2 hb; have s0 := (hown2.cellAt 0 (by simp)).trans rfl; have hgl := cell_lt s0; (try clear b0 bw lt m m0 m1 m2 m3 m4 m5 r0 r1 r2 r3 o0 o1 o2 o3 fr hl0 hl1 hl2 ff0 ff1 ff2 ff3 fe0 fe1 fe2 fe3); (try clear c0 c1 c2 hlt); clear hb; have hX' := hX; obtain ⟨b0, bw, lt, m, r0, r1, r2, r3, o0, o1, o2, o3, fr⟩   := hX'; have m0 := m 0 _ rfl; have m1 := m 1 _ rfl; have m2 := m 2 _ rfl; have m3 := m 3 _ rfl; have m4 := m 4 _ rfl; have m5 := m 5 _ rfl; have hl0 := Nat.lt_trans (Nat.lt_succ_self _) (Nat.lt_trans (Nat.lt_succ_self _) lt); have hl1 := Nat.lt_trans (Nat.lt_succ_self _) lt; have hl2 := lt; have ff0 := fr (w.heap.size + 1 + 1) 0 (by omega) (by omega); have ff1 := fr (w.heap.size + 1 + 1) 1 (by omega) (by omega); have ff2 := fr (w.heap.size + 1 + 1) 2 (by omega) (by omega); have ff3 := fr (w.heap.size + 1 + 1) 3 (by omega) (by omega); have fe0 := fr (w.heap.size + 1) 0 (by omega) (by omega); have fe1 := fr (w.heap.size + 1) 1 (by omega) (by omega); have fe2 := fr (w.heap.size + 1) 2 (by omega) (by omega); have fe3 := fr (w.heap.size + 1) 3 (by omega) (by omega); obtain ⟨b', off', eb, hlt, c0, c1, c2⟩ := hM.ins hX.b0 (k := q + 1 + 1) (by omega); cases eb; rw [HJ2.out] at c0 c1 c2; rw [h12] at c0)
  have hX2 := hX.step (d := w5.alloc (.cells #[.int .i64 12, .int .i64 j2.a, .int .i64 j2.b] 56)) (by (repeat' (first | (with_reducible exact Below.refl _ _) | (with_reducible assumption) | (with_reducible refine below_drewN ?_ _) | (with_reducible refine Below.alloc ?_ ?_ _) | (with_reducible refine Below.drew ?_) | (with_reducible refine Below.setCell ?_ ?_ _) | go_size))) h0
  clear hX hown2 s0 hgl c0 c1 c2 hlt
  (try clear b0 bw lt m m0 m1 m2 m3 m4 m5 r0 r1 r2 r3 o0 o1 o2 o3 fr hl0 hl1 hl2 ff0 ff1 ff2 ff3 fe0 fe1 fe2 fe3)
  obtain ⟨hX, _⟩ := And.intro hX2 trivial
  clear hX2
  have hX' := hX; obtain ⟨b0, bw, lt, m, r0, r1, r2, r3, o0, o1, o2, o3, fr⟩   := hX'; have m0 := m 0 _ rfl; have m1 := m 1 _ rfl; have m2 := m 2 _ rfl; have m3 := m 3 _ rfl; have m4 := m 4 _ rfl; have m5 := m 5 _ rfl; have hl0 := Nat.lt_trans (Nat.lt_succ_self _) (Nat.lt_trans (Nat.lt_succ_self _) lt); have hl1 := Nat.lt_trans (Nat.lt_succ_self _) lt; have hl2 := lt; have ff0 := fr (w.heap.size + 1 + 1) 0 (by omega) (by omega); have ff1 := fr (w.heap.size + 1 + 1) 1 (by omega) (by omega); have ff2 := fr (w.heap.size + 1 + 1) 2 (by omega) (by omega); have ff3 := fr (w.heap.size + 1 + 1) 3 (by omega) (by omega); have fe0 := fr (w.heap.size + 1) 0 (by omega) (by omega); have fe1 := fr (w.heap.size + 1) 1 (by omega) (by omega); have fe2 := fr (w.heap.size + 1) 2 (by omega) (by omega); have fe3 := fr (w.heap.size + 1) 3 (by omega) (by omega)
  rw [rounds_succ]
  go_wp2_with fail
  refine bodyPost_ret (v := .tuple #[.agg #[.int .i64 ((q : Int) + 1 + 1 + 1), .slice (some ⟨g, 0, none⟩) 0 cap, .int .i64 j1.a, .int .i64 a], .bool true]) (by simp [results, Try.results17, go_sem, *]) rfl ⟨some ⟨g, 0, none⟩, cap, by rw [show (q : Int) + 1 + 1 + 1 = (q : Int) + 3 by omega]; rfl, fun h => absurd h (by simp), ?_⟩
  have hS := hX.bw
  have hV := hS.size
  (repeat' (first | (with_reducible exact Below.refl _ _) | (with_reducible assumption) | (with_reducible refine below_drewN ?_ _) | (with_reducible refine Below.alloc ?_ ?_ _) | (with_reducible refine Below.drew ?_) | (with_reducible refine Below.setCell ?_ ?_ _) | go_size))
end
end Go.Proofs.Ytjiidjcehhdnbaa
