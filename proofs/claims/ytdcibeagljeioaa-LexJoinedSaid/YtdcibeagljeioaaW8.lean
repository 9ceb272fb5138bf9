/- Chapter 06: a token: its cases. -/
import Derived.Test.YtdcibeagljeioaaW7
namespace Go.Proofs.Ytdcibeagljeioaa
open Go.ChangeShapes Go.WideShapes Go.ChangeAt Go.RowKit
set_option linter.unusedVariables false
set_option linter.unusedSimpArgs false
theorem grown_alloc {w c : World} {r : Option Nat} (h : w.grownBy c r) (o : Obj) : w.grownBy (c.alloc o) r := h.trans (World.grownBy_alloc _ _ _)
theorem grown_setOwn {w c : World} {r : Option Nat} (h : w.grownBy c r) {k o : Nat} (hk : w.heap.size ≤ k) (v : Value) : w.grownBy (c.setCell ⟨k, o, none⟩ v) r :=
  ⟨h.os, h.tape, h.output, by simpa using h.size, fun j hj hne => (heap_setCell_other c ⟨k, o, none⟩ j v (fun e => by simp at e; omega)).trans (h.block j hj hne)⟩
theorem Went.far {w w' : World} {b : Nat} {s : ByteArray} {i : Nat} (h : Went w w' b s i) {k : Nat} (hk : k < w.heap.size) (hne : k ≠ b) :
    (∀ o, w'.cell? ⟨k, o, none⟩ = w.cell? ⟨k, o, none⟩) ∧ (∀ o, w'.frozen? ⟨k, o, none⟩ = w.frozen? ⟨k, o, none⟩) ∧ k < w'.heap.size :=
  ⟨fun o => World.cell?_of_block (h.grown.block k hk (by simpa using hne)), fun o => World.frozen?_of_block (h.grown.block k hk (by simpa using hne)), Nat.lt_of_lt_of_le hk h.grown.size⟩
/-- what a token's taking comes to -/
def TokPost (w : World) (b : Nat) (s : ByteArray) (i : Nat) (e : Ending) (w' : World) : Prop :=
  (∃ x, tokV (s.data.toList.drop i) = .err x ∧ x ≠ 0 ∧ ∃ (k1 : Int) (k2 : ByteArray) (k3 : Int), e = .returned (.tuple #[.agg #[.int .i64 k1, .string k2, .int .i64 k3, .int .i64 i], .int .i64 x]) ∧ ∃ k, k ≤ s.size ∧ Went w w' b s k) ∨
  ∃ (t : Tok) (n : Nat) (T : ByteArray), tokV (s.data.toList.drop i) = .ok t n ∧ T.data.toList = t.text ∧ e = .returned (.tuple #[.agg #[.int .i64 t.kind, .string T, .int .i64 t.num, .int .i64 i], .int .i64 0]) ∧ Went w w' b s (i + n)
theorem insig_any (t : ByteArray) (p : UInt8 → Bool) (hp : memB t.data.toList = p) (c : UInt8) (w : World) (d : Nat) (hb : w.cell? ⟨d, 0, none⟩ = some (.string t)) : Calls Try.prog 21 #[.int .u8 c.toNat, .pointer (some ⟨d, 0, none⟩)] w fun e w' => e = .returned (.bool (p c)) ∧ w' = w := by
  rw [← hp]; exact in_any t c w d hb
theorem At.setOwn {w : World} {b : Nat} {s : ByteArray} {i : Nat} (h : At w b s i) {k o : Nat} (hk : k ≠ b) (v : Value) : At (w.setCell ⟨k, o, none⟩ v) b s i :=
  ⟨by rw [World.cell?_setCell_other _ _ _ _ (fun e => hk (congrArg Addr.block e))]; exact h.c0, by rw [World.cell?_setCell_other _ _ _ _ (fun e => hk (congrArg Addr.block e))]; exact h.c1, by rw [World.frozen?_setCell]; exact h.f1⟩
theorem Went.setOwn {w w' : World} {b : Nat} {s : ByteArray} {i : Nat} (h : Went w w' b s i) {k o : Nat} (h1 : w.heap.size ≤ k) (h2 : k ≠ b) (v : Value) : Went w (w'.setCell ⟨k, o, none⟩ v) b s i :=
  ⟨h.at_.setOwn h2 v, grown_setOwn h.grown h1 v⟩
theorem sig_any (c : UInt8) (w : World) (d : Nat) (hb : w.cell? ⟨d, 0, none⟩ = some (.string ⟨#[43, 45, 42, 47, 60, 62, 61, 126, 44, 64, 38, 37]⟩)) : Calls Try.prog 21 #[.int .u8 c.toNat, .pointer (some ⟨d, 0, none⟩)] w fun e w' => e = .returned (.bool (signB c)) ∧ w' = w := insig_any bSigns signB mem_signs c w d hb
theorem mrk_any (c : UInt8) (w : World) (d : Nat) (hb : w.cell? ⟨d, 0, none⟩ = some (.string ⟨#[94, 46, 59, 40, 41, 91, 93, 124]⟩)) : Calls Try.prog 21 #[.int .u8 c.toNat, .pointer (some ⟨d, 0, none⟩)] w fun e w' => e = .returned (.bool (markB c)) ∧ w' = w := insig_any bMarks markB mem_marks c w d hb
theorem byte_cons {s : ByteArray} {i : Nat} (h : i < s.size) : s.data.toList.drop i = byteU s i :: s.data.toList.drop (i + 1) := by
  unfold byteU; rw [dif_pos h, List.drop_eq_getElem_cons (by simpa using h)]; rfl

set_option maxRecDepth 100000 in
set_option maxHeartbeats 4000000 in
theorem tok_none {w : World} {b : Nat} {s : ByteArray} {i : Nat} (h : At w b s i) (hs : s.size ≤ 100000) (hi : i < s.size) (x y : UInt8) (hx : byteU s i = x) (hy : byteU s (i + 1) = y) (hl : letB x = false) (hdg : digB x = false) (ex39 : ((x.toNat : Int) == 39) = false) (ex35 : ((x.toNat : Int) == 35) = false) (e58 : ((x.toNat : Int) == 58) = false) (hsx : signB x = false) (hmx : markB x = false) (hT : ∀ r, tokV (x :: r) = .err 10) :
    Calls Try.prog 18 #[.pointer (some ⟨b, 0, none⟩)] w (TokPost w b s i) := by
  have hi' : i ≤ s.size := by omega
  have hlb := h.lt
  have HX := Lib.hid hx
  have HY := Lib.hid hy
  have hcons := byte_cons hi
  rw [hx] at hcons
  have HC := Lib.hid hcons
  clear hx hy hcons
  have W0 := Went.refl h
  obtain ⟨c0, c1, f1⟩ := h
  have hne2 : w.heap.size ≠ b := by omega
  have hne4 : w.heap.size + 1 ≠ b := by omega
  have hne2' := hne2.symm
  have hne4' := hne4.symm
  have HT : Hid (tokV (s.data.toList.drop i) = .err 10) := by show _ = _; rw [HC.out]; exact hT _
  clear hT
  go_enter Try.func18, Try.ntmps18
  go_wp2_with (first | (go_at_call 23; (with_reducible refine (next0 (i := i) (Went.at_ (w := w) ?_) hs hi').mono ?_); (focus (repeat' (first | (with_reducible assumption) | (with_reducible refine Went.alloc ?_ _) | (with_reducible refine Went.drewN ?_ _) | (with_reducible refine Went.inc (i := i) ?_ _) | (with_reducible refine Went.setOwn ?_ ?_ ?_ _) | omega))); rw [HX.out]; rintro e w9 ⟨rfl, n1, rfl⟩) | (go_at_call 24; (with_reducible refine (let_any x _).mono ?_); rw [hl]; rintro e w9 ⟨rfl, rfl⟩) | (go_at_call 27; (with_reducible refine (dig_any x _).mono ?_); rw [hdg]; rintro e w9 ⟨rfl, rfl⟩) | (go_at_call 16; (with_reducible refine (inmk_any _ _).mono ?_); rintro e w9 ⟨rfl, rfl⟩) | (go_at_call 21; (with_reducible refine (sig_any x _ _ ?_).mono ?_); (focus (first | assumption | (simp [go_sem]; done) | (simp [go_sem, *]; done))); rw [hsx]; rintro e w9 ⟨rfl, rfl⟩) | (go_at_call 21; (with_reducible refine (mrk_any x _ _ ?_).mono ?_); (focus (first | assumption | (simp [go_sem]; done) | (simp [go_sem, *]; done))); rw [hmx]; rintro e w9 ⟨rfl, rfl⟩))
  refine bodyPost_ret (v := .tuple #[.agg #[.int .i64 0, .string ⟨#[]⟩, .int .i64 0, .int .i64 i], .int .i64 10]) (by simp [results, Try.results18, go_sem, *]) rfl ?_
  left
  refine ⟨10, HT.out, by decide, 0, ⟨#[]⟩, 0, rfl, i, hi', ?_⟩
  (repeat' (first | (with_reducible assumption) | (with_reducible refine Went.alloc ?_ _) | (with_reducible refine Went.drewN ?_ _) | (with_reducible refine Went.inc (i := i) ?_ _) | (with_reducible refine Went.setOwn ?_ ?_ ?_ _) | omega))

end Go.Proofs.Ytdcibeagljeioaa
