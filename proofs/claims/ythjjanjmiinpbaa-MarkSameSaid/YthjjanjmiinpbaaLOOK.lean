/- Chapter 02: the reference's Look. -/
import Derived.Test.YthjjanjmiinpbaaRT1
import Derived.Deep.RegionLaw
namespace Go.Proofs.Ythjjanjmiinpbaa
open Go.ChangeShapes Go.WideShapes Go.ChangeAt Go.RowKit Go.Deep Go.Joins Go.Maps
set_option linter.unusedVariables false
set_option linter.unusedSimpArgs false
/-- what Look answers: an object's four words, or an empty one -/
def lookV (m : Hp) (fv : Nat → Value) (a : Int) : Array Value := match plc m.L a with
  | some i => #[.int .i64 (m.L.getD i zeroO).cls, .int .i64 (m.L.getD i zeroO).fmt, .int .i64 (m.L.getD i zeroO).hash, fv i]
  | none => #[.int .i64 0, .int .i64 0, .int .i64 0, .slice none 0 0]
set_option maxRecDepth 100000 in
set_option maxHeartbeats 16000000 in
theorem rlook_any {w : World} {R : Nat → Prop} {r : Nat} {m : Hp} {lv : Value} {fv : Nat → Value} (h : RM w R r m lv fv) (a : Int) : Calls Try.prog 49 #[.pointer (some ⟨r, 0, none⟩), .int .i64 a] w fun e w' => e = .returned (.agg (lookV m fv a)) ∧ Below w.heap.size w w' := by
  obtain ⟨v, hv⟩ : ∃ v, plcV m.L a = v := ⟨_, rfl⟩
  have HPL := Lib.hid hv
  have hb0 : Below w.heap.size w (w.alloc (.cells #[.int .i64 0, .int .i64 0, .int .i64 0, .slice none 0 0] 71)) := (Below.refl _ _).alloc (Nat.le_refl _) _
  have HPLC := Lib.hid (rplace_any (h.below hb0) a)
  cases hp : plc m.L a with
  | none =>
    have d0 : decide (v < 0) = true := decide_eq_true (by rw [← hv]; unfold plcV; rw [hp]; decide)
    have hX : lookV m fv a = #[.int .i64 0, .int .i64 0, .int .i64 0, .slice none 0 0] := by unfold lookV; rw [hp]
    rw [hX]
    clear hv hp h hX hb0
    go_enter Try.func49, Try.ntmps49
    go_wp2_with (go_at_call 58; (with_reducible refine (HPLC.out).mono ?_); rw [HPL.out]; rintro e w1 ⟨rfl, hw1⟩; replace hw1 := hw1.symm; subst hw1)
    refine bodyPost_ret (v := .agg #[.int .i64 0, .int .i64 0, .int .i64 0, .slice none 0 0]) (by simp [results, Try.results49, go_sem]) rfl ?_
    exact ⟨rfl, by (repeat' (first | (with_reducible exact Below.refl _ _) | (with_reducible assumption) | (with_reducible refine below_drewN ?_ _) | (with_reducible refine Below.alloc ?_ ?_ _) | (with_reducible refine Below.drew ?_) | (with_reducible refine Below.setCell ?_ ?_ _) | go_size))⟩
  | some k =>
    obtain ⟨hk, _⟩ := plc_some hp
    obtain rfl : v = (k : Int) := by rw [← hv]; unfold plcV; rw [hp]
    have d0 : decide ((k : Int) < 0) = false := decide_eq_false (by omega)
    have c2 := h.c2
    have hlt := h.lt
    have hRr := h.inR
    obtain ⟨A, c, rfl, hc, hobj⟩ := h.list
    obtain ⟨g, rfl, e0, e1, e2, e3⟩ := hobj k hk
    have hlen := len_bd h.good
    obtain ⟨nl, hnl⟩ : ∃ nl, m.L.length = nl := ⟨_, rfl⟩
    have hkl := hk
    rw [hnl] at c2 hlen hc hkl
    have g0 : (0 : Int) ≤ (k : Int) := by omega
    have g1 : (k : Int) < (nl : Int) := by omega
    have hX : lookV m fv a = #[.int .i64 m.L[k].cls, .int .i64 m.L[k].fmt, .int .i64 m.L[k].hash, fv k] := by
      unfold lookV; rw [hp]; simp only [List.getD_eq_getElem?_getD, List.getElem?_eq_getElem hk, Option.getD_some]
    rw [hX]
    obtain ⟨x0, hx0⟩ : ∃ x, m.L[k].cls = x := ⟨_, rfl⟩
    obtain ⟨x1, hx1⟩ : ∃ x, m.L[k].fmt = x := ⟨_, rfl⟩
    obtain ⟨x2, hx2⟩ : ∃ x, m.L[k].hash = x := ⟨_, rfl⟩
    obtain ⟨FA, fc, hx3, hfc, hfj⟩ := h.field hk
    obtain ⟨nf, hnf⟩ : ∃ nf, m.L[k].F.length = nf := ⟨_, rfl⟩
    rw [hnf] at hx3
    rw [hx0] at e0
    rw [hx1] at e1
    rw [hx2] at e2
    rw [hx3] at e3
    rw [hx0, hx1, hx2, hx3]
    have C2 := (hb0.cell (cell_lt c2)).trans c2
    have E0 := (hb0.cell (cell_lt e0)).trans e0
    have E1 := (hb0.cell (cell_lt e1)).trans e1
    have E2 := (hb0.cell (cell_lt e2)).trans e2
    have E3 := (hb0.cell (cell_lt e3)).trans e3
    clear hb0 c2 e0 e1 e2 e3
    clear hv hp h hX hobj hnl hk hx0 hx1 hx2 hx3 hlt hRr hfc hfj hnf
    go_enter Try.func49, Try.ntmps49
    go_wp2_with (go_at_call 58; (with_reducible refine (HPLC.out).mono ?_); rw [HPL.out]; rintro e w1 ⟨rfl, hw1⟩; replace hw1 := hw1.symm; subst hw1)
    refine bodyPost_ret (v := .agg #[.int .i64 x0, .int .i64 x1, .int .i64 x2, .slice FA nf fc]) (by simp [results, Try.results49, go_sem]) rfl ?_
    exact ⟨rfl, by (repeat' (first | (with_reducible exact Below.refl _ _) | (with_reducible assumption) | (with_reducible refine below_drewN ?_ _) | (with_reducible refine Below.alloc ?_ ?_ _) | (with_reducible refine Below.drew ?_) | (with_reducible refine Below.setCell ?_ ?_ _) | go_size))⟩
end Go.Proofs.Ythjjanjmiinpbaa
