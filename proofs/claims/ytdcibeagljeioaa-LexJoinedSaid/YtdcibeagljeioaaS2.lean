/- Chapter 06: the document's examples. -/
import Derived.Test.YtdcibeagljeioaaS1
namespace Go.Proofs.Ytdcibeagljeioaa
open Go.ChangeShapes Go.WideShapes Go.ChangeAt Go.RowKit
set_option linter.unusedVariables false
set_option linter.unusedSimpArgs false
theorem toks_nonnil {f at_ : Nat} {l : Bs} {A : List ATok} (h : toksF f at_ l = .ok A) (hf : l.length < f) : 0 < A.length := by
  obtain ⟨⟨a, r, rfl, _⟩, _⟩ := rise f at_ l A h hf
  simp
/-- what Tokens tells, where there are tokens -/
def TokensOk (w : World) (A : List ATok) (n : Nat) (e : Ending) (w' : World) : Prop :=
  ∃ g c, e = .returned (.tuple #[.slice (some ⟨g, 0, none⟩) n c, .int .i64 0, .int .i64 0]) ∧ n ≤ c ∧ c ≤ 9223372036854775807 ∧ w.heap.size ≤ g ∧ g < w'.heap.size ∧ Row w' (some ⟨g, 0, none⟩) n 4 (fun i j => cellT (A.getD i tz) j) ∧ Below w.heap.size w w'
theorem post_ok {s : ByteArray} {A : List ATok} {n : Nat} {w w' : World} {e : Ending} (hv : toksV s.data.toList = .ok A) (hn : A.length = n) (hs : s.size ≤ 2000) (h : TokensPost w s e w') : TokensOk w A n e w' := by
  obtain ⟨hb, ⟨h2, _⟩ | ⟨_, ⟨a, x, h3, _⟩ | ⟨A', v, h3, rfl, ho⟩⟩⟩ := h
  · omega
  · rw [hv] at h3; cases h3
  · rw [hv] at h3
    cases h3
    have hpos := toks_nonnil hv (Nat.lt_succ_self _)
    rcases ho.2 with ⟨_, hn0⟩ | ⟨g, cap, cur, rfl, hg, hh, hn', hm, _⟩
    · omega
    · subst hn
      exact ⟨g, cap, rfl, hn', hm, hg, (ho.lt g rfl).2, fun h0 => ⟨g, 0, rfl, (ho.lt g rfl).2, fun i hi j hj => by rw [Nat.zero_add, ho.cellAt (i * 4 + j) (by omega)]; exact row_at A i j hi hj⟩, hb⟩
theorem post_err {s : ByteArray} {a : Nat} {x : Int} {w w' : World} {e : Ending} (hv : toksV s.data.toList = .err a x) (hs : s.size ≤ 2000) (h : TokensPost w s e w') : e = .returned (.tuple #[.slice none 0 0, .int .i64 a, .int .i64 x]) ∧ Below w.heap.size w w' := by
  obtain ⟨hb, ⟨h2, _⟩ | ⟨_, ⟨a', x', h3, _, rfl⟩ | ⟨A', v, h3, _⟩⟩⟩ := h
  · omega
  · rw [hv] at h3; cases h3; exact ⟨rfl, hb⟩
  · rw [hv] at h3; cases h3
theorem toks_ok {s : ByteArray} {A : List ATok} {n : Nat} (w : World) (hv : toksV s.data.toList = .ok A) (hn : A.length = n) (hs : s.size ≤ 2000) : Calls Try.prog 10 #[.string s] w (TokensOk w A n) :=
  (tokens_any s w (by omega)).mono fun e w' h => post_ok hv hn hs h
theorem toks_err {s : ByteArray} {a : Nat} {x : Int} (w : World) (hv : toksV s.data.toList = .err a x) (hs : s.size ≤ 2000) : Calls Try.prog 10 #[.string s] w fun e w' => e = .returned (.tuple #[.slice none 0 0, .int .i64 a, .int .i64 x]) ∧ Below w.heap.size w w' :=
  (tokens_any s w (by omega)).mono fun e w' h => post_err hv hs h
def ex1 : ByteArray := ⟨#[120, 32, 97, 116, 58, 32, 49, 32, 112, 117, 116, 58, 32, 39, 97, 39, 39, 98, 39]⟩
def ex2 : ByteArray := ⟨#[35, 97, 116, 58, 112, 117, 116, 58]⟩
def ex3 : ByteArray := ⟨#[97, 58, 61, 49]⟩
def ex4 : ByteArray := ⟨#[34, 120]⟩
theorem toks1 : toksV ex1.data.toList = .ok [⟨1, [120], 0, 0⟩, ⟨2, [97, 116, 58], 0, 2⟩, ⟨4, [], 1, 6⟩, ⟨2, [112, 117, 116, 58], 0, 8⟩, ⟨5, [97, 39, 98], 0, 13⟩, ⟨0, [], 0, 19⟩] := by kernel_rfl
theorem toks2 : toksV ex2.data.toList = .ok [⟨6, [97, 116, 58, 112, 117, 116, 58], 0, 0⟩, ⟨0, [], 0, 8⟩] := by kernel_rfl
theorem toks3 : toksV ex3.data.toList = .ok [⟨1, [97], 0, 0⟩, ⟨9, [], 0, 1⟩, ⟨4, [], 1, 3⟩, ⟨0, [], 0, 4⟩] := by kernel_rfl
theorem toks4 : toksV ex4.data.toList = .err 0 11 := by kernel_rfl
set_option maxRecDepth 100000 in
set_option maxHeartbeats 8000000 in
theorem lives_any (w : World) : Calls Try.prog 13 #[] w fun e w' => e = .returned (.bool true) ∧ Below w.heap.size w w' := by
  have R1 : ∀ w, Calls Try.prog 10 #[.string ⟨#[120, 32, 97, 116, 58, 32, 49, 32, 112, 117, 116, 58, 32, 39, 97, 39, 39, 98, 39]⟩] w (TokensOk w _ 6) := fun w => toks_ok w toks1 rfl (by decide)
  have R2 : ∀ w, Calls Try.prog 10 #[.string ⟨#[35, 97, 116, 58, 112, 117, 116, 58]⟩] w (TokensOk w _ 2) := fun w => toks_ok w toks2 rfl (by decide)
  have R3 : ∀ w, Calls Try.prog 10 #[.string ⟨#[97, 58, 61, 49]⟩] w (TokensOk w _ 4) := fun w => toks_ok w toks3 rfl (by decide)
  have R4 : ∀ w, Calls Try.prog 10 #[.string ⟨#[34, 120]⟩] w (fun e w' => e = .returned (.tuple #[.slice none 0 0, .int .i64 ((0 : Nat) : Int), .int .i64 11]) ∧ Below w.heap.size w w') := fun w => toks_err w toks4 (by decide)
  go_enter Try.func13, Try.ntmps13
  go_wp2_with fail
  (with_reducible refine (R1 _).mono ?_)
  rintro e w1 ⟨g1, c1, rfl, hc1, hm1, _, hg1, hr1, hb1⟩
  have H1 := Lib.hid hr1
  clear hr1
  go_wp2_with fail
  (with_reducible refine (R2 _).mono ?_)
  rintro e w2 ⟨g2, c2, rfl, hc2, hm2, _, hg2, hr2, hb2⟩
  have H2 := Lib.hid hr2
  clear hr2
  go_wp2_with fail
  (with_reducible refine (R3 _).mono ?_)
  rintro e w3 ⟨g3, c3, rfl, hc3, hm3, _, hg3, hr3, hb3⟩
  have H3 := Lib.hid hr3
  clear hr3
  go_wp2_with fail
  (with_reducible refine (R4 _).mono ?_)
  rintro e w4 ⟨rfl, hb4⟩
  have hs1 := hb1.size
  have hs2 := hb2.size
  have hs3 := hb3.size
  have hs4 := hb4.size
  have p1 : Below w1.heap.size w1 w4 := (hb2.trans (hb3.mono hs2)).trans (hb4.mono (by omega))
  have p2 : Below w2.heap.size w2 w4 := hb3.trans (hb4.mono hs3)
  have p3 : Below w3.heap.size w3 w4 := hb4
  have ball : Below w.heap.size w w4 := hb1.trans (p1.mono hs1)
  have q1 : ∀ k, k < 6 → ∀ j, j < 4 → w4.cell? ⟨g1, k * 4 + j, none⟩ = some _ := fun k hk j hj => by
    obtain ⟨g, off, e, _, hc⟩ := H1.out (by omega)
    cases e
    have := (p1.cell (p := ⟨g1, 0 + k * 4 + j, none⟩) hg1).trans (hc k hk j hj)
    rwa [Nat.zero_add] at this
  have q2 : ∀ k, k < 2 → ∀ j, j < 4 → w4.cell? ⟨g2, k * 4 + j, none⟩ = some _ := fun k hk j hj => by
    obtain ⟨g, off, e, _, hc⟩ := H2.out (by omega)
    cases e
    have := (p2.cell (p := ⟨g2, 0 + k * 4 + j, none⟩) hg2).trans (hc k hk j hj)
    rwa [Nat.zero_add] at this
  have q3 : ∀ k, k < 4 → ∀ j, j < 4 → w4.cell? ⟨g3, k * 4 + j, none⟩ = some _ := fun k hk j hj => by
    obtain ⟨g, off, e, _, hc⟩ := H3.out (by omega)
    cases e
    have := (p3.cell (p := ⟨g3, 0 + k * 4 + j, none⟩) hg3).trans (hc k hk j hj)
    rwa [Nat.zero_add] at this
  have k1 : w4.cell? ⟨g1, 5, none⟩ = some (.string ⟨#[97, 116, 58]⟩) := q1 1 (by decide) 1 (by decide)
  have k2 : w4.cell? ⟨g1, 4, none⟩ = some (.int .i64 2) := q1 1 (by decide) 0 (by decide)
  have k3 : w4.cell? ⟨g1, 17, none⟩ = some (.string ⟨#[97, 39, 98]⟩) := q1 4 (by decide) 1 (by decide)
  have k4 : w4.cell? ⟨g1, 20, none⟩ = some (.int .i64 0) := q1 5 (by decide) 0 (by decide)
  have k5 : w4.cell? ⟨g2, 1, none⟩ = some (.string ⟨#[97, 116, 58, 112, 117, 116, 58]⟩) := q2 0 (by decide) 1 (by decide)
  have k6 : w4.cell? ⟨g3, 4, none⟩ = some (.int .i64 9) := q3 1 (by decide) 0 (by decide)
  clear q1 q2 q3 H1 H2 H3 p1 p2 p3 hb1 hb2 hb3 hb4
  go_wp2_with fail
  go_ret
  exact ⟨rfl, ball⟩
end Go.Proofs.Ytdcibeagljeioaa
