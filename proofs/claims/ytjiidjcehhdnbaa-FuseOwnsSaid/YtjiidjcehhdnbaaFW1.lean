/- Contracts of package fuse: literals, operands, selectors, strokes. -/
import Derived.Test.YtjiidjcehhdnbaaBase
import Derived.Test.YtjiidjcehhdnbaaWWalks3
namespace Go.Proofs.Ytjiidjcehhdnbaa
open Go.ChangeShapes Go.WideShapes Go.ChangeAt Go.RowKit
set_option linter.unusedVariables false
set_option linter.unusedSimpArgs false

def smallL (ln : Nat) (L : Nat → LitR) (i : Int) : Int × Bool := ((smallV (litAt ln L i).num).1, (smallV (litAt ln L i).num).2 && (litAt ln L i).kind == 1)
def isOp (ln : Nat) (L : Nat → LitR) (cn : Nat) (C : Nat → InsR) (p : Int) : Bool :=
  (insAt cn C p).op == 1 || (insAt cn C p).op == 7 || (insAt cn C p).op == 8 || ((insAt cn C p).op == 6 && (smallL ln L (insAt cn C p).a).2)
def selV (ln : Nat) (L : Nat → LitR) (cn : Nat) (C : Nat → InsR) (p args : Int) : ByteArray :=
  if (insAt cn C p).op = 14 ∧ (insAt cn C p).b = args ∧ (litAt ln L (insAt cn C p).a).kind = 3 then (litAt ln L (insAt cn C p).a).text else ⟨#[]⟩
def letB (c : UInt8) : Bool := (97 ≤ c && c ≤ 122) || (65 ≤ c && c ≤ 90)
def letterV (s : ByteArray) : Bool := match s.data.toList with | [] => false | c :: _ => letB c

section
variable {w0 w : World} {LA : Option Addr} {ln lc : Nat} {CA : Option Addr} {cn cc : Nat} {L : Nat → LitR} {C : Nat → InsR} {s : ByteArray} {x0 x1 x2 : Int}

theorem small_lit (hM : IsM w0 LA ln CA cn L C) (hB : Below w0.heap.size w0 w) (i : Int) :
    Calls Try.prog 26 #[.agg #[.string s, .int .i64 x0, .int .i64 x1, .int .i64 x2, .slice LA ln lc, .slice CA cn cc], .int .i64 i] w fun e w' => e = .returned (.tuple #[.int .i64 (smallL ln L i).1, .bool (smallL ln L i).2]) ∧ Below w.heap.size w w' := by
  have hW := hB.size
  obtain ⟨l, hl⟩ : ∃ l, litAt ln L i = l := ⟨_, rfl⟩
  have F : Hid (smallL ln L i = ((smallV l.num).1, (smallV l.num).2 && l.kind == 1)) := by show smallL ln L i = _; rw [← hl]; rfl
  have HL := Lib.hid hl
  clear hl
  obtain ⟨v, is, hv⟩ : ∃ v is, smallV l.num = (v, is) := ⟨_, _, rfl⟩
  rw [hv] at F
  have HV := Lib.hid hv
  clear hv
  cases is
  all_goals
    go_enter Try.func26, Try.ntmps26
    go_wp2_with (first | (go_at_call 38; (with_reducible refine (lit_any hM (by (repeat' (first | (with_reducible exact Below.refl _ _) | (with_reducible assumption) | (with_reducible refine below_drewN ?_ _) | (with_reducible refine Below.alloc ?_ ?_ _) | (with_reducible refine Below.drew ?_) | (with_reducible refine Below.setCell ?_ ?_ _) | go_size))) _).mono ?_); rw [HL.out]; rintro e w1 ⟨rfl, hb⟩; have hB := thru hb (show Below w0.heap.size w0 _ by (repeat' (first | (with_reducible exact Below.refl _ _) | (with_reducible assumption) | (with_reducible refine below_drewN ?_ _) | (with_reducible refine Below.alloc ?_ ?_ _) | (with_reducible refine Below.drew ?_) | (with_reducible refine Below.setCell ?_ ?_ _) | go_size))); have hW := hB.size; have hS := thru hb (show Below w.heap.size w _ by (repeat' (first | (with_reducible exact Below.refl _ _) | (with_reducible assumption) | (with_reducible refine below_drewN ?_ _) | (with_reducible refine Below.alloc ?_ ?_ _) | (with_reducible refine Below.drew ?_) | (with_reducible refine Below.setCell ?_ ?_ _) | go_size))); have hV := hS.size; obtain ⟨hc, hf⟩ := bcell hb; obtain ⟨hl, hl'⟩ := bsize hb; (try simp only [World.size_alloc, World.size_setCell, World.size_drew, size_drewN] at hc hf hl hl')) | (go_at_call 30; (with_reducible refine (small_any _ _).mono ?_); rw [HV.out]; rintro e w' ⟨rfl, rfl⟩))
    go_quiet (fail)
    go_wp2
    go_ret2
    refine ⟨by rw [F.out]; rfl, ?_⟩
    (repeat' (first | (with_reducible exact Below.refl _ _) | (with_reducible assumption) | (with_reducible refine below_drewN ?_ _) | (with_reducible refine Below.alloc ?_ ?_ _) | (with_reducible refine Below.drew ?_) | (with_reducible refine Below.setCell ?_ ?_ _) | go_size))

theorem operand_any (hM : IsM w0 LA ln CA cn L C) (hB : Below w0.heap.size w0 w) (p : Int) :
    Calls Try.prog 23 #[.agg #[.string s, .int .i64 x0, .int .i64 x1, .int .i64 x2, .slice LA ln lc, .slice CA cn cc], .int .i64 p] w fun e w' => e = .returned (.bool (isOp ln L cn C p)) ∧ Below w.heap.size w w' := by
  have hW := hB.size
  obtain ⟨i, hi⟩ : ∃ i, insAt cn C p = i := ⟨_, rfl⟩
  have F0 : isOp ln L cn C p = (i.op == 1 || i.op == 7 || i.op == 8 || (i.op == 6 && (smallL ln L i.a).2)) := by rw [← hi]; rfl
  have HI := Lib.hid hi
  obtain ⟨sm, hs⟩ : ∃ sm, smallL ln L i.a = sm := ⟨_, rfl⟩
  rw [hs] at F0
  have HS0 := Lib.hid hs
  clear hi hs
  by_cases e6 : i.op = 6
  · have f6 : (i.op == 6) = true := by simpa using e6
    obtain ⟨v, is⟩ := sm
    have HS := HS0
    cases is
    · have F : Hid (isOp ln L cn C p = false) := by show _ = _; rw [F0, e6]; rfl
      clear F0 e6
      go_enter Try.func23, Try.ntmps23
      go_wp2_with (first | (go_at_call 24; (with_reducible refine (at_any hM (by (repeat' (first | (with_reducible exact Below.refl _ _) | (with_reducible assumption) | (with_reducible refine below_drewN ?_ _) | (with_reducible refine Below.alloc ?_ ?_ _) | (with_reducible refine Below.drew ?_) | (with_reducible refine Below.setCell ?_ ?_ _) | go_size))) _).mono ?_); rw [HI.out]; rintro e w1 ⟨rfl, hb⟩; have hB := thru hb (show Below w0.heap.size w0 _ by (repeat' (first | (with_reducible exact Below.refl _ _) | (with_reducible assumption) | (with_reducible refine below_drewN ?_ _) | (with_reducible refine Below.alloc ?_ ?_ _) | (with_reducible refine Below.drew ?_) | (with_reducible refine Below.setCell ?_ ?_ _) | go_size))); have hW := hB.size; have hS := thru hb (show Below w.heap.size w _ by (repeat' (first | (with_reducible exact Below.refl _ _) | (with_reducible assumption) | (with_reducible refine below_drewN ?_ _) | (with_reducible refine Below.alloc ?_ ?_ _) | (with_reducible refine Below.drew ?_) | (with_reducible refine Below.setCell ?_ ?_ _) | go_size))); have hV := hS.size; obtain ⟨hc, hf⟩ := bcell hb; obtain ⟨hl, hl'⟩ := bsize hb; (try simp only [World.size_alloc, World.size_setCell, World.size_drew, size_drewN] at hc hf hl hl')) | (go_at_call 26; (with_reducible refine (small_lit hM (by (repeat' (first | (with_reducible exact Below.refl _ _) | (with_reducible assumption) | (with_reducible refine below_drewN ?_ _) | (with_reducible refine Below.alloc ?_ ?_ _) | (with_reducible refine Below.drew ?_) | (with_reducible refine Below.setCell ?_ ?_ _) | go_size))) _).mono ?_); rw [HS.out]; rintro e w1 ⟨rfl, hb⟩; have hB := thru hb (show Below w0.heap.size w0 _ by (repeat' (first | (with_reducible exact Below.refl _ _) | (with_reducible assumption) | (with_reducible refine below_drewN ?_ _) | (with_reducible refine Below.alloc ?_ ?_ _) | (with_reducible refine Below.drew ?_) | (with_reducible refine Below.setCell ?_ ?_ _) | go_size))); have hW := hB.size; have hS := thru hb (show Below w.heap.size w _ by (repeat' (first | (with_reducible exact Below.refl _ _) | (with_reducible assumption) | (with_reducible refine below_drewN ?_ _) | (with_reducible refine Below.alloc ?_ ?_ _) | (with_reducible refine Below.drew ?_) | (with_reducible refine Below.setCell ?_ ?_ _) | go_size))); have hV := hS.size; obtain ⟨hc, hf⟩ := bcell hb; obtain ⟨hl, hl'⟩ := bsize hb; (try simp only [World.size_alloc, World.size_setCell, World.size_drew, size_drewN] at hc hf hl hl')))
      go_ret
      refine ⟨by rw [F.out]; rfl, ?_⟩
      (repeat' (first | (with_reducible exact Below.refl _ _) | (with_reducible assumption) | (with_reducible refine below_drewN ?_ _) | (with_reducible refine Below.alloc ?_ ?_ _) | (with_reducible refine Below.drew ?_) | (with_reducible refine Below.setCell ?_ ?_ _) | go_size))

    · have F : Hid (isOp ln L cn C p = true) := by show _ = _; rw [F0, e6]; rfl
      clear F0 e6
      go_enter Try.func23, Try.ntmps23
      go_wp2_with (first | (go_at_call 24; (with_reducible refine (at_any hM (by (repeat' (first | (with_reducible exact Below.refl _ _) | (with_reducible assumption) | (with_reducible refine below_drewN ?_ _) | (with_reducible refine Below.alloc ?_ ?_ _) | (with_reducible refine Below.drew ?_) | (with_reducible refine Below.setCell ?_ ?_ _) | go_size))) _).mono ?_); rw [HI.out]; rintro e w1 ⟨rfl, hb⟩; have hB := thru hb (show Below w0.heap.size w0 _ by (repeat' (first | (with_reducible exact Below.refl _ _) | (with_reducible assumption) | (with_reducible refine below_drewN ?_ _) | (with_reducible refine Below.alloc ?_ ?_ _) | (with_reducible refine Below.drew ?_) | (with_reducible refine Below.setCell ?_ ?_ _) | go_size))); have hW := hB.size; have hS := thru hb (show Below w.heap.size w _ by (repeat' (first | (with_reducible exact Below.refl _ _) | (with_reducible assumption) | (with_reducible refine below_drewN ?_ _) | (with_reducible refine Below.alloc ?_ ?_ _) | (with_reducible refine Below.drew ?_) | (with_reducible refine Below.setCell ?_ ?_ _) | go_size))); have hV := hS.size; obtain ⟨hc, hf⟩ := bcell hb; obtain ⟨hl, hl'⟩ := bsize hb; (try simp only [World.size_alloc, World.size_setCell, World.size_drew, size_drewN] at hc hf hl hl')) | (go_at_call 26; (with_reducible refine (small_lit hM (by (repeat' (first | (with_reducible exact Below.refl _ _) | (with_reducible assumption) | (with_reducible refine below_drewN ?_ _) | (with_reducible refine Below.alloc ?_ ?_ _) | (with_reducible refine Below.drew ?_) | (with_reducible refine Below.setCell ?_ ?_ _) | go_size))) _).mono ?_); rw [HS.out]; rintro e w1 ⟨rfl, hb⟩; have hB := thru hb (show Below w0.heap.size w0 _ by (repeat' (first | (with_reducible exact Below.refl _ _) | (with_reducible assumption) | (with_reducible refine below_drewN ?_ _) | (with_reducible refine Below.alloc ?_ ?_ _) | (with_reducible refine Below.drew ?_) | (with_reducible refine Below.setCell ?_ ?_ _) | go_size))); have hW := hB.size; have hS := thru hb (show Below w.heap.size w _ by (repeat' (first | (with_reducible exact Below.refl _ _) | (with_reducible assumption) | (with_reducible refine below_drewN ?_ _) | (with_reducible refine Below.alloc ?_ ?_ _) | (with_reducible refine Below.drew ?_) | (with_reducible refine Below.setCell ?_ ?_ _) | go_size))); have hV := hS.size; obtain ⟨hc, hf⟩ := bcell hb; obtain ⟨hl, hl'⟩ := bsize hb; (try simp only [World.size_alloc, World.size_setCell, World.size_drew, size_drewN] at hc hf hl hl')))
      go_ret
      refine ⟨by rw [F.out]; rfl, ?_⟩
      (repeat' (first | (with_reducible exact Below.refl _ _) | (with_reducible assumption) | (with_reducible refine below_drewN ?_ _) | (with_reducible refine Below.alloc ?_ ?_ _) | (with_reducible refine Below.drew ?_) | (with_reducible refine Below.setCell ?_ ?_ _) | go_size))

  · have f6 : (i.op == 6) = false := by simpa using e6
    have F1 : isOp ln L cn C p = (i.op == 1 || i.op == 7 || i.op == 8) := by rw [F0, f6]; simp
    clear F0 e6
    have HS := HS0
    by_cases e1 : i.op = 1
    · have f1 : (i.op == 1) = true := by simpa using e1
      have F : Hid (isOp ln L cn C p = true) := by show _ = _; rw [F1, f1]; rfl
      clear F1 e1
      go_enter Try.func23, Try.ntmps23
      go_wp2_with (first | (go_at_call 24; (with_reducible refine (at_any hM (by (repeat' (first | (with_reducible exact Below.refl _ _) | (with_reducible assumption) | (with_reducible refine below_drewN ?_ _) | (with_reducible refine Below.alloc ?_ ?_ _) | (with_reducible refine Below.drew ?_) | (with_reducible refine Below.setCell ?_ ?_ _) | go_size))) _).mono ?_); rw [HI.out]; rintro e w1 ⟨rfl, hb⟩; have hB := thru hb (show Below w0.heap.size w0 _ by (repeat' (first | (with_reducible exact Below.refl _ _) | (with_reducible assumption) | (with_reducible refine below_drewN ?_ _) | (with_reducible refine Below.alloc ?_ ?_ _) | (with_reducible refine Below.drew ?_) | (with_reducible refine Below.setCell ?_ ?_ _) | go_size))); have hW := hB.size; have hS := thru hb (show Below w.heap.size w _ by (repeat' (first | (with_reducible exact Below.refl _ _) | (with_reducible assumption) | (with_reducible refine below_drewN ?_ _) | (with_reducible refine Below.alloc ?_ ?_ _) | (with_reducible refine Below.drew ?_) | (with_reducible refine Below.setCell ?_ ?_ _) | go_size))); have hV := hS.size; obtain ⟨hc, hf⟩ := bcell hb; obtain ⟨hl, hl'⟩ := bsize hb; (try simp only [World.size_alloc, World.size_setCell, World.size_drew, size_drewN] at hc hf hl hl')) | (go_at_call 26; (with_reducible refine (small_lit hM (by (repeat' (first | (with_reducible exact Below.refl _ _) | (with_reducible assumption) | (with_reducible refine below_drewN ?_ _) | (with_reducible refine Below.alloc ?_ ?_ _) | (with_reducible refine Below.drew ?_) | (with_reducible refine Below.setCell ?_ ?_ _) | go_size))) _).mono ?_); rw [HS.out]; rintro e w1 ⟨rfl, hb⟩; have hB := thru hb (show Below w0.heap.size w0 _ by (repeat' (first | (with_reducible exact Below.refl _ _) | (with_reducible assumption) | (with_reducible refine below_drewN ?_ _) | (with_reducible refine Below.alloc ?_ ?_ _) | (with_reducible refine Below.drew ?_) | (with_reducible refine Below.setCell ?_ ?_ _) | go_size))); have hW := hB.size; have hS := thru hb (show Below w.heap.size w _ by (repeat' (first | (with_reducible exact Below.refl _ _) | (with_reducible assumption) | (with_reducible refine below_drewN ?_ _) | (with_reducible refine Below.alloc ?_ ?_ _) | (with_reducible refine Below.drew ?_) | (with_reducible refine Below.setCell ?_ ?_ _) | go_size))); have hV := hS.size; obtain ⟨hc, hf⟩ := bcell hb; obtain ⟨hl, hl'⟩ := bsize hb; (try simp only [World.size_alloc, World.size_setCell, World.size_drew, size_drewN] at hc hf hl hl')))
      go_ret
      refine ⟨by rw [F.out]; rfl, ?_⟩
      (repeat' (first | (with_reducible exact Below.refl _ _) | (with_reducible assumption) | (with_reducible refine below_drewN ?_ _) | (with_reducible refine Below.alloc ?_ ?_ _) | (with_reducible refine Below.drew ?_) | (with_reducible refine Below.setCell ?_ ?_ _) | go_size))

    · have f1 : (i.op == 1) = false := by simpa using e1
      by_cases e7 : i.op = 7
      · have f7 : (i.op == 7) = true := by simpa using e7
        have F : Hid (isOp ln L cn C p = true) := by show _ = _; rw [F1, f1, f7]; rfl
        clear F1 e1 e7
        go_enter Try.func23, Try.ntmps23
        go_wp2_with (first | (go_at_call 24; (with_reducible refine (at_any hM (by (repeat' (first | (with_reducible exact Below.refl _ _) | (with_reducible assumption) | (with_reducible refine below_drewN ?_ _) | (with_reducible refine Below.alloc ?_ ?_ _) | (with_reducible refine Below.drew ?_) | (with_reducible refine Below.setCell ?_ ?_ _) | go_size))) _).mono ?_); rw [HI.out]; rintro e w1 ⟨rfl, hb⟩; have hB := thru hb (show Below w0.heap.size w0 _ by (repeat' (first | (with_reducible exact Below.refl _ _) | (with_reducible assumption) | (with_reducible refine below_drewN ?_ _) | (with_reducible refine Below.alloc ?_ ?_ _) | (with_reducible refine Below.drew ?_) | (with_reducible refine Below.setCell ?_ ?_ _) | go_size))); have hW := hB.size; have hS := thru hb (show Below w.heap.size w _ by (repeat' (first | (with_reducible exact Below.refl _ _) | (with_reducible assumption) | (with_reducible refine below_drewN ?_ _) | (with_reducible refine Below.alloc ?_ ?_ _) | (with_reducible refine Below.drew ?_) | (with_reducible refine Below.setCell ?_ ?_ _) | go_size))); have hV := hS.size; obtain ⟨hc, hf⟩ := bcell hb; obtain ⟨hl, hl'⟩ := bsize hb; (try simp only [World.size_alloc, World.size_setCell, World.size_drew, size_drewN] at hc hf hl hl')) | (go_at_call 26; (with_reducible refine (small_lit hM (by (repeat' (first | (with_reducible exact Below.refl _ _) | (with_reducible assumption) | (with_reducible refine below_drewN ?_ _) | (with_reducible refine Below.alloc ?_ ?_ _) | (with_reducible refine Below.drew ?_) | (with_reducible refine Below.setCell ?_ ?_ _) | go_size))) _).mono ?_); rw [HS.out]; rintro e w1 ⟨rfl, hb⟩; have hB := thru hb (show Below w0.heap.size w0 _ by (repeat' (first | (with_reducible exact Below.refl _ _) | (with_reducible assumption) | (with_reducible refine below_drewN ?_ _) | (with_reducible refine Below.alloc ?_ ?_ _) | (with_reducible refine Below.drew ?_) | (with_reducible refine Below.setCell ?_ ?_ _) | go_size))); have hW := hB.size; have hS := thru hb (show Below w.heap.size w _ by (repeat' (first | (with_reducible exact Below.refl _ _) | (with_reducible assumption) | (with_reducible refine below_drewN ?_ _) | (with_reducible refine Below.alloc ?_ ?_ _) | (with_reducible refine Below.drew ?_) | (with_reducible refine Below.setCell ?_ ?_ _) | go_size))); have hV := hS.size; obtain ⟨hc, hf⟩ := bcell hb; obtain ⟨hl, hl'⟩ := bsize hb; (try simp only [World.size_alloc, World.size_setCell, World.size_drew, size_drewN] at hc hf hl hl')))
        go_ret
        refine ⟨by rw [F.out]; rfl, ?_⟩
        (repeat' (first | (with_reducible exact Below.refl _ _) | (with_reducible assumption) | (with_reducible refine below_drewN ?_ _) | (with_reducible refine Below.alloc ?_ ?_ _) | (with_reducible refine Below.drew ?_) | (with_reducible refine Below.setCell ?_ ?_ _) | go_size))

      · have f7 : (i.op == 7) = false := by simpa using e7
        by_cases e8 : i.op = 8
        · have f8 : (i.op == 8) = true := by simpa using e8
          have F : Hid (isOp ln L cn C p = true) := by show _ = _; rw [F1, f1, f7, f8]; rfl
          clear F1 e1 e7 e8
          go_enter Try.func23, Try.ntmps23
          go_wp2_with (first | (go_at_call 24; (with_reducible refine (at_any hM (by (repeat' (first | (with_reducible exact Below.refl _ _) | (with_reducible assumption) | (with_reducible refine below_drewN ?_ _) | (with_reducible refine Below.alloc ?_ ?_ _) | (with_reducible refine Below.drew ?_) | (with_reducible refine Below.setCell ?_ ?_ _) | go_size))) _).mono ?_); rw [HI.out]; rintro e w1 ⟨rfl, hb⟩; have hB := thru hb (show Below w0.heap.size w0 _ by (repeat' (first | (with_reducible exact Below.refl _ _) | (with_reducible assumption) | (with_reducible refine below_drewN ?_ _) | (with_reducible refine Below.alloc ?_ ?_ _) | (with_reducible refine Below.drew ?_) | (with_reducible refine Below.setCell ?_ ?_ _) | go_size))); have hW := hB.size; have hS := thru hb (show Below w.heap.size w _ by (repeat' (first | (with_reducible exact Below.refl _ _) | (with_reducible assumption) | (with_reducible refine below_drewN ?_ _) | (with_reducible refine Below.alloc ?_ ?_ _) | (with_reducible refine Below.drew ?_) | (with_reducible refine Below.setCell ?_ ?_ _) | go_size))); have hV := hS.size; obtain ⟨hc, hf⟩ := bcell hb; obtain ⟨hl, hl'⟩ := bsize hb; (try simp only [World.size_alloc, World.size_setCell, World.size_drew, size_drewN] at hc hf hl hl')) | (go_at_call 26; (with_reducible refine (small_lit hM (by (repeat' (first | (with_reducible exact Below.refl _ _) | (with_reducible assumption) | (with_reducible refine below_drewN ?_ _) | (with_reducible refine Below.alloc ?_ ?_ _) | (with_reducible refine Below.drew ?_) | (with_reducible refine Below.setCell ?_ ?_ _) | go_size))) _).mono ?_); rw [HS.out]; rintro e w1 ⟨rfl, hb⟩; have hB := thru hb (show Below w0.heap.size w0 _ by (repeat' (first | (with_reducible exact Below.refl _ _) | (with_reducible assumption) | (with_reducible refine below_drewN ?_ _) | (with_reducible refine Below.alloc ?_ ?_ _) | (with_reducible refine Below.drew ?_) | (with_reducible refine Below.setCell ?_ ?_ _) | go_size))); have hW := hB.size; have hS := thru hb (show Below w.heap.size w _ by (repeat' (first | (with_reducible exact Below.refl _ _) | (with_reducible assumption) | (with_reducible refine below_drewN ?_ _) | (with_reducible refine Below.alloc ?_ ?_ _) | (with_reducible refine Below.drew ?_) | (with_reducible refine Below.setCell ?_ ?_ _) | go_size))); have hV := hS.size; obtain ⟨hc, hf⟩ := bcell hb; obtain ⟨hl, hl'⟩ := bsize hb; (try simp only [World.size_alloc, World.size_setCell, World.size_drew, size_drewN] at hc hf hl hl')))
          go_ret
          refine ⟨by rw [F.out]; rfl, ?_⟩
          (repeat' (first | (with_reducible exact Below.refl _ _) | (with_reducible assumption) | (with_reducible refine below_drewN ?_ _) | (with_reducible refine Below.alloc ?_ ?_ _) | (with_reducible refine Below.drew ?_) | (with_reducible refine Below.setCell ?_ ?_ _) | go_size))

        · have f8 : (i.op == 8) = false := by simpa using e8
          have F : Hid (isOp ln L cn C p = false) := by show _ = _; rw [F1, f1, f7, f8]; rfl
          clear F1 e1 e7 e8
          go_enter Try.func23, Try.ntmps23
          go_wp2_with (first | (go_at_call 24; (with_reducible refine (at_any hM (by (repeat' (first | (with_reducible exact Below.refl _ _) | (with_reducible assumption) | (with_reducible refine below_drewN ?_ _) | (with_reducible refine Below.alloc ?_ ?_ _) | (with_reducible refine Below.drew ?_) | (with_reducible refine Below.setCell ?_ ?_ _) | go_size))) _).mono ?_); rw [HI.out]; rintro e w1 ⟨rfl, hb⟩; have hB := thru hb (show Below w0.heap.size w0 _ by (repeat' (first | (with_reducible exact Below.refl _ _) | (with_reducible assumption) | (with_reducible refine below_drewN ?_ _) | (with_reducible refine Below.alloc ?_ ?_ _) | (with_reducible refine Below.drew ?_) | (with_reducible refine Below.setCell ?_ ?_ _) | go_size))); have hW := hB.size; have hS := thru hb (show Below w.heap.size w _ by (repeat' (first | (with_reducible exact Below.refl _ _) | (with_reducible assumption) | (with_reducible refine below_drewN ?_ _) | (with_reducible refine Below.alloc ?_ ?_ _) | (with_reducible refine Below.drew ?_) | (with_reducible refine Below.setCell ?_ ?_ _) | go_size))); have hV := hS.size; obtain ⟨hc, hf⟩ := bcell hb; obtain ⟨hl, hl'⟩ := bsize hb; (try simp only [World.size_alloc, World.size_setCell, World.size_drew, size_drewN] at hc hf hl hl')) | (go_at_call 26; (with_reducible refine (small_lit hM (by (repeat' (first | (with_reducible exact Below.refl _ _) | (with_reducible assumption) | (with_reducible refine below_drewN ?_ _) | (with_reducible refine Below.alloc ?_ ?_ _) | (with_reducible refine Below.drew ?_) | (with_reducible refine Below.setCell ?_ ?_ _) | go_size))) _).mono ?_); rw [HS.out]; rintro e w1 ⟨rfl, hb⟩; have hB := thru hb (show Below w0.heap.size w0 _ by (repeat' (first | (with_reducible exact Below.refl _ _) | (with_reducible assumption) | (with_reducible refine below_drewN ?_ _) | (with_reducible refine Below.alloc ?_ ?_ _) | (with_reducible refine Below.drew ?_) | (with_reducible refine Below.setCell ?_ ?_ _) | go_size))); have hW := hB.size; have hS := thru hb (show Below w.heap.size w _ by (repeat' (first | (with_reducible exact Below.refl _ _) | (with_reducible assumption) | (with_reducible refine below_drewN ?_ _) | (with_reducible refine Below.alloc ?_ ?_ _) | (with_reducible refine Below.drew ?_) | (with_reducible refine Below.setCell ?_ ?_ _) | go_size))); have hV := hS.size; obtain ⟨hc, hf⟩ := bcell hb; obtain ⟨hl, hl'⟩ := bsize hb; (try simp only [World.size_alloc, World.size_setCell, World.size_drew, size_drewN] at hc hf hl hl')))
          go_ret
          refine ⟨by rw [F.out]; rfl, ?_⟩
          (repeat' (first | (with_reducible exact Below.refl _ _) | (with_reducible assumption) | (with_reducible refine below_drewN ?_ _) | (with_reducible refine Below.alloc ?_ ?_ _) | (with_reducible refine Below.drew ?_) | (with_reducible refine Below.setCell ?_ ?_ _) | go_size))

theorem selector_any (hM : IsM w0 LA ln CA cn L C) (hB : Below w0.heap.size w0 w) (p args : Int) :
    Calls Try.prog 29 #[.agg #[.string s, .int .i64 x0, .int .i64 x1, .int .i64 x2, .slice LA ln lc, .slice CA cn cc], .int .i64 p, .int .i64 args] w fun e w' => e = .returned (.string (selV ln L cn C p args)) ∧ Below w.heap.size w w' := by
  have hW := hB.size
  obtain ⟨i, hi⟩ : ∃ i, insAt cn C p = i := ⟨_, rfl⟩
  obtain ⟨l, hl⟩ : ∃ l, litAt ln L i.a = l := ⟨_, rfl⟩
  have F0 : selV ln L cn C p args = if i.op = 14 ∧ i.b = args ∧ l.kind = 3 then l.text else ⟨#[]⟩ := by rw [← hl, ← hi]; rfl
  have HI := Lib.hid hi
  have HL := Lib.hid hl
  clear hi hl
  by_cases e1 : i.op = 14
  · have g1 : (i.op != 14) = false := by simpa using e1
    by_cases e2 : i.b = args
    · have g2 : (i.b != args) = false := by simpa using e2
      by_cases e3 : l.kind = 3
      · have g3 : (l.kind != 3) = false := by simpa using e3
        have F : Hid (selV ln L cn C p args = l.text) := F0.trans (if_pos ⟨e1, e2, e3⟩)
        clear F0 e1 e2 e3
        go_enter Try.func29, Try.ntmps29
        go_wp2_with (first | (go_at_call 24; (with_reducible refine (at_any hM (by (repeat' (first | (with_reducible exact Below.refl _ _) | (with_reducible assumption) | (with_reducible refine below_drewN ?_ _) | (with_reducible refine Below.alloc ?_ ?_ _) | (with_reducible refine Below.drew ?_) | (with_reducible refine Below.setCell ?_ ?_ _) | go_size))) _).mono ?_); rw [HI.out]; rintro e w1 ⟨rfl, hb⟩; have hB := thru hb (show Below w0.heap.size w0 _ by (repeat' (first | (with_reducible exact Below.refl _ _) | (with_reducible assumption) | (with_reducible refine below_drewN ?_ _) | (with_reducible refine Below.alloc ?_ ?_ _) | (with_reducible refine Below.drew ?_) | (with_reducible refine Below.setCell ?_ ?_ _) | go_size))); have hW := hB.size; have hS := thru hb (show Below w.heap.size w _ by (repeat' (first | (with_reducible exact Below.refl _ _) | (with_reducible assumption) | (with_reducible refine below_drewN ?_ _) | (with_reducible refine Below.alloc ?_ ?_ _) | (with_reducible refine Below.drew ?_) | (with_reducible refine Below.setCell ?_ ?_ _) | go_size))); have hV := hS.size; obtain ⟨hc, hf⟩ := bcell hb; obtain ⟨hl, hl'⟩ := bsize hb; (try simp only [World.size_alloc, World.size_setCell, World.size_drew, size_drewN] at hc hf hl hl')) | (go_at_call 38; (with_reducible refine (lit_any hM (by (repeat' (first | (with_reducible exact Below.refl _ _) | (with_reducible assumption) | (with_reducible refine below_drewN ?_ _) | (with_reducible refine Below.alloc ?_ ?_ _) | (with_reducible refine Below.drew ?_) | (with_reducible refine Below.setCell ?_ ?_ _) | go_size))) _).mono ?_); rw [HL.out]; rintro e w1 ⟨rfl, hb⟩; have hB := thru hb (show Below w0.heap.size w0 _ by (repeat' (first | (with_reducible exact Below.refl _ _) | (with_reducible assumption) | (with_reducible refine below_drewN ?_ _) | (with_reducible refine Below.alloc ?_ ?_ _) | (with_reducible refine Below.drew ?_) | (with_reducible refine Below.setCell ?_ ?_ _) | go_size))); have hW := hB.size; have hS := thru hb (show Below w.heap.size w _ by (repeat' (first | (with_reducible exact Below.refl _ _) | (with_reducible assumption) | (with_reducible refine below_drewN ?_ _) | (with_reducible refine Below.alloc ?_ ?_ _) | (with_reducible refine Below.drew ?_) | (with_reducible refine Below.setCell ?_ ?_ _) | go_size))); have hV := hS.size; obtain ⟨hc, hf⟩ := bcell hb; obtain ⟨hl, hl'⟩ := bsize hb; (try simp only [World.size_alloc, World.size_setCell, World.size_drew, size_drewN] at hc hf hl hl')))
        go_ret
        refine ⟨by (rw [F.out]; try rfl), ?_⟩
        (repeat' (first | (with_reducible exact Below.refl _ _) | (with_reducible assumption) | (with_reducible refine below_drewN ?_ _) | (with_reducible refine Below.alloc ?_ ?_ _) | (with_reducible refine Below.drew ?_) | (with_reducible refine Below.setCell ?_ ?_ _) | go_size))
        
      · have g3 : (l.kind != 3) = true := by simpa using e3
        have F : Hid (selV ln L cn C p args = ⟨#[]⟩) := F0.trans (if_neg fun h => e3 h.2.2)
        clear F0 e1 e2 e3
        go_enter Try.func29, Try.ntmps29
        go_wp2_with (first | (go_at_call 24; (with_reducible refine (at_any hM (by (repeat' (first | (with_reducible exact Below.refl _ _) | (with_reducible assumption) | (with_reducible refine below_drewN ?_ _) | (with_reducible refine Below.alloc ?_ ?_ _) | (with_reducible refine Below.drew ?_) | (with_reducible refine Below.setCell ?_ ?_ _) | go_size))) _).mono ?_); rw [HI.out]; rintro e w1 ⟨rfl, hb⟩; have hB := thru hb (show Below w0.heap.size w0 _ by (repeat' (first | (with_reducible exact Below.refl _ _) | (with_reducible assumption) | (with_reducible refine below_drewN ?_ _) | (with_reducible refine Below.alloc ?_ ?_ _) | (with_reducible refine Below.drew ?_) | (with_reducible refine Below.setCell ?_ ?_ _) | go_size))); have hW := hB.size; have hS := thru hb (show Below w.heap.size w _ by (repeat' (first | (with_reducible exact Below.refl _ _) | (with_reducible assumption) | (with_reducible refine below_drewN ?_ _) | (with_reducible refine Below.alloc ?_ ?_ _) | (with_reducible refine Below.drew ?_) | (with_reducible refine Below.setCell ?_ ?_ _) | go_size))); have hV := hS.size; obtain ⟨hc, hf⟩ := bcell hb; obtain ⟨hl, hl'⟩ := bsize hb; (try simp only [World.size_alloc, World.size_setCell, World.size_drew, size_drewN] at hc hf hl hl')) | (go_at_call 38; (with_reducible refine (lit_any hM (by (repeat' (first | (with_reducible exact Below.refl _ _) | (with_reducible assumption) | (with_reducible refine below_drewN ?_ _) | (with_reducible refine Below.alloc ?_ ?_ _) | (with_reducible refine Below.drew ?_) | (with_reducible refine Below.setCell ?_ ?_ _) | go_size))) _).mono ?_); rw [HL.out]; rintro e w1 ⟨rfl, hb⟩; have hB := thru hb (show Below w0.heap.size w0 _ by (repeat' (first | (with_reducible exact Below.refl _ _) | (with_reducible assumption) | (with_reducible refine below_drewN ?_ _) | (with_reducible refine Below.alloc ?_ ?_ _) | (with_reducible refine Below.drew ?_) | (with_reducible refine Below.setCell ?_ ?_ _) | go_size))); have hW := hB.size; have hS := thru hb (show Below w.heap.size w _ by (repeat' (first | (with_reducible exact Below.refl _ _) | (with_reducible assumption) | (with_reducible refine below_drewN ?_ _) | (with_reducible refine Below.alloc ?_ ?_ _) | (with_reducible refine Below.drew ?_) | (with_reducible refine Below.setCell ?_ ?_ _) | go_size))); have hV := hS.size; obtain ⟨hc, hf⟩ := bcell hb; obtain ⟨hl, hl'⟩ := bsize hb; (try simp only [World.size_alloc, World.size_setCell, World.size_drew, size_drewN] at hc hf hl hl')))
        go_ret
        refine ⟨by (rw [F.out]; try rfl), ?_⟩
        (repeat' (first | (with_reducible exact Below.refl _ _) | (with_reducible assumption) | (with_reducible refine below_drewN ?_ _) | (with_reducible refine Below.alloc ?_ ?_ _) | (with_reducible refine Below.drew ?_) | (with_reducible refine Below.setCell ?_ ?_ _) | go_size))
        
    · have g2 : (i.b != args) = true := by simpa using e2
      have F : Hid (selV ln L cn C p args = ⟨#[]⟩) := F0.trans (if_neg fun h => e2 h.2.1)
      clear F0 e1 e2
      go_enter Try.func29, Try.ntmps29
      go_wp2_with (first | (go_at_call 24; (with_reducible refine (at_any hM (by (repeat' (first | (with_reducible exact Below.refl _ _) | (with_reducible assumption) | (with_reducible refine below_drewN ?_ _) | (with_reducible refine Below.alloc ?_ ?_ _) | (with_reducible refine Below.drew ?_) | (with_reducible refine Below.setCell ?_ ?_ _) | go_size))) _).mono ?_); rw [HI.out]; rintro e w1 ⟨rfl, hb⟩; have hB := thru hb (show Below w0.heap.size w0 _ by (repeat' (first | (with_reducible exact Below.refl _ _) | (with_reducible assumption) | (with_reducible refine below_drewN ?_ _) | (with_reducible refine Below.alloc ?_ ?_ _) | (with_reducible refine Below.drew ?_) | (with_reducible refine Below.setCell ?_ ?_ _) | go_size))); have hW := hB.size; have hS := thru hb (show Below w.heap.size w _ by (repeat' (first | (with_reducible exact Below.refl _ _) | (with_reducible assumption) | (with_reducible refine below_drewN ?_ _) | (with_reducible refine Below.alloc ?_ ?_ _) | (with_reducible refine Below.drew ?_) | (with_reducible refine Below.setCell ?_ ?_ _) | go_size))); have hV := hS.size; obtain ⟨hc, hf⟩ := bcell hb; obtain ⟨hl, hl'⟩ := bsize hb; (try simp only [World.size_alloc, World.size_setCell, World.size_drew, size_drewN] at hc hf hl hl')) | (go_at_call 38; (with_reducible refine (lit_any hM (by (repeat' (first | (with_reducible exact Below.refl _ _) | (with_reducible assumption) | (with_reducible refine below_drewN ?_ _) | (with_reducible refine Below.alloc ?_ ?_ _) | (with_reducible refine Below.drew ?_) | (with_reducible refine Below.setCell ?_ ?_ _) | go_size))) _).mono ?_); rw [HL.out]; rintro e w1 ⟨rfl, hb⟩; have hB := thru hb (show Below w0.heap.size w0 _ by (repeat' (first | (with_reducible exact Below.refl _ _) | (with_reducible assumption) | (with_reducible refine below_drewN ?_ _) | (with_reducible refine Below.alloc ?_ ?_ _) | (with_reducible refine Below.drew ?_) | (with_reducible refine Below.setCell ?_ ?_ _) | go_size))); have hW := hB.size; have hS := thru hb (show Below w.heap.size w _ by (repeat' (first | (with_reducible exact Below.refl _ _) | (with_reducible assumption) | (with_reducible refine below_drewN ?_ _) | (with_reducible refine Below.alloc ?_ ?_ _) | (with_reducible refine Below.drew ?_) | (with_reducible refine Below.setCell ?_ ?_ _) | go_size))); have hV := hS.size; obtain ⟨hc, hf⟩ := bcell hb; obtain ⟨hl, hl'⟩ := bsize hb; (try simp only [World.size_alloc, World.size_setCell, World.size_drew, size_drewN] at hc hf hl hl')))
      go_ret
      refine ⟨by (rw [F.out]; try rfl), ?_⟩
      (repeat' (first | (with_reducible exact Below.refl _ _) | (with_reducible assumption) | (with_reducible refine below_drewN ?_ _) | (with_reducible refine Below.alloc ?_ ?_ _) | (with_reducible refine Below.drew ?_) | (with_reducible refine Below.setCell ?_ ?_ _) | go_size))
      
  · have g1 : (i.op != 14) = true := by simpa using e1
    have F : Hid (selV ln L cn C p args = ⟨#[]⟩) := F0.trans (if_neg fun h => e1 h.1)
    clear F0 e1
    go_enter Try.func29, Try.ntmps29
    go_wp2_with (first | (go_at_call 24; (with_reducible refine (at_any hM (by (repeat' (first | (with_reducible exact Below.refl _ _) | (with_reducible assumption) | (with_reducible refine below_drewN ?_ _) | (with_reducible refine Below.alloc ?_ ?_ _) | (with_reducible refine Below.drew ?_) | (with_reducible refine Below.setCell ?_ ?_ _) | go_size))) _).mono ?_); rw [HI.out]; rintro e w1 ⟨rfl, hb⟩; have hB := thru hb (show Below w0.heap.size w0 _ by (repeat' (first | (with_reducible exact Below.refl _ _) | (with_reducible assumption) | (with_reducible refine below_drewN ?_ _) | (with_reducible refine Below.alloc ?_ ?_ _) | (with_reducible refine Below.drew ?_) | (with_reducible refine Below.setCell ?_ ?_ _) | go_size))); have hW := hB.size; have hS := thru hb (show Below w.heap.size w _ by (repeat' (first | (with_reducible exact Below.refl _ _) | (with_reducible assumption) | (with_reducible refine below_drewN ?_ _) | (with_reducible refine Below.alloc ?_ ?_ _) | (with_reducible refine Below.drew ?_) | (with_reducible refine Below.setCell ?_ ?_ _) | go_size))); have hV := hS.size; obtain ⟨hc, hf⟩ := bcell hb; obtain ⟨hl, hl'⟩ := bsize hb; (try simp only [World.size_alloc, World.size_setCell, World.size_drew, size_drewN] at hc hf hl hl')) | (go_at_call 38; (with_reducible refine (lit_any hM (by (repeat' (first | (with_reducible exact Below.refl _ _) | (with_reducible assumption) | (with_reducible refine below_drewN ?_ _) | (with_reducible refine Below.alloc ?_ ?_ _) | (with_reducible refine Below.drew ?_) | (with_reducible refine Below.setCell ?_ ?_ _) | go_size))) _).mono ?_); rw [HL.out]; rintro e w1 ⟨rfl, hb⟩; have hB := thru hb (show Below w0.heap.size w0 _ by (repeat' (first | (with_reducible exact Below.refl _ _) | (with_reducible assumption) | (with_reducible refine below_drewN ?_ _) | (with_reducible refine Below.alloc ?_ ?_ _) | (with_reducible refine Below.drew ?_) | (with_reducible refine Below.setCell ?_ ?_ _) | go_size))); have hW := hB.size; have hS := thru hb (show Below w.heap.size w _ by (repeat' (first | (with_reducible exact Below.refl _ _) | (with_reducible assumption) | (with_reducible refine below_drewN ?_ _) | (with_reducible refine Below.alloc ?_ ?_ _) | (with_reducible refine Below.drew ?_) | (with_reducible refine Below.setCell ?_ ?_ _) | go_size))); have hV := hS.size; obtain ⟨hc, hf⟩ := bcell hb; obtain ⟨hl, hl'⟩ := bsize hb; (try simp only [World.size_alloc, World.size_setCell, World.size_drew, size_drewN] at hc hf hl hl')))
    go_ret
    refine ⟨by (rw [F.out]; try rfl), ?_⟩
    (repeat' (first | (with_reducible exact Below.refl _ _) | (with_reducible assumption) | (with_reducible refine below_drewN ?_ _) | (with_reducible refine Below.alloc ?_ ?_ _) | (with_reducible refine Below.drew ?_) | (with_reducible refine Below.setCell ?_ ?_ _) | go_size))
    

theorem letter_any (t : ByteArray) (w : World) : Calls Try.prog 36 #[.string t] w fun e w' => e = .returned (.bool (letterV t)) ∧ w' = w := by
  obtain ⟨⟨l⟩⟩ := t
  match l with
  | [] =>
    have F : Hid (letterV ⟨⟨[]⟩⟩ = false) := rfl
    go_enter Try.func36, Try.ntmps36
    go_wp2
    go_ret
    exact ⟨by rw [F.out]; rfl, rfl⟩
  | c :: r =>
    have F : Hid (letterV ⟨⟨c :: r⟩⟩ = letB c) := rfl
    have hsz : 0 < (⟨⟨c :: r⟩⟩ : ByteArray).size := by show 0 < (c :: r).length; simp
    have hne0 : ¬ (⟨⟨c :: r⟩⟩ : ByteArray).toList = [] := fun h => by
      have := congrArg ByteArray.size ((toList_nil_iff_emptyBytes _).1 h)
      rw [show ByteArray.empty.size = 0 from rfl] at this; omega
    have he : (⟨⟨c :: r⟩⟩ : ByteArray).toList.isEmpty = false := by rw [List.isEmpty_eq_false_iff]; exact hne0
    obtain ⟨t, ht⟩ : ∃ t : ByteArray, t = ⟨⟨c :: r⟩⟩ := ⟨_, rfl⟩
    have hg : ∀ h : 0 < t.size, t[0] = c := by subst ht; intro h; rfl
    rw [← ht] at hsz he hne0 F ⊢
    clear ht
    have hc := hg hsz
    have B : letB c = ((decide (97 ≤ (c.toNat : Int)) && decide ((c.toNat : Int) ≤ 122)) || (decide (65 ≤ (c.toNat : Int)) && decide ((c.toNat : Int) ≤ 90))) := by
      unfold letB
      rw [Bool.eq_iff_iff]
      simp only [UInt8.le_iff_toNat_le, Bool.or_eq_true, Bool.and_eq_true, decide_eq_true_eq]
      simp; omega
    obtain ⟨n, hn⟩ : ∃ n : Nat, c.toNat = n := ⟨_, rfl⟩
    rw [hn] at B
    rw [B] at F
    have hn' : t[0].toNat = n := by rw [hc, hn]
    clear hc hg B hn
    have F' := F.out
    clear F
    by_cases k1 : 97 ≤ (n : Int)
    · by_cases k2 : (n : Int) ≤ 122
      · have F : Hid (letterV t = true) := by show _ = _; rw [F']; simp; omega
        clear F'
        go_enter Try.func36, Try.ntmps36
        go_wp2
        go_ret
        exact ⟨by rw [F.out]; rfl, rfl⟩
      · by_cases k3 : (n : Int) ≤ 90
        · exfalso; omega
        · have F : Hid (letterV t = false) := by show _ = _; rw [F']; simp; omega
          clear F'
          go_enter Try.func36, Try.ntmps36
          go_wp2
          go_ret
          exact ⟨by rw [F.out]; rfl, rfl⟩
    · by_cases k3 : 65 ≤ (n : Int)
      · by_cases k4 : (n : Int) ≤ 90
        · have F : Hid (letterV t = true) := by show _ = _; rw [F']; simp; omega
          clear F'
          go_enter Try.func36, Try.ntmps36
          go_wp2
          go_ret
          exact ⟨by rw [F.out]; rfl, rfl⟩
        · have F : Hid (letterV t = false) := by show _ = _; rw [F']; simp; omega
          clear F'
          go_enter Try.func36, Try.ntmps36
          go_wp2
          go_ret
          exact ⟨by rw [F.out]; rfl, rfl⟩
      · have F : Hid (letterV t = false) := by show _ = _; rw [F']; simp; omega
        clear F'
        go_enter Try.func36, Try.ntmps36
        go_wp2
        go_ret
        exact ⟨by rw [F.out]; rfl, rfl⟩

end
end Go.Proofs.Ytjiidjcehhdnbaa
