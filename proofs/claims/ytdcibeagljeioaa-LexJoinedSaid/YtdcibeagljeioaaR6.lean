/- Chapter 06: the reference's text. -/
import Derived.Test.YtdcibeagljeioaaR5
import Derived.BigRegion
namespace Go.Proofs.Ytdcibeagljeioaa
open Go.ChangeShapes Go.WideShapes Go.ChangeAt Go.RowKit
set_option linter.unusedVariables false
set_option linter.unusedSimpArgs false
/-- a token's own box, and the one of the answer behind it -/
structure Boxed (w wr : World) (K : Int) (O : ByteArray) (N : Int) (i : Nat) : Prop where
  c0 : wr.cell? ⟨w.heap.size, 0, none⟩ = some (.int .i64 K)
  c1 : wr.cell? ⟨w.heap.size, 1, none⟩ = some (.string O)
  c2 : wr.cell? ⟨w.heap.size, 2, none⟩ = some (.int .i64 N)
  c3 : wr.cell? ⟨w.heap.size, 3, none⟩ = some (.int .i64 i)
  r0 : wr.cell? ⟨w.heap.size + 1, 0, none⟩ = some (.int .i64 0)
  r1 : wr.cell? ⟨w.heap.size + 1, 1, none⟩ = some (.string ⟨#[]⟩)
  r2 : wr.cell? ⟨w.heap.size + 1, 2, none⟩ = some (.int .i64 0)
  r3 : wr.cell? ⟨w.heap.size + 1, 3, none⟩ = some (.int .i64 0)
  f1 : wr.frozen? ⟨w.heap.size, 1, none⟩ = false
  g0 : wr.frozen? ⟨w.heap.size + 1, 0, none⟩ = false
  g1 : wr.frozen? ⟨w.heap.size + 1, 1, none⟩ = false
  g2 : wr.frozen? ⟨w.heap.size + 1, 2, none⟩ = false
  g3 : wr.frozen? ⟨w.heap.size + 1, 3, none⟩ = false
  sz : w.heap.size + 2 ≤ wr.heap.size
  grown : w.grownBy wr none
theorem txt_plain {x : UInt8} (h : (x == 39) = false) (l : Bs) : txt (x :: l) = (txt l).map (fun z => (x :: z.1, z.2 + 1)) := by
  cases l with
  | nil => simp only [txt, h]; rfl
  | cons d r => rw [txt, if_neg (by simp [h])]
theorem txt_two {l : Bs} (h : hd (· == 39) l = true) : txt (39 :: l) = (txt (l.drop 1)).map (fun z => (39 :: z.1, z.2 + 2)) := by
  cases l with
  | nil => cases h
  | cons d r => rw [txt, if_pos (by decide), if_pos (show (d == 39) = true from h)]; rfl
theorem txt_end {l : Bs} (h : hd (· == 39) l = false) : txt (39 :: l) = some ([], 1) := by
  cases l with
  | nil => rfl
  | cons d r => rw [txt, if_pos (by decide), if_neg (by simpa [hd] using h)]
theorem one_byte {s : ByteArray} {j : Nat} (h : j < s.size) {t : ByteArray} (ht : s.extract j (j + 1) = t) : t.data.toList = [s[j]] := by
  rw [← ht, ext_list, byte_cons h, byteU_lt h]; rfl
theorem Boxed.put {w wr : World} {K : Int} {O : ByteArray} {N : Int} {i : Nat} (h : Boxed w wr K O N i) (O' : ByteArray) : Boxed w ((wr.setCell ⟨w.heap.size, 1, none⟩ (.string O')).drew) K O' N i where
  c0 := (World.cell?_setCell_other _ _ _ _ (by simp)).trans h.c0
  c1 := World.cell?_setCell_same _ _ _ h.c1
  c2 := (World.cell?_setCell_other _ _ _ _ (by simp)).trans h.c2
  c3 := (World.cell?_setCell_other _ _ _ _ (by simp)).trans h.c3
  r0 := (World.cell?_setCell_other _ _ _ _ (by simp)).trans h.r0
  r1 := (World.cell?_setCell_other _ _ _ _ (by simp)).trans h.r1
  r2 := (World.cell?_setCell_other _ _ _ _ (by simp)).trans h.r2
  r3 := (World.cell?_setCell_other _ _ _ _ (by simp)).trans h.r3
  f1 := (World.frozen?_setCell _ _ _ _).trans h.f1
  g0 := (World.frozen?_setCell _ _ _ _).trans h.g0
  g1 := (World.frozen?_setCell _ _ _ _).trans h.g1
  g2 := (World.frozen?_setCell _ _ _ _).trans h.g2
  g3 := (World.frozen?_setCell _ _ _ _).trans h.g3
  sz := by have := h.sz; simpa using this
  grown := grown_drewN (grown_setOwn h.grown (Nat.le_refl _) _) 1
theorem Boxed.put' {w wr : World} {K : Int} {O : ByteArray} {N : Int} {i : Nat} (h : Boxed w wr K O N i) (O' : ByteArray) : Boxed w (wr.setCell ⟨w.heap.size, 1, none⟩ (.string O')) K O' N i where
  c0 := (World.cell?_setCell_other _ _ _ _ (by simp)).trans h.c0
  c1 := World.cell?_setCell_same _ _ _ h.c1
  c2 := (World.cell?_setCell_other _ _ _ _ (by simp)).trans h.c2
  c3 := (World.cell?_setCell_other _ _ _ _ (by simp)).trans h.c3
  r0 := (World.cell?_setCell_other _ _ _ _ (by simp)).trans h.r0
  r1 := (World.cell?_setCell_other _ _ _ _ (by simp)).trans h.r1
  r2 := (World.cell?_setCell_other _ _ _ _ (by simp)).trans h.r2
  r3 := (World.cell?_setCell_other _ _ _ _ (by simp)).trans h.r3
  f1 := (World.frozen?_setCell _ _ _ _).trans h.f1
  g0 := (World.frozen?_setCell _ _ _ _).trans h.g0
  g1 := (World.frozen?_setCell _ _ _ _).trans h.g1
  g2 := (World.frozen?_setCell _ _ _ _).trans h.g2
  g3 := (World.frozen?_setCell _ _ _ _).trans h.g3
  sz := by have := h.sz; simpa using this
  grown := grown_setOwn h.grown (Nat.le_refl _) _
def RTextRel (w : World) (s : ByteArray) (K N : Int) (i g : Nat) (o : Value) (wr : World) : Prop :=
  ∃ (j : Nat) (O : ByteArray), o = .int .i64 j ∧ g + j = s.size ∧ i + 1 ≤ j ∧ O.size ≤ j - (i + 1) ∧ txt (s.data.toList.drop (i + 1)) = (txt (s.data.toList.drop j)).map (fun x => (O.data.toList ++ x.1, x.2 + (j - (i + 1)))) ∧ Boxed w wr K O N i
def RTextPost (w : World) (s : ByteArray) (K N : Int) (i : Nat) (e : Ending) (w' : World) : Prop := w.grownBy w' none ∧
  ((txt (s.data.toList.drop (i + 1)) = none ∧ ∃ T, e = .returned (.tuple #[.agg #[.int .i64 K, .string T, .int .i64 N, .int .i64 i], .int .i64 0, .int .i64 11])) ∨
   ∃ (t : Bs) (n : Nat) (T : ByteArray), txt (s.data.toList.drop (i + 1)) = some (t, n) ∧ T.data.toList = t ∧ e = .returned (.tuple #[.agg #[.int .i64 K, .string T, .int .i64 N, .int .i64 i], .int .i64 ((i + 1 + n : Nat) : Int), .int .i64 0]))
set_option maxHeartbeats 4000000 in
theorem rtext_any (s : ByteArray) (i : Nat) (K N : Int) (w : World) (hs : s.size ≤ 100000) (hi : i + 1 ≤ s.size) :
    Calls Try.prog 34 #[.string s, .agg #[.int .i64 K, .string ⟨#[]⟩, .int .i64 N, .int .i64 i]] w (RTextPost w s K N i) := by
  go_enter Try.func34, Try.ntmps34
  go_wp2
  go_loopg [7] (s.size - (i + 1)) (fun g o wr => RTextRel w s K N i g o wr)
  case atStart =>
    refine ⟨i + 1, ⟨#[]⟩, by go_num, by omega, by omega, Nat.zero_le _, ?_, ?_⟩
    · cases txt (s.data.toList.drop (i + 1)) with
      | none => rfl
      | some z => simp
    · exact { c0 := by (first | assumption | (simp [go_sem]; done) | (simp [go_sem, *]; done)), c1 := by (first | assumption | (simp [go_sem]; done) | (simp [go_sem, *]; done)), c2 := by (first | assumption | (simp [go_sem]; done) | (simp [go_sem, *]; done)), c3 := by (first | assumption | (simp [go_sem]; done) | (simp [go_sem, *]; done)), r0 := by (first | assumption | (simp [go_sem]; done) | (simp [go_sem, *]; done)), r1 := by (first | assumption | (simp [go_sem]; done) | (simp [go_sem, *]; done)), r2 := by (first | assumption | (simp [go_sem]; done) | (simp [go_sem, *]; done)), r3 := by (first | assumption | (simp [go_sem]; done) | (simp [go_sem, *]; done)), f1 := by (first | assumption | (simp [go_sem]; done) | (simp [go_sem, *]; done)), g0 := by (first | assumption | (simp [go_sem]; done) | (simp [go_sem, *]; done)), g1 := by (first | assumption | (simp [go_sem]; done) | (simp [go_sem, *]; done)), g2 := by (first | assumption | (simp [go_sem]; done) | (simp [go_sem, *]; done)), g3 := by (first | assumption | (simp [go_sem]; done) | (simp [go_sem, *]; done)), sz := by go_size, grown := grown_alloc (grown_alloc (World.grownBy.refl _ _) _) _ }
  case round =>
    obtain ⟨j, O, rfl, hg, hij, hO, htx, hB⟩ := hrel
    have HTX := Lib.hid htx
    have HG := Lib.hid hg
    have HB := Lib.hid hB
    clear htx hg hB
    have B := HB.out
    obtain ⟨c0, c1, c2, c3, r0, r1, r2, r3, hfr, g0, g1, g2, g3, sz, grown⟩ := B
    by_cases hjs : j < s.size
    · have d0 : decide (j < s.size) = true := decide_eq_true hjs
      have b0 : (0 : Int) ≤ (j : Int) := by omega
      have b1 : (j : Int) < (s.size : Int) := by omega
      obtain ⟨x, hx⟩ : ∃ x, s[j] = x := ⟨_, rfl⟩
      have e39 := u8_ne x 39 (by omega)
      cases q39 : x == UInt8.ofNat 39
      · rw [q39] at e39
        have n39 : ((x.toNat : Int) != 39) = true := e39
        have Q39 : Hid ((x == 39) = false) := q39
        clear e39 q39
        have e1 : IntKind.i64.wrap ((j : Int) + 1) = (j : Int) + 1 := IntWalk.i64_in _ (by omega)
        have b2 : (j : Int) + 1 ≤ (s.size : Int) := by omega
        have b3 : (0 : Int) ≤ (j : Int) + 1 := by omega
        have b4 : j + 1 ≤ s.size := by omega
        have b5 : (j : Int) ≤ (j : Int) + 1 := by omega
        have b6 : j ≤ j + 1 := by omega
        have b7 : (j : Int) + 1 = ((j + 1 : Nat) : Int) := by omega
        have b8 : ((j : Int) + 1).toNat = j + 1 := by omega
        have b9 : j ≤ s.size := by omega
        have b10 : (j : Int) ≤ (s.size : Int) := by omega
        clear b7
        have hcat : O.size + 1 ≤ 100000 := by omega
        have hz : (s.extract j (j + 1)).size = 1 := size_ext s j 1 (by omega)
        obtain ⟨t, ht⟩ : ∃ t, s.extract j (j + 1) = t := ⟨_, rfl⟩
        rw [ht] at hz
        have HL := Lib.hid (one_byte hjs ht)
        have HC := Lib.hid (byte_cons hjs)
        have HU := Lib.hid (byteU_lt hjs)
        go_wp2
        go_region
        go_wp2
        go_roundg (gk - 1)
        case measure => have h2 := HG.out; omega
        case rel =>
          have h2 := HG.out
          refine ⟨j + 1, O ++ t, rfl, by omega, by omega, by simp; omega, ?_, HB.out.put _⟩
          rw [HTX.out, HC.out, HU.out, hx, txt_plain Q39.out]
          have h3 := HL.out
          cases txt (s.data.toList.drop (j + 1)) with
          | none => rfl
          | some z => simp [h3, hx]; omega
      · rw [q39] at e39
        have n39 : ((x.toNat : Int) != 39) = false := e39
        have Q39 : Hid (x = 39) := by show _ = _; simpa using q39
        clear e39 q39
        have HC := Lib.hid (byte_cons hjs)
        have HU := Lib.hid (byteU_lt hjs)
        have HH := Lib.hid (hd_byte (p := (· == 39)) rfl s (j + 1))
        have b3 : (0 : Int) ≤ (j : Int) + 1 := by omega
        by_cases h1 : j + 1 < s.size
        · have d1 : decide (j + 1 < s.size) = true := decide_eq_true h1
          have d1' : decide ((j : Int) + 1 < (s.size : Int)) = true := decide_eq_true (by omega)
          have b2 : (j : Int) + 1 < (s.size : Int) := by omega
          obtain ⟨y, hy⟩ : ∃ y, s[j + 1] = y := ⟨_, rfl⟩
          have HY : Hid (byteU s (j + 1) = y) := (byteU_lt h1).trans hy
          have z39 := u8_eq y 39 (by omega)
          cases q40 : y == UInt8.ofNat 39
          · rw [q40] at z39
            have m39 : ((y.toNat : Int) == 39) = false := z39
            have F : Hid (hd (· == 39) (s.data.toList.drop (j + 1)) = false) := by show _ = _; rw [HH.out, HY.out]; exact q40
            clear z39 q40
            go_wp2
            refine bodyPost_ret (v := .tuple #[.agg #[.int .i64 K, .string O, .int .i64 N, .int .i64 i], .int .i64 ((j : Int) + 1), .int .i64 0]) (by simp [results, Try.results34, go_sem, *]) rfl ?_
            refine ⟨?_, .inr ⟨O.data.toList, j + 1 - (i + 1), O, ?_, rfl, ?_⟩⟩
            · repeat' (first | (with_reducible assumption) | (with_reducible refine grown_drewN ?_ _) | (with_reducible refine grown_setOwn ?_ ?_ _) | omega)
            · rw [HTX.out, HC.out, HU.out, hx, Q39.out, txt_end F.out]
              simp; omega
            · rw [show i + 1 + (j + 1 - (i + 1)) = j + 1 by omega]; rfl
          · rw [q40] at z39
            have m39 : ((y.toNat : Int) == 39) = true := z39
            have F : Hid (hd (· == 39) (s.data.toList.drop (j + 1)) = true) := by show _ = _; rw [HH.out, HY.out]; exact q40
            have hcat : O.size + 1 ≤ 100000 := by omega
            have hcat2 : O.size + (⟨#[39]⟩ : ByteArray).size ≤ 100000 := hcat
            clear z39 q40
            go_wp2
            go_roundg (gk - 2)
            case measure => have h2 := HG.out; omega
            case rel =>
              have h2 := HG.out
              refine ⟨j + 2, _, rfl, by omega, by omega, by have h5 : (⟨#[39]⟩ : ByteArray).size = 1 := rfl; simp; omega, ?_, HB.out.put' _⟩
              rw [HTX.out, HC.out, HU.out, hx, Q39.out, txt_two F.out, List.drop_drop]
              cases txt (s.data.toList.drop (j + 1 + 1)) with
              | none => rfl
              | some z => simp; omega
        · have d1 : decide (j + 1 < s.size) = false := decide_eq_false h1
          have d1' : decide ((j : Int) + 1 < (s.size : Int)) = false := decide_eq_false (by omega)
          have F : Hid (hd (· == 39) (s.data.toList.drop (j + 1)) = false) := hd_end (by omega)
          go_wp2
          refine bodyPost_ret (v := .tuple #[.agg #[.int .i64 K, .string O, .int .i64 N, .int .i64 i], .int .i64 ((j : Int) + 1), .int .i64 0]) (by simp [results, Try.results34, go_sem, *]) rfl ?_
          refine ⟨?_, .inr ⟨O.data.toList, j + 1 - (i + 1), O, ?_, rfl, ?_⟩⟩
          · repeat' (first | (with_reducible assumption) | (with_reducible refine grown_drewN ?_ _) | (with_reducible refine grown_setOwn ?_ ?_ _) | omega)
          · rw [HTX.out, HC.out, HU.out, hx, Q39.out, txt_end F.out]
            simp; omega
          · rw [show i + 1 + (j + 1 - (i + 1)) = j + 1 by omega]; rfl
    · have d0 : decide (j < s.size) = false := decide_eq_false hjs
      have d0' : decide ((j : Int) < (s.size : Int)) = false := decide_eq_false (by omega)
      go_wp2
      refine bodyPost_ret (v := .tuple #[.agg #[.int .i64 K, .string O, .int .i64 N, .int .i64 i], .int .i64 0, .int .i64 11]) (by simp [results, Try.results34, go_sem, *]) rfl ?_
      refine ⟨?_, .inl ⟨?_, O, ?_⟩⟩
      · repeat' (first | (with_reducible assumption) | (with_reducible refine grown_drewN ?_ _) | (with_reducible refine grown_setOwn ?_ ?_ _) | omega)
      · rw [HTX.out, List.drop_eq_nil_of_le (by simpa using hjs)]; rfl
      · rfl
end Go.Proofs.Ytdcibeagljeioaa
