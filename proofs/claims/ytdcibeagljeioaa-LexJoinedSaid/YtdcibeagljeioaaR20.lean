/- Chapter 06: the reference's token: a number. -/
import Derived.Test.YtdcibeagljeioaaR19
namespace Go.Proofs.Ytdcibeagljeioaa
open Go.ChangeShapes Go.WideShapes Go.ChangeAt Go.RowKit
set_option linter.unusedVariables false
set_option linter.unusedSimpArgs false
/-- the answer's box, and a token's behind it -/
structure NBox (w wr : World) (v : Int) (i : Nat) : Prop where
  c0 : wr.cell? ⟨w.heap.size + 1, 0, none⟩ = some (.int .i64 4)
  c1 : wr.cell? ⟨w.heap.size + 1, 1, none⟩ = some (.string ⟨#[]⟩)
  c2 : wr.cell? ⟨w.heap.size + 1, 2, none⟩ = some (.int .i64 v)
  c3 : wr.cell? ⟨w.heap.size + 1, 3, none⟩ = some (.int .i64 i)
  r0 : wr.cell? ⟨w.heap.size, 0, none⟩ = some (.int .i64 0)
  r1 : wr.cell? ⟨w.heap.size, 1, none⟩ = some (.string ⟨#[]⟩)
  r2 : wr.cell? ⟨w.heap.size, 2, none⟩ = some (.int .i64 0)
  r3 : wr.cell? ⟨w.heap.size, 3, none⟩ = some (.int .i64 0)
  f2 : wr.frozen? ⟨w.heap.size + 1, 2, none⟩ = false
  g0 : wr.frozen? ⟨w.heap.size, 0, none⟩ = false
  g1 : wr.frozen? ⟨w.heap.size, 1, none⟩ = false
  g2 : wr.frozen? ⟨w.heap.size, 2, none⟩ = false
  g3 : wr.frozen? ⟨w.heap.size, 3, none⟩ = false
  sz : w.heap.size + 2 ≤ wr.heap.size
  grown : w.grownBy wr none
theorem NBox.put {w wr : World} {v : Int} {i : Nat} (h : NBox w wr v i) (x : Int) : NBox w (wr.setCell ⟨w.heap.size + 1, 2, none⟩ (.int .i64 x)) x i where
  c0 := (World.cell?_setCell_other _ _ _ _ (by simp)).trans h.c0
  c1 := (World.cell?_setCell_other _ _ _ _ (by simp)).trans h.c1
  c2 := World.cell?_setCell_same _ _ _ h.c2
  c3 := (World.cell?_setCell_other _ _ _ _ (by simp)).trans h.c3
  r0 := (World.cell?_setCell_other _ _ _ _ (by simp)).trans h.r0
  r1 := (World.cell?_setCell_other _ _ _ _ (by simp)).trans h.r1
  r2 := (World.cell?_setCell_other _ _ _ _ (by simp)).trans h.r2
  r3 := (World.cell?_setCell_other _ _ _ _ (by simp)).trans h.r3
  f2 := (World.frozen?_setCell _ _ _ _).trans h.f2
  g0 := (World.frozen?_setCell _ _ _ _).trans h.g0
  g1 := (World.frozen?_setCell _ _ _ _).trans h.g1
  g2 := (World.frozen?_setCell _ _ _ _).trans h.g2
  g3 := (World.frozen?_setCell _ _ _ _).trans h.g3
  sz := by have := h.sz; simpa using this
  grown := grown_setOwn h.grown (by omega) _
theorem let_dig {c : UInt8} (h : digB c = true) : letB c = false := by
  cases hl : letB c
  · rfl
  · have h1 := let_eq c
    have h2 := dig_eq c
    rw [hl] at h1
    rw [h] at h2
    have h1' := h1.symm
    have h2' := h2.symm
    simp only [Bool.or_eq_true, Bool.and_eq_true, decide_eq_true_eq] at h1' h2'
    omega
theorem kind_digit (c : UInt8) : (kindV c == 2) = digB c := by
  unfold kindV
  cases hd : digB c
  · cases letB c <;> cases blankB c <;> cases signB c <;> cases markB c <;> rfl
  · rw [let_dig hd]; rfl
theorem at_dig (s : ByteArray) (i : Nat) : hd digB (s.data.toList.drop i) = (atV s i == 2) := by
  unfold atV
  by_cases h : i < s.size
  · rw [dif_pos h, hd_drop h, kind_digit]
  · rw [dif_neg h, hd_end (by omega)]; rfl
theorem dig_len_step {c : UInt8} {r : Bs} (h : digB c = true) : digLen (c :: r) = digLen r + 1 := by simp [digLen, h]
theorem dig_len_end {l : Bs} (h : hd digB l = false) : digLen l = 0 := by
  cases l with
  | nil => rfl
  | cons c r => simp [hd] at h; simp [digLen, h]
theorem num_end {l : Bs} (h : hd digB l = false) (v : Int) : numV l v = some v := by
  cases l with
  | nil => rfl
  | cons c r => simp [hd] at h; simp [numV, h]
theorem tok_num0 {l : Bs} (h : hd digB l = true) : tokV l = match numV l 0 with | none => .err 2 | some n => .ok ⟨4, [], n⟩ (digLen l) := by
  obtain ⟨c, r, rfl, hc⟩ := hd_cons h
  simp only [tokV]
  rw [if_neg (by simp [let_dig hc]), if_pos hc]
  cases numV (c :: r) 0 <;> rfl
def NRel (w : World) (s : ByteArray) (i g : Nat) (o : Value) (wr : World) : Prop :=
  ∃ (j : Nat) (v : Int), o = .int .i64 j ∧ g + j = s.size ∧ i ≤ j ∧ 0 ≤ v ∧ v ≤ 1152921504606846976 ∧ numV (s.data.toList.drop i) 0 = numV (s.data.toList.drop j) v ∧ digLen (s.data.toList.drop i) = digLen (s.data.toList.drop j) + (j - i) ∧ NBox w wr v i
set_option maxRecDepth 100000 in
set_option maxHeartbeats 8000000 in
theorem rtok_num (s : ByteArray) (i : Nat) (w : World) (hs : s.size ≤ 100000) (hi : i < s.size) (hdg : hd digB (s.data.toList.drop i) = true) :
    Calls Try.prog 19 #[.string s, .int .i64 i] w (RPost (tokV (s.data.toList.drop i)) w i i) := by
  have HT := Lib.hid (tok_num0 hdg)
  obtain ⟨a, ha⟩ : ∃ a, a = (2 : Int) := ⟨_, rfl⟩
  have HA : Hid (atV s i = a) := by show _ = _; rw [ha]; have := at_dig s i; rw [hdg] at this; simpa using this.symm
  have a1 : (a == 1) = false := by rw [ha]; rfl
  have a2 : (a == 2) = true := by rw [ha]; rfl
  clear ha hdg
  go_enter Try.func19, Try.ntmps19
  go_wp2_with (first | (go_at_call 31; (with_reducible refine (rat_any _ _ _ hs).mono ?_); rw [HA.out]; rintro e w' ⟨rfl, rfl⟩))
  go_loopg [1] (s.size - i) (fun g o wr => NRel w s i g o wr)
  case atStart =>
    refine ⟨i, 0, rfl, by omega, by omega, by omega, by omega, rfl, by simp, ?_⟩
    exact { c0 := by (first | assumption | (simp [go_sem]; done) | (simp [go_sem, *]; done)), c1 := by (first | assumption | (simp [go_sem]; done) | (simp [go_sem, *]; done)), c2 := by (first | assumption | (simp [go_sem]; done) | (simp [go_sem, *]; done)), c3 := by (first | assumption | (simp [go_sem]; done) | (simp [go_sem, *]; done)), r0 := by (first | assumption | (simp [go_sem]; done) | (simp [go_sem, *]; done)), r1 := by (first | assumption | (simp [go_sem]; done) | (simp [go_sem, *]; done)), r2 := by (first | assumption | (simp [go_sem]; done) | (simp [go_sem, *]; done)), r3 := by (first | assumption | (simp [go_sem]; done) | (simp [go_sem, *]; done)), f2 := by (first | assumption | (simp [go_sem]; done) | (simp [go_sem, *]; done)), g0 := by (first | assumption | (simp [go_sem]; done) | (simp [go_sem, *]; done)), g1 := by (first | assumption | (simp [go_sem]; done) | (simp [go_sem, *]; done)), g2 := by (first | assumption | (simp [go_sem]; done) | (simp [go_sem, *]; done)), g3 := by (first | assumption | (simp [go_sem]; done) | (simp [go_sem, *]; done)), sz := by go_size, grown := grown_alloc (grown_alloc (World.grownBy.refl _ _) _) _ }
  case round =>
    obtain ⟨j, v, rfl, hg, hij, hv0, hv1, hnv, hdl, hB⟩ := hrel
    have HG := Lib.hid hg
    have HNV := Lib.hid hnv
    have HDL := Lib.hid hdl
    have HB := Lib.hid hB
    clear hg hnv hdl hB
    have B := HB.out
    obtain ⟨c0, c1, c2, c3, r0, r1, r2, r3, hfr, g0, g1, g2, g3, sz, grown⟩ := B
    have HAD := Lib.hid (at_dig s j)
    have hjs : j ≤ s.size := by have := HG.out; omega
    obtain ⟨b, hb⟩ : ∃ b, atV s j = b := ⟨_, rfl⟩
    have HAB := Lib.hid hb
    cases hd2 : b == 2
    · have HE : Hid (hd digB (s.data.toList.drop j) = false) := by show _ = _; rw [HAD.out, HAB.out]; exact hd2
      clear hb
      go_wp2_with (go_at_call 31; (with_reducible refine (rat_any _ _ _ hs).mono ?_); rw [HAB.out]; rintro e w' ⟨rfl, rfl⟩)
      refine bodyPost_ret (v := .tuple #[.agg #[.int .i64 4, .string ⟨#[]⟩, .int .i64 v, .int .i64 i], .int .i64 j, .int .i64 0]) (by simp [results, Try.results19, go_sem, *]) rfl ?_
      refine ⟨?_, .inr ⟨⟨4, [], v⟩, j - i, ⟨#[]⟩, ?_, rfl, ?_⟩⟩
      · repeat' (first | (with_reducible assumption) | (with_reducible refine grown_drewN ?_ _) | (with_reducible refine grown_setOwn ?_ ?_ _) | omega)
      · rw [HT.out, HNV.out, num_end HE.out, HDL.out, dig_len_end HE.out, Nat.zero_add]
      · rw [show i + (j - i) = j by omega]
    · have HE : Hid (hd digB (s.data.toList.drop j) = true) := by show _ = _; rw [HAD.out, HAB.out]; exact hd2
      have hjl : j < s.size := at_lt (k := 2) (by rw [hb]; simpa using hd2) (by decide)
      have b1 : (j : Int) < (s.size : Int) := by omega
      have b0 : (0 : Int) ≤ (j : Int) := by omega
      obtain ⟨c, hc⟩ : ∃ c, s[j] = c := ⟨_, rfl⟩
      have hcons := byte_cons hjl
      rw [byteU_lt hjl, hc] at hcons
      have HC := Lib.hid hcons
      have hdc : digB c = true := by have := HE.out; rw [hcons] at this; exact this
      have HDC := Lib.hid hdc
      have hde := dig_eq c
      rw [hdc] at hde
      have hde' := hde.symm
      simp only [Bool.and_eq_true, decide_eq_true_eq] at hde'
      obtain ⟨k1, k2⟩ := hde'
      clear hb hcons hde hdc
      by_cases hov : (1152921504606846976 - ((c.toNat : Int) - 48)) / 10 < v
      · have d1 : decide ((1152921504606846976 - ((c.toNat : Int) - 48)) / 10 < v) = true := decide_eq_true hov
        have F : Hid (numV (s.data.toList.drop i) 0 = none) := by
          show _ = _
          rw [HNV.out, HC.out, numV_step HDC.out, if_pos (by unfold big; omega)]
        clear hov
        go_wp2_with (go_at_call 31; (with_reducible refine (rat_any _ _ _ hs).mono ?_); rw [HAB.out]; rintro e w' ⟨rfl, rfl⟩)
        refine bodyPost_ret (v := .tuple #[.agg #[.int .i64 4, .string ⟨#[]⟩, .int .i64 v, .int .i64 i], .int .i64 0, .int .i64 2]) (by simp [results, Try.results19, go_sem, *]) rfl ?_
        refine ⟨?_, .inl ⟨_, ?_, _, _, _, rfl⟩⟩
        · repeat' (first | (with_reducible assumption) | (with_reducible refine grown_drewN ?_ _) | (with_reducible refine grown_setOwn ?_ ?_ _) | omega)
        · rw [HT.out, F.out]
      · have d1 : decide ((1152921504606846976 - ((c.toNat : Int) - 48)) / 10 < v) = false := decide_eq_false hov
        have m1 : 10 * v + ((c.toNat : Int) - 48) ≤ 1152921504606846976 := by omega
        have F : Hid (numV (s.data.toList.drop i) 0 = numV (s.data.toList.drop (j + 1)) (10 * v + ((c.toNat : Int) - 48))) := by
          show _ = _
          rw [HNV.out, HC.out, numV_step HDC.out, if_neg (by unfold big; omega), show v * 10 = 10 * v by omega]
        clear hov
        go_wp2_with (go_at_call 31; (with_reducible refine (rat_any _ _ _ hs).mono ?_); rw [HAB.out]; rintro e w' ⟨rfl, rfl⟩)
        go_roundg (gk - 1)
        case measure => have h2 := HG.out; omega
        case rel =>
          have h2 := HG.out
          refine ⟨j + 1, _, rfl, by omega, by omega, by omega, m1, F.out, ?_, HB.out.put _⟩
          rw [HDL.out, HC.out, dig_len_step HDC.out]; omega
end Go.Proofs.Ytdcibeagljeioaa
