/- Chapter 06: a token: colons, signs, marks. -/
import Derived.Test.YtdcibeagljeioaaW10
namespace Go.Proofs.Ytdcibeagljeioaa
open Go.ChangeShapes Go.WideShapes Go.ChangeAt Go.RowKit
set_option linter.unusedVariables false
set_option linter.unusedSimpArgs false

theorem runsig {w : World} {b : Nat} {s : ByteArray} {i n : Nat} {t : ByteArray} (h : At w b s i) (hs : s.size ≤ 100000) (hi : i ≤ s.size) (hn : sgLen (s.data.toList.drop i) = n) (ht : s.extract i (i + n) = t) (d : Nat) (hd_ : w.cell? ⟨d, 0, none⟩ = some (.string ⟨#[43, 45, 42, 47, 60, 62, 61, 126, 44, 64, 38, 37]⟩)) (hdb : d ≠ b) :
    Calls Try.prog 15 #[.pointer (some ⟨b, 0, none⟩), .func (.func 21) #[] #[.pointer (some ⟨d, 0, none⟩)], .int .i64 2] w fun e w' => e = .returned (.string t) ∧ Went w w' b s (i + n) := by
  have := run_in h hs hi 2 (by omega) bSigns d hd_ hdb
  rw [mem_signs] at this
  change Calls _ _ _ _ (fun e w' => e = .returned (.string (s.extract i (i + sgLen (s.data.toList.drop i)))) ∧ At w' b s (i + sgLen (s.data.toList.drop i)) ∧ w.grownBy w' (some b)) at this
  rw [hn, ht] at this
  exact this.mono fun e w' h' => ⟨h'.1, h'.2.1, h'.2.2⟩
theorem runmrk {w : World} {b : Nat} {s : ByteArray} {i : Nat} {t : ByteArray} (h : At w b s i) (hs : s.size ≤ 100000) (hi : i ≤ s.size) (hn : rl markB (s.data.toList.drop i) 1 = 1) (ht : s.extract i (i + 1) = t) (d : Nat) (hd_ : w.cell? ⟨d, 0, none⟩ = some (.string ⟨#[94, 46, 59, 40, 41, 91, 93, 124]⟩)) (hdb : d ≠ b) :
    Calls Try.prog 15 #[.pointer (some ⟨b, 0, none⟩), .func (.func 21) #[] #[.pointer (some ⟨d, 0, none⟩)], .int .i64 1] w fun e w' => e = .returned (.string t) ∧ Went w w' b s (i + 1) := by
  have := run_in h hs hi 1 (by omega) bMarks d hd_ hdb
  rw [mem_marks, hn, ht] at this
  exact this.mono fun e w' h' => ⟨h'.1, h'.2.1, h'.2.2⟩

set_option maxRecDepth 100000 in
set_option maxHeartbeats 4000000 in
theorem tok_asg {w : World} {b : Nat} {s : ByteArray} {i : Nat} (h : At w b s i) (hs : s.size ≤ 100000) (hi : i < s.size) (x y : UInt8) (hx : byteU s i = x) (hy : byteU s (i + 1) = y) (hl : letB x = false) (hdg : digB x = false) (ex39 : ((x.toNat : Int) == 39) = false) (ex35 : ((x.toNat : Int) == 35) = false) (e58 : ((x.toNat : Int) == 58) = true) (ey61 : ((y.toNat : Int) == 61) = true) (hT : tokV (x :: s.data.toList.drop (i + 1)) = .ok ⟨9, [], 0⟩ 2) (h2 : i + 2 ≤ s.size) :
    Calls Try.prog 18 #[.pointer (some ⟨b, 0, none⟩)] w (TokPost w b s i) := by
  have hi' : i ≤ s.size := by omega
  have hlb := h.lt
  have HX := Lib.hid hx
  have HY := Lib.hid hy
  have hcons := byte_cons hi
  rw [hx] at hcons
  have HC := Lib.hid hcons
  clear hx hy hcons
  have W0 := Went.refl h
  obtain ⟨c0, c1, f1⟩ := h
  have hne2 : w.heap.size ≠ b := by omega
  have hne4 : w.heap.size + 1 ≠ b := by omega
  have hne2' := hne2.symm
  have hne4' := hne4.symm
  have HT : Hid (tokV (s.data.toList.drop i) = .ok ⟨9, [], 0⟩ 2) := by
    show _ = _
    rw [HC.out]; exact hT
  clear hT
  go_enter Try.func18, Try.ntmps18
  go_wp2_with (first | (go_at_call 23; (with_reducible refine (next0 (i := i) (Went.at_ (w := w) ?_) hs hi').mono ?_); (focus (repeat' (first | (with_reducible assumption) | (with_reducible refine Went.alloc ?_ _) | (with_reducible refine Went.drewN ?_ _) | (with_reducible refine Went.inc (i := i) ?_ _) | (with_reducible refine Went.setOwn ?_ ?_ ?_ _) | omega))); rw [HX.out]; rintro e w9 ⟨rfl, n1, rfl⟩) | (go_at_call 24; (with_reducible refine (let_any x _).mono ?_); rw [hl]; rintro e w9 ⟨rfl, rfl⟩) | (go_at_call 27; (with_reducible refine (dig_any x _).mono ?_); rw [hdg]; rintro e w9 ⟨rfl, rfl⟩) | (go_at_call 23; (with_reducible refine (next1 (i := i) (Went.at_ (w := w) ?_) hs hi').mono ?_); (focus (repeat' (first | (with_reducible assumption) | (with_reducible refine Went.alloc ?_ _) | (with_reducible refine Went.drewN ?_ _) | (with_reducible refine Went.inc (i := i) ?_ _) | (with_reducible refine Went.setOwn ?_ ?_ ?_ _) | omega))); rw [HY.out]; rintro e w9 ⟨rfl, n2, rfl⟩))
  refine bodyPost_ret (v := .tuple #[.agg #[.int .i64 9, .string ⟨#[]⟩, .int .i64 0, .int .i64 i], .int .i64 0]) (by simp [results, Try.results18, go_sem, *]) rfl ?_
  right
  refine ⟨_, _, ⟨#[]⟩, HT.out, rfl, rfl, ?_⟩
  have hset : ∀ c : World, Went w c b s i → Went w (c.setCell ⟨b, 1, none⟩ (.int .i64 ((i : Int) + 2))) b s (i + 2) := fun c hc => hc.set (i + 2)
  (repeat' (first | (with_reducible assumption) | (with_reducible refine Went.alloc ?_ _) | (with_reducible refine Went.drewN ?_ _) | (with_reducible refine hset _ ?_) | (with_reducible refine Went.setOwn ?_ ?_ ?_ _) | omega))

set_option maxRecDepth 100000 in
set_option maxHeartbeats 4000000 in
theorem tok_par_long {w : World} {b : Nat} {s : ByteArray} {i : Nat} (h : At w b s i) (hs : s.size ≤ 100000) (hi : i < s.size) (x y : UInt8) (hx : byteU s i = x) (hy : byteU s (i + 1) = y) (hl : letB x = false) (hdg : digB x = false) (ex39 : ((x.toNat : Int) == 39) = false) (ex35 : ((x.toNat : Int) == 35) = false) (e58 : ((x.toNat : Int) == 58) = true) (ey61 : ((y.toNat : Int) == 61) = false) (hly : letB y = true) (n : Nat) (hn : nmLen (s.data.toList.drop (i + 1)) = n) (h24 : n > 24) (hT : tokV (x :: s.data.toList.drop (i + 1)) = .err 12) :
    Calls Try.prog 18 #[.pointer (some ⟨b, 0, none⟩)] w (TokPost w b s i) := by
  have hi' : i ≤ s.size := by omega
  have hlb := h.lt
  have HX := Lib.hid hx
  have HY := Lib.hid hy
  have hcons := byte_cons hi
  rw [hx] at hcons
  have HC := Lib.hid hcons
  clear hx hy hcons
  have W0 := Went.refl h
  obtain ⟨c0, c1, f1⟩ := h
  have hne2 : w.heap.size ≠ b := by omega
  have hne4 : w.heap.size + 1 ≠ b := by omega
  have hne2' := hne2.symm
  have hne4' := hne4.symm
  have HT : Hid (tokV (s.data.toList.drop i) = .err 12) := by
    show _ = _
    rw [HC.out]; exact hT
  clear hT
  have hi1 : i + 1 ≤ s.size := by omega
  have hbn := nm_bd s (i + 1) hi1
  rw [hn] at hbn
  have HN := Lib.hid hn
  clear hn
  go_enter Try.func18, Try.ntmps18
  go_wp2_with (first | (go_at_call 23; (with_reducible refine (next0 (i := i) (Went.at_ (w := w) ?_) hs hi').mono ?_); (focus (repeat' (first | (with_reducible assumption) | (with_reducible refine Went.alloc ?_ _) | (with_reducible refine Went.drewN ?_ _) | (with_reducible refine Went.inc (i := i) ?_ _) | (with_reducible refine Went.setOwn ?_ ?_ ?_ _) | omega))); rw [HX.out]; rintro e w9 ⟨rfl, n1, rfl⟩) | (go_at_call 24; (with_reducible refine (let_any x _).mono ?_); rw [hl]; rintro e w9 ⟨rfl, rfl⟩) | (go_at_call 27; (with_reducible refine (dig_any x _).mono ?_); rw [hdg]; rintro e w9 ⟨rfl, rfl⟩) | (go_at_call 23; (with_reducible refine (next1 (i := i) (Went.at_ (w := w) ?_) hs hi').mono ?_); (focus (repeat' (first | (with_reducible assumption) | (with_reducible refine Went.alloc ?_ _) | (with_reducible refine Went.drewN ?_ _) | (with_reducible refine Went.inc (i := i) ?_ _) | (with_reducible refine Went.setOwn ?_ ?_ ?_ _) | omega))); rw [HY.out]; rintro e w9 ⟨rfl, n2, rfl⟩) | (go_at_call 24; (with_reducible refine (let_any y _).mono ?_); rw [hly]; rintro e w9 ⟨rfl, rfl⟩) | (go_at_call 25; (with_reducible refine (name_long (Went.at_ (w := w) (i := i + 1) ?_) hs hi1 HN.out h24).mono ?_); (focus (repeat' (first | (with_reducible assumption) | (with_reducible refine Went.alloc ?_ _) | (with_reducible refine Went.drewN ?_ _) | (with_reducible refine Went.inc (i := i) ?_ _) | (with_reducible refine Went.setOwn ?_ ?_ ?_ _) | omega))); rintro e w1 ⟨rfl, hW1⟩; have W1 := Went.trans (a := w) (i := i + 1) (by (repeat' (first | (with_reducible assumption) | (with_reducible refine Went.alloc ?_ _) | (with_reducible refine Went.drewN ?_ _) | (with_reducible refine Went.inc (i := i) ?_ _) | (with_reducible refine Went.setOwn ?_ ?_ ?_ _) | omega))) hW1; obtain ⟨hc21, hf21, hl21⟩ := hW1.far (k := w.heap.size) (by go_size) (by omega); obtain ⟨hc41, hf41, hl41⟩ := hW1.far (k := w.heap.size + 1) (by go_size) (by omega); obtain ⟨g01, g11, g21⟩ := hW1.at_; have b401 := (hc41 0).trans (show _ = some (.int .i64 8) by (first | assumption | (simp [go_sem]; done) | (simp [go_sem, *]; done))); have b201 := (hc21 0).trans (show _ = some (.int .i64 0) by (first | assumption | (simp [go_sem]; done) | (simp [go_sem, *]; done))); have f401 := (hf41 0).trans (show _ = false by (first | assumption | (simp [go_sem]; done) | (simp [go_sem, *]; done))); have f201 := (hf21 0).trans (show _ = false by (first | assumption | (simp [go_sem]; done) | (simp [go_sem, *]; done))); have b411 := (hc41 1).trans (show _ = some (.string ⟨#[]⟩) by (first | assumption | (simp [go_sem]; done) | (simp [go_sem, *]; done))); have b211 := (hc21 1).trans (show _ = some (.string ⟨#[]⟩) by (first | assumption | (simp [go_sem]; done) | (simp [go_sem, *]; done))); have f411 := (hf41 1).trans (show _ = false by (first | assumption | (simp [go_sem]; done) | (simp [go_sem, *]; done))); have f211 := (hf21 1).trans (show _ = false by (first | assumption | (simp [go_sem]; done) | (simp [go_sem, *]; done))); have b421 := (hc41 2).trans (show _ = some (.int .i64 0) by (first | assumption | (simp [go_sem]; done) | (simp [go_sem, *]; done))); have b221 := (hc21 2).trans (show _ = some (.int .i64 0) by (first | assumption | (simp [go_sem]; done) | (simp [go_sem, *]; done))); have f421 := (hf41 2).trans (show _ = false by (first | assumption | (simp [go_sem]; done) | (simp [go_sem, *]; done))); have f221 := (hf21 2).trans (show _ = false by (first | assumption | (simp [go_sem]; done) | (simp [go_sem, *]; done))); have b431 := (hc41 3).trans (show _ = some (.int .i64 i) by (first | assumption | (simp [go_sem]; done) | (simp [go_sem, *]; done))); have b231 := (hc21 3).trans (show _ = some (.int .i64 0) by (first | assumption | (simp [go_sem]; done) | (simp [go_sem, *]; done))); have f431 := (hf41 3).trans (show _ = false by (first | assumption | (simp [go_sem]; done) | (simp [go_sem, *]; done))); have f231 := (hf21 3).trans (show _ = false by (first | assumption | (simp [go_sem]; done) | (simp [go_sem, *]; done))); clear W0 hW1 hc21 hf21 hc41 hf41))
  refine bodyPost_ret (v := .tuple #[.agg #[.int .i64 8, .string ⟨#[]⟩, .int .i64 0, .int .i64 i], .int .i64 12]) (by simp [results, Try.results18, go_sem, *]) rfl ?_
  left
  refine ⟨12, HT.out, by decide, 8, ⟨#[]⟩, 0, rfl, i + 1 + n, hbn, ?_⟩
  (repeat' (first | (with_reducible assumption) | (with_reducible refine Went.alloc ?_ _) | (with_reducible refine Went.drewN ?_ _) | (with_reducible refine Went.inc (i := i) ?_ _) | (with_reducible refine Went.setOwn ?_ ?_ ?_ _) | omega))

set_option maxRecDepth 100000 in
set_option maxHeartbeats 4000000 in
theorem tok_par {w : World} {b : Nat} {s : ByteArray} {i : Nat} (h : At w b s i) (hs : s.size ≤ 100000) (hi : i < s.size) (x y : UInt8) (hx : byteU s i = x) (hy : byteU s (i + 1) = y) (hl : letB x = false) (hdg : digB x = false) (ex39 : ((x.toNat : Int) == 39) = false) (ex35 : ((x.toNat : Int) == 35) = false) (e58 : ((x.toNat : Int) == 58) = true) (ey61 : ((y.toNat : Int) == 61) = false) (hly : letB y = true) (n : Nat) (hn : nmLen (s.data.toList.drop (i + 1)) = n) (h24 : ¬ n > 24) (hT : tokV (x :: s.data.toList.drop (i + 1)) = .ok ⟨8, (s.data.toList.drop (i + 1)).take n, 0⟩ (n + 1)) :
    Calls Try.prog 18 #[.pointer (some ⟨b, 0, none⟩)] w (TokPost w b s i) := by
  have hi' : i ≤ s.size := by omega
  have hlb := h.lt
  have HX := Lib.hid hx
  have HY := Lib.hid hy
  have hcons := byte_cons hi
  rw [hx] at hcons
  have HC := Lib.hid hcons
  clear hx hy hcons
  have W0 := Went.refl h
  obtain ⟨c0, c1, f1⟩ := h
  have hne2 : w.heap.size ≠ b := by omega
  have hne4 : w.heap.size + 1 ≠ b := by omega
  have hne2' := hne2.symm
  have hne4' := hne4.symm
  have HT : Hid (tokV (s.data.toList.drop i) = .ok ⟨8, (s.data.toList.drop (i + 1)).take n, 0⟩ (n + 1)) := by
    show _ = _
    rw [HC.out]; exact hT
  clear hT
  have hi1 : i + 1 ≤ s.size := by omega
  have hbn := nm_bd s (i + 1) hi1
  rw [hn] at hbn
  have HN := Lib.hid hn
  clear hn
  have hx_ := ext_list s (i + 1) n
  have hz_ := size_ext s (i + 1) n hbn
  obtain ⟨t, ht⟩ : ∃ t, s.extract (i + 1) ((i + 1) + n) = t := ⟨_, rfl⟩
  rw [ht] at hx_ hz_
  have HXT := Lib.hid hx_
  have HTT := Lib.hid ht
  have hzz : t.size ≤ 100000 := by omega
  clear hx_ hz_ ht
  go_enter Try.func18, Try.ntmps18
  go_wp2_with (first | (go_at_call 23; (with_reducible refine (next0 (i := i) (Went.at_ (w := w) ?_) hs hi').mono ?_); (focus (repeat' (first | (with_reducible assumption) | (with_reducible refine Went.alloc ?_ _) | (with_reducible refine Went.drewN ?_ _) | (with_reducible refine Went.inc (i := i) ?_ _) | (with_reducible refine Went.setOwn ?_ ?_ ?_ _) | omega))); rw [HX.out]; rintro e w9 ⟨rfl, n1, rfl⟩) | (go_at_call 24; (with_reducible refine (let_any x _).mono ?_); rw [hl]; rintro e w9 ⟨rfl, rfl⟩) | (go_at_call 27; (with_reducible refine (dig_any x _).mono ?_); rw [hdg]; rintro e w9 ⟨rfl, rfl⟩) | (go_at_call 23; (with_reducible refine (next1 (i := i) (Went.at_ (w := w) ?_) hs hi').mono ?_); (focus (repeat' (first | (with_reducible assumption) | (with_reducible refine Went.alloc ?_ _) | (with_reducible refine Went.drewN ?_ _) | (with_reducible refine Went.inc (i := i) ?_ _) | (with_reducible refine Went.setOwn ?_ ?_ ?_ _) | omega))); rw [HY.out]; rintro e w9 ⟨rfl, n2, rfl⟩) | (go_at_call 24; (with_reducible refine (let_any y _).mono ?_); rw [hly]; rintro e w9 ⟨rfl, rfl⟩) | (go_at_call 25; (with_reducible refine (name_ok (Went.at_ (w := w) (i := i + 1) ?_) hs hi1 HN.out h24 HTT.out).mono ?_); (focus (repeat' (first | (with_reducible assumption) | (with_reducible refine Went.alloc ?_ _) | (with_reducible refine Went.drewN ?_ _) | (with_reducible refine Went.inc (i := i) ?_ _) | (with_reducible refine Went.setOwn ?_ ?_ ?_ _) | omega))); rintro e w1 ⟨rfl, hW1⟩; have W1 := Went.trans (a := w) (i := i + 1) (by (repeat' (first | (with_reducible assumption) | (with_reducible refine Went.alloc ?_ _) | (with_reducible refine Went.drewN ?_ _) | (with_reducible refine Went.inc (i := i) ?_ _) | (with_reducible refine Went.setOwn ?_ ?_ ?_ _) | omega))) hW1; obtain ⟨hc21, hf21, hl21⟩ := hW1.far (k := w.heap.size) (by go_size) (by omega); obtain ⟨hc41, hf41, hl41⟩ := hW1.far (k := w.heap.size + 1) (by go_size) (by omega); obtain ⟨g01, g11, g21⟩ := hW1.at_; have b401 := (hc41 0).trans (show _ = some (.int .i64 8) by (first | assumption | (simp [go_sem]; done) | (simp [go_sem, *]; done))); have b201 := (hc21 0).trans (show _ = some (.int .i64 0) by (first | assumption | (simp [go_sem]; done) | (simp [go_sem, *]; done))); have f401 := (hf41 0).trans (show _ = false by (first | assumption | (simp [go_sem]; done) | (simp [go_sem, *]; done))); have f201 := (hf21 0).trans (show _ = false by (first | assumption | (simp [go_sem]; done) | (simp [go_sem, *]; done))); have b411 := (hc41 1).trans (show _ = some (.string ⟨#[]⟩) by (first | assumption | (simp [go_sem]; done) | (simp [go_sem, *]; done))); have b211 := (hc21 1).trans (show _ = some (.string ⟨#[]⟩) by (first | assumption | (simp [go_sem]; done) | (simp [go_sem, *]; done))); have f411 := (hf41 1).trans (show _ = false by (first | assumption | (simp [go_sem]; done) | (simp [go_sem, *]; done))); have f211 := (hf21 1).trans (show _ = false by (first | assumption | (simp [go_sem]; done) | (simp [go_sem, *]; done))); have b421 := (hc41 2).trans (show _ = some (.int .i64 0) by (first | assumption | (simp [go_sem]; done) | (simp [go_sem, *]; done))); have b221 := (hc21 2).trans (show _ = some (.int .i64 0) by (first | assumption | (simp [go_sem]; done) | (simp [go_sem, *]; done))); have f421 := (hf41 2).trans (show _ = false by (first | assumption | (simp [go_sem]; done) | (simp [go_sem, *]; done))); have f221 := (hf21 2).trans (show _ = false by (first | assumption | (simp [go_sem]; done) | (simp [go_sem, *]; done))); have b431 := (hc41 3).trans (show _ = some (.int .i64 i) by (first | assumption | (simp [go_sem]; done) | (simp [go_sem, *]; done))); have b231 := (hc21 3).trans (show _ = some (.int .i64 0) by (first | assumption | (simp [go_sem]; done) | (simp [go_sem, *]; done))); have f431 := (hf41 3).trans (show _ = false by (first | assumption | (simp [go_sem]; done) | (simp [go_sem, *]; done))); have f231 := (hf21 3).trans (show _ = false by (first | assumption | (simp [go_sem]; done) | (simp [go_sem, *]; done))); clear W0 hW1 hc21 hf21 hc41 hf41))
  refine bodyPost_ret (v := .tuple #[.agg #[.int .i64 8, .string t, .int .i64 0, .int .i64 i], .int .i64 0]) (by simp [results, Try.results18, go_sem, *]) rfl ?_
  right
  refine ⟨_, _, t, HT.out, HXT.out, rfl, ?_⟩
  rw [show i + (n + 1) = i + 1 + n by omega]
  (repeat' (first | (with_reducible assumption) | (with_reducible refine Went.alloc ?_ _) | (with_reducible refine Went.drewN ?_ _) | (with_reducible refine Went.inc (i := i) ?_ _) | (with_reducible refine Went.setOwn ?_ ?_ ?_ _) | omega))

set_option maxRecDepth 100000 in
set_option maxHeartbeats 4000000 in
theorem tok_none58 {w : World} {b : Nat} {s : ByteArray} {i : Nat} (h : At w b s i) (hs : s.size ≤ 100000) (hi : i < s.size) (x y : UInt8) (hx : byteU s i = x) (hy : byteU s (i + 1) = y) (hl : letB x = false) (hdg : digB x = false) (ex39 : ((x.toNat : Int) == 39) = false) (ex35 : ((x.toNat : Int) == 35) = false) (e58 : ((x.toNat : Int) == 58) = true) (ey61 : ((y.toNat : Int) == 61) = false) (hly : letB y = false) (hsx : signB x = false) (hmx : markB x = false) (hT : tokV (x :: s.data.toList.drop (i + 1)) = .err 10) :
    Calls Try.prog 18 #[.pointer (some ⟨b, 0, none⟩)] w (TokPost w b s i) := by
  have hi' : i ≤ s.size := by omega
  have hlb := h.lt
  have HX := Lib.hid hx
  have HY := Lib.hid hy
  have hcons := byte_cons hi
  rw [hx] at hcons
  have HC := Lib.hid hcons
  clear hx hy hcons
  have W0 := Went.refl h
  obtain ⟨c0, c1, f1⟩ := h
  have hne2 : w.heap.size ≠ b := by omega
  have hne4 : w.heap.size + 1 ≠ b := by omega
  have hne2' := hne2.symm
  have hne4' := hne4.symm
  have HT : Hid (tokV (s.data.toList.drop i) = .err 10) := by
    show _ = _
    rw [HC.out]; exact hT
  clear hT
  go_enter Try.func18, Try.ntmps18
  go_wp2_with (first | (go_at_call 23; (with_reducible refine (next0 (i := i) (Went.at_ (w := w) ?_) hs hi').mono ?_); (focus (repeat' (first | (with_reducible assumption) | (with_reducible refine Went.alloc ?_ _) | (with_reducible refine Went.drewN ?_ _) | (with_reducible refine Went.inc (i := i) ?_ _) | (with_reducible refine Went.setOwn ?_ ?_ ?_ _) | omega))); rw [HX.out]; rintro e w9 ⟨rfl, n1, rfl⟩) | (go_at_call 24; (with_reducible refine (let_any x _).mono ?_); rw [hl]; rintro e w9 ⟨rfl, rfl⟩) | (go_at_call 27; (with_reducible refine (dig_any x _).mono ?_); rw [hdg]; rintro e w9 ⟨rfl, rfl⟩) | (go_at_call 23; (with_reducible refine (next1 (i := i) (Went.at_ (w := w) ?_) hs hi').mono ?_); (focus (repeat' (first | (with_reducible assumption) | (with_reducible refine Went.alloc ?_ _) | (with_reducible refine Went.drewN ?_ _) | (with_reducible refine Went.inc (i := i) ?_ _) | (with_reducible refine Went.setOwn ?_ ?_ ?_ _) | omega))); rw [HY.out]; rintro e w9 ⟨rfl, n2, rfl⟩) | (go_at_call 24; (with_reducible refine (let_any y _).mono ?_); rw [hly]; rintro e w9 ⟨rfl, rfl⟩) | (go_at_call 16; (with_reducible refine (inmk_any _ _).mono ?_); rintro e w9 ⟨rfl, rfl⟩) | (go_at_call 21; (with_reducible refine (sig_any x _ _ ?_).mono ?_); (focus (first | assumption | (simp [go_sem]; done) | (simp [go_sem, *]; done))); rw [hsx]; rintro e w9 ⟨rfl, rfl⟩) | (go_at_call 21; (with_reducible refine (mrk_any x _ _ ?_).mono ?_); (focus (first | assumption | (simp [go_sem]; done) | (simp [go_sem, *]; done))); rw [hmx]; rintro e w9 ⟨rfl, rfl⟩))
  refine bodyPost_ret (v := .tuple #[.agg #[.int .i64 0, .string ⟨#[]⟩, .int .i64 0, .int .i64 i], .int .i64 10]) (by simp [results, Try.results18, go_sem, *]) rfl ?_
  left
  refine ⟨10, HT.out, by decide, 0, ⟨#[]⟩, 0, rfl, i, hi', ?_⟩
  (repeat' (first | (with_reducible assumption) | (with_reducible refine Went.alloc ?_ _) | (with_reducible refine Went.drewN ?_ _) | (with_reducible refine Went.inc (i := i) ?_ _) | (with_reducible refine Went.setOwn ?_ ?_ ?_ _) | omega))

set_option maxRecDepth 100000 in
set_option maxHeartbeats 4000000 in
theorem tok_sign {w : World} {b : Nat} {s : ByteArray} {i : Nat} (h : At w b s i) (hs : s.size ≤ 100000) (hi : i < s.size) (x y : UInt8) (hx : byteU s i = x) (hy : byteU s (i + 1) = y) (hl : letB x = false) (hdg : digB x = false) (ex39 : ((x.toNat : Int) == 39) = false) (ex35 : ((x.toNat : Int) == 35) = false) (e58 : ((x.toNat : Int) == 58) = false) (hsx : signB x = true) (n : Nat) (hn : sgLen (s.data.toList.drop i) = n) (hT : tokV (x :: s.data.toList.drop (i + 1)) = .ok ⟨3, (x :: s.data.toList.drop (i + 1)).take (sgLen (x :: s.data.toList.drop (i + 1))), 0⟩ (sgLen (x :: s.data.toList.drop (i + 1)))) :
    Calls Try.prog 18 #[.pointer (some ⟨b, 0, none⟩)] w (TokPost w b s i) := by
  have hi' : i ≤ s.size := by omega
  have hlb := h.lt
  have HX := Lib.hid hx
  have HY := Lib.hid hy
  have hcons := byte_cons hi
  rw [hx] at hcons
  have HC := Lib.hid hcons
  clear hx hy hcons
  have W0 := Went.refl h
  obtain ⟨c0, c1, f1⟩ := h
  have hne2 : w.heap.size ≠ b := by omega
  have hne4 : w.heap.size + 1 ≠ b := by omega
  have hne2' := hne2.symm
  have hne4' := hne4.symm
  have HT : Hid (tokV (s.data.toList.drop i) = .ok ⟨3, (s.data.toList.drop i).take n, 0⟩ n) := by
    show _ = _
    rw [← HC.out, hn] at hT
    exact hT
  clear hT
  have hbn := sg_bd s i hi'
  rw [hn] at hbn
  have HN := Lib.hid hn
  clear hn
  have hx_ := ext_list s i n
  have hz_ := size_ext s i n hbn
  obtain ⟨t, ht⟩ : ∃ t, s.extract i (i + n) = t := ⟨_, rfl⟩
  rw [ht] at hx_ hz_
  have HXT := Lib.hid hx_
  have HTT := Lib.hid ht
  have hzz : t.size ≤ 100000 := by omega
  clear hx_ hz_ ht
  go_enter Try.func18, Try.ntmps18
  go_wp2_with (first | (go_at_call 23; (with_reducible refine (next0 (i := i) (Went.at_ (w := w) ?_) hs hi').mono ?_); (focus (repeat' (first | (with_reducible assumption) | (with_reducible refine Went.alloc ?_ _) | (with_reducible refine Went.drewN ?_ _) | (with_reducible refine Went.inc (i := i) ?_ _) | (with_reducible refine Went.setOwn ?_ ?_ ?_ _) | omega))); rw [HX.out]; rintro e w9 ⟨rfl, n1, rfl⟩) | (go_at_call 24; (with_reducible refine (let_any x _).mono ?_); rw [hl]; rintro e w9 ⟨rfl, rfl⟩) | (go_at_call 27; (with_reducible refine (dig_any x _).mono ?_); rw [hdg]; rintro e w9 ⟨rfl, rfl⟩) | (go_at_call 16; (with_reducible refine (inmk_any _ _).mono ?_); rintro e w9 ⟨rfl, rfl⟩) | (go_at_call 21; (with_reducible refine (sig_any x _ _ ?_).mono ?_); (focus (first | assumption | (simp [go_sem]; done) | (simp [go_sem, *]; done))); rw [hsx]; rintro e w9 ⟨rfl, rfl⟩) | (go_at_call 15; (with_reducible refine (runsig (Went.at_ (w := w) (i := i) ?_) hs hi' HN.out HTT.out _ ?_ ?_).mono ?_); (focus (repeat' (first | (with_reducible assumption) | (with_reducible refine Went.alloc ?_ _) | (with_reducible refine Went.drewN ?_ _) | (with_reducible refine Went.inc (i := i) ?_ _) | (with_reducible refine Went.setOwn ?_ ?_ ?_ _) | omega))); (focus (first | assumption | (simp [go_sem]; done) | (simp [go_sem, *]; done))); (focus omega); rintro e w1 ⟨rfl, hW1⟩; have W1 := Went.trans (a := w) (i := i) (by (repeat' (first | (with_reducible assumption) | (with_reducible refine Went.alloc ?_ _) | (with_reducible refine Went.drewN ?_ _) | (with_reducible refine Went.inc (i := i) ?_ _) | (with_reducible refine Went.setOwn ?_ ?_ ?_ _) | omega))) hW1; obtain ⟨hc21, hf21, hl21⟩ := hW1.far (k := w.heap.size) (by go_size) (by omega); obtain ⟨hc41, hf41, hl41⟩ := hW1.far (k := w.heap.size + 1) (by go_size) (by omega); obtain ⟨g01, g11, g21⟩ := hW1.at_; have b401 := (hc41 0).trans (show _ = some (.int .i64 0) by (first | assumption | (simp [go_sem]; done) | (simp [go_sem, *]; done))); have b201 := (hc21 0).trans (show _ = some (.int .i64 0) by (first | assumption | (simp [go_sem]; done) | (simp [go_sem, *]; done))); have f401 := (hf41 0).trans (show _ = false by (first | assumption | (simp [go_sem]; done) | (simp [go_sem, *]; done))); have f201 := (hf21 0).trans (show _ = false by (first | assumption | (simp [go_sem]; done) | (simp [go_sem, *]; done))); have b411 := (hc41 1).trans (show _ = some (.string ⟨#[]⟩) by (first | assumption | (simp [go_sem]; done) | (simp [go_sem, *]; done))); have b211 := (hc21 1).trans (show _ = some (.string ⟨#[]⟩) by (first | assumption | (simp [go_sem]; done) | (simp [go_sem, *]; done))); have f411 := (hf41 1).trans (show _ = false by (first | assumption | (simp [go_sem]; done) | (simp [go_sem, *]; done))); have f211 := (hf21 1).trans (show _ = false by (first | assumption | (simp [go_sem]; done) | (simp [go_sem, *]; done))); have b421 := (hc41 2).trans (show _ = some (.int .i64 0) by (first | assumption | (simp [go_sem]; done) | (simp [go_sem, *]; done))); have b221 := (hc21 2).trans (show _ = some (.int .i64 0) by (first | assumption | (simp [go_sem]; done) | (simp [go_sem, *]; done))); have f421 := (hf41 2).trans (show _ = false by (first | assumption | (simp [go_sem]; done) | (simp [go_sem, *]; done))); have f221 := (hf21 2).trans (show _ = false by (first | assumption | (simp [go_sem]; done) | (simp [go_sem, *]; done))); have b431 := (hc41 3).trans (show _ = some (.int .i64 i) by (first | assumption | (simp [go_sem]; done) | (simp [go_sem, *]; done))); have b231 := (hc21 3).trans (show _ = some (.int .i64 0) by (first | assumption | (simp [go_sem]; done) | (simp [go_sem, *]; done))); have f431 := (hf41 3).trans (show _ = false by (first | assumption | (simp [go_sem]; done) | (simp [go_sem, *]; done))); have f231 := (hf21 3).trans (show _ = false by (first | assumption | (simp [go_sem]; done) | (simp [go_sem, *]; done))); clear W0 hW1 hc21 hf21 hc41 hf41))
  refine bodyPost_ret (v := .tuple #[.agg #[.int .i64 3, .string t, .int .i64 0, .int .i64 i], .int .i64 0]) (by simp [results, Try.results18, go_sem, *]) rfl ?_
  right
  refine ⟨_, _, t, HT.out, HXT.out, rfl, ?_⟩
  (repeat' (first | (with_reducible assumption) | (with_reducible refine Went.alloc ?_ _) | (with_reducible refine Went.drewN ?_ _) | (with_reducible refine Went.inc (i := i) ?_ _) | (with_reducible refine Went.setOwn ?_ ?_ ?_ _) | omega))

set_option maxRecDepth 100000 in
set_option maxHeartbeats 4000000 in
theorem tok_mark {w : World} {b : Nat} {s : ByteArray} {i : Nat} (h : At w b s i) (hs : s.size ≤ 100000) (hi : i < s.size) (x y : UInt8) (hx : byteU s i = x) (hy : byteU s (i + 1) = y) (hl : letB x = false) (hdg : digB x = false) (ex39 : ((x.toNat : Int) == 39) = false) (ex35 : ((x.toNat : Int) == 35) = false) (e58 : ((x.toNat : Int) == 58) = false) (hsx : signB x = false) (hmx : markB x = true) (hT : tokV (x :: s.data.toList.drop (i + 1)) = .ok ⟨10, [x], 0⟩ 1) :
    Calls Try.prog 18 #[.pointer (some ⟨b, 0, none⟩)] w (TokPost w b s i) := by
  have hi' : i ≤ s.size := by omega
  have hlb := h.lt
  have HX := Lib.hid hx
  have HY := Lib.hid hy
  have hcons := byte_cons hi
  rw [hx] at hcons
  have HC := Lib.hid hcons
  clear hx hy hcons
  have W0 := Went.refl h
  obtain ⟨c0, c1, f1⟩ := h
  have hne2 : w.heap.size ≠ b := by omega
  have hne4 : w.heap.size + 1 ≠ b := by omega
  have hne2' := hne2.symm
  have hne4' := hne4.symm
  have HT : Hid (tokV (s.data.toList.drop i) = .ok ⟨10, [x], 0⟩ 1) := by
    show _ = _
    rw [HC.out]; exact hT
  clear hT
  have hbn : i + 1 ≤ s.size := by omega
  have hn : rl markB (s.data.toList.drop i) 1 = 1 := by rw [HC.out]; simp [rl, hmx]
  have HN := Lib.hid hn
  clear hn
  have hx_ := ext_list s i 1
  have hz_ := size_ext s i 1 hbn
  obtain ⟨t, ht⟩ : ∃ t, s.extract i (i + 1) = t := ⟨_, rfl⟩
  rw [ht] at hx_ hz_
  have HXT := Lib.hid hx_
  have HTT := Lib.hid ht
  have hzz : t.size ≤ 100000 := by omega
  clear hx_ hz_ ht
  go_enter Try.func18, Try.ntmps18
  go_wp2_with (first | (go_at_call 23; (with_reducible refine (next0 (i := i) (Went.at_ (w := w) ?_) hs hi').mono ?_); (focus (repeat' (first | (with_reducible assumption) | (with_reducible refine Went.alloc ?_ _) | (with_reducible refine Went.drewN ?_ _) | (with_reducible refine Went.inc (i := i) ?_ _) | (with_reducible refine Went.setOwn ?_ ?_ ?_ _) | omega))); rw [HX.out]; rintro e w9 ⟨rfl, n1, rfl⟩) | (go_at_call 24; (with_reducible refine (let_any x _).mono ?_); rw [hl]; rintro e w9 ⟨rfl, rfl⟩) | (go_at_call 27; (with_reducible refine (dig_any x _).mono ?_); rw [hdg]; rintro e w9 ⟨rfl, rfl⟩) | (go_at_call 16; (with_reducible refine (inmk_any _ _).mono ?_); rintro e w9 ⟨rfl, rfl⟩) | (go_at_call 21; (with_reducible refine (sig_any x _ _ ?_).mono ?_); (focus (first | assumption | (simp [go_sem]; done) | (simp [go_sem, *]; done))); rw [hsx]; rintro e w9 ⟨rfl, rfl⟩) | (go_at_call 21; (with_reducible refine (mrk_any x _ _ ?_).mono ?_); (focus (first | assumption | (simp [go_sem]; done) | (simp [go_sem, *]; done))); rw [hmx]; rintro e w9 ⟨rfl, rfl⟩) | (go_at_call 15; (with_reducible refine (runmrk (Went.at_ (w := w) (i := i) ?_) hs hi' HN.out HTT.out _ ?_ ?_).mono ?_); (focus (repeat' (first | (with_reducible assumption) | (with_reducible refine Went.alloc ?_ _) | (with_reducible refine Went.drewN ?_ _) | (with_reducible refine Went.inc (i := i) ?_ _) | (with_reducible refine Went.setOwn ?_ ?_ ?_ _) | omega))); (focus (first | assumption | (simp [go_sem]; done) | (simp [go_sem, *]; done))); (focus omega); rintro e w1 ⟨rfl, hW1⟩; have W1 := Went.trans (a := w) (i := i) (by (repeat' (first | (with_reducible assumption) | (with_reducible refine Went.alloc ?_ _) | (with_reducible refine Went.drewN ?_ _) | (with_reducible refine Went.inc (i := i) ?_ _) | (with_reducible refine Went.setOwn ?_ ?_ ?_ _) | omega))) hW1; obtain ⟨hc21, hf21, hl21⟩ := hW1.far (k := w.heap.size) (by go_size) (by omega); obtain ⟨hc41, hf41, hl41⟩ := hW1.far (k := w.heap.size + 1) (by go_size) (by omega); obtain ⟨g01, g11, g21⟩ := hW1.at_; have b401 := (hc41 0).trans (show _ = some (.int .i64 0) by (first | assumption | (simp [go_sem]; done) | (simp [go_sem, *]; done))); have b201 := (hc21 0).trans (show _ = some (.int .i64 0) by (first | assumption | (simp [go_sem]; done) | (simp [go_sem, *]; done))); have f401 := (hf41 0).trans (show _ = false by (first | assumption | (simp [go_sem]; done) | (simp [go_sem, *]; done))); have f201 := (hf21 0).trans (show _ = false by (first | assumption | (simp [go_sem]; done) | (simp [go_sem, *]; done))); have b411 := (hc41 1).trans (show _ = some (.string ⟨#[]⟩) by (first | assumption | (simp [go_sem]; done) | (simp [go_sem, *]; done))); have b211 := (hc21 1).trans (show _ = some (.string ⟨#[]⟩) by (first | assumption | (simp [go_sem]; done) | (simp [go_sem, *]; done))); have f411 := (hf41 1).trans (show _ = false by (first | assumption | (simp [go_sem]; done) | (simp [go_sem, *]; done))); have f211 := (hf21 1).trans (show _ = false by (first | assumption | (simp [go_sem]; done) | (simp [go_sem, *]; done))); have b421 := (hc41 2).trans (show _ = some (.int .i64 0) by (first | assumption | (simp [go_sem]; done) | (simp [go_sem, *]; done))); have b221 := (hc21 2).trans (show _ = some (.int .i64 0) by (first | assumption | (simp [go_sem]; done) | (simp [go_sem, *]; done))); have f421 := (hf41 2).trans (show _ = false by (first | assumption | (simp [go_sem]; done) | (simp [go_sem, *]; done))); have f221 := (hf21 2).trans (show _ = false by (first | assumption | (simp [go_sem]; done) | (simp [go_sem, *]; done))); have b431 := (hc41 3).trans (show _ = some (.int .i64 i) by (first | assumption | (simp [go_sem]; done) | (simp [go_sem, *]; done))); have b231 := (hc21 3).trans (show _ = some (.int .i64 0) by (first | assumption | (simp [go_sem]; done) | (simp [go_sem, *]; done))); have f431 := (hf41 3).trans (show _ = false by (first | assumption | (simp [go_sem]; done) | (simp [go_sem, *]; done))); have f231 := (hf21 3).trans (show _ = false by (first | assumption | (simp [go_sem]; done) | (simp [go_sem, *]; done))); clear W0 hW1 hc21 hf21 hc41 hf41))
  refine bodyPost_ret (v := .tuple #[.agg #[.int .i64 10, .string t, .int .i64 0, .int .i64 i], .int .i64 0]) (by simp [results, Try.results18, go_sem, *]) rfl ?_
  right
  refine ⟨_, _, t, HT.out, by rw [HXT.out, HC.out]; rfl, rfl, ?_⟩
  (repeat' (first | (with_reducible assumption) | (with_reducible refine Went.alloc ?_ _) | (with_reducible refine Went.drewN ?_ _) | (with_reducible refine Went.inc (i := i) ?_ _) | (with_reducible refine Went.setOwn ?_ ?_ ?_ _) | omega))

end Go.Proofs.Ytdcibeagljeioaa
