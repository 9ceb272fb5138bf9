/- Chapter 06: a token: symbols, signs, marks. -/
import Derived.Test.YtdcibeagljeioaaW10
namespace Go.Proofs.Ytdcibeagljeioaa
open Go.ChangeShapes Go.WideShapes Go.ChangeAt Go.RowKit
set_option linter.unusedVariables false
set_option linter.unusedSimpArgs false

set_option maxRecDepth 100000 in
set_option maxHeartbeats 4000000 in
theorem tok_arr {w : World} {b : Nat} {s : ByteArray} {i : Nat} (h : At w b s i) (hs : s.size ≤ 100000) (hi : i < s.size) (x y : UInt8) (hx : byteU s i = x) (hy : byteU s (i + 1) = y) (hl : letB x = false) (hdg : digB x = false) (ex39 : ((x.toNat : Int) == 39) = false) (ex35 : ((x.toNat : Int) == 35) = true) (ey40 : ((y.toNat : Int) == 40) = true) (hT : tokV (x :: s.data.toList.drop (i + 1)) = .ok ⟨7, [], 0⟩ 2) (h2 : i + 2 ≤ s.size) :
    Calls Try.prog 18 #[.pointer (some ⟨b, 0, none⟩)] w (TokPost w b s i) := by
  have hi' : i ≤ s.size := by omega
  have hlb := h.lt
  have HX := Lib.hid hx
  have HY := Lib.hid hy
  have hcons := byte_cons hi
  rw [hx] at hcons
  have HC := Lib.hid hcons
  clear hx hy hcons
  have W0 := Went.refl h
  obtain ⟨c0, c1, f1⟩ := h
  have hne2 : w.heap.size ≠ b := by omega
  have hne4 : w.heap.size + 1 ≠ b := by omega
  have hne2' := hne2.symm
  have hne4' := hne4.symm
  have HT : Hid (tokV (s.data.toList.drop i) = .ok ⟨7, [], 0⟩ 2) := by
    show _ = _
    rw [HC.out]; exact hT
  clear hT
  go_enter Try.func18, Try.ntmps18
  go_wp2_with (first | (go_at_call 23; (with_reducible refine (next0 (i := i) (Went.at_ (w := w) ?_) hs hi').mono ?_); (focus (repeat' (first | (with_reducible assumption) | (with_reducible refine Went.alloc ?_ _) | (with_reducible refine Went.drewN ?_ _) | (with_reducible refine Went.inc (i := i) ?_ _) | (with_reducible refine Went.setOwn ?_ ?_ ?_ _) | omega))); rw [HX.out]; rintro e w9 ⟨rfl, n1, rfl⟩) | (go_at_call 24; (with_reducible refine (let_any x _).mono ?_); rw [hl]; rintro e w9 ⟨rfl, rfl⟩) | (go_at_call 27; (with_reducible refine (dig_any x _).mono ?_); rw [hdg]; rintro e w9 ⟨rfl, rfl⟩) | (go_at_call 23; (with_reducible refine (next1 (i := i) (Went.at_ (w := w) ?_) hs hi').mono ?_); (focus (repeat' (first | (with_reducible assumption) | (with_reducible refine Went.alloc ?_ _) | (with_reducible refine Went.drewN ?_ _) | (with_reducible refine Went.inc (i := i) ?_ _) | (with_reducible refine Went.setOwn ?_ ?_ ?_ _) | omega))); rw [HY.out]; rintro e w9 ⟨rfl, n2, rfl⟩))
  refine bodyPost_ret (v := .tuple #[.agg #[.int .i64 7, .string ⟨#[]⟩, .int .i64 0, .int .i64 i], .int .i64 0]) (by simp [results, Try.results18, go_sem, *]) rfl ?_
  right
  refine ⟨_, _, ⟨#[]⟩, HT.out, rfl, rfl, ?_⟩
  have hset : ∀ c : World, Went w c b s i → Went w (c.setCell ⟨b, 1, none⟩ (.int .i64 ((i : Int) + 2))) b s (i + 2) := fun c hc => hc.set (i + 2)
  (repeat' (first | (with_reducible assumption) | (with_reducible refine Went.alloc ?_ _) | (with_reducible refine Went.drewN ?_ _) | (with_reducible refine hset _ ?_) | (with_reducible refine Went.setOwn ?_ ?_ ?_ _) | omega))

set_option maxRecDepth 100000 in
set_option maxHeartbeats 4000000 in
theorem tok_sym_no {w : World} {b : Nat} {s : ByteArray} {i : Nat} (h : At w b s i) (hs : s.size ≤ 100000) (hi : i < s.size) (x y : UInt8) (hx : byteU s i = x) (hy : byteU s (i + 1) = y) (hl : letB x = false) (hdg : digB x = false) (ex39 : ((x.toNat : Int) == 39) = false) (ex35 : ((x.toNat : Int) == 35) = true) (ey40 : ((y.toNat : Int) == 40) = false) (v : Int) (hn : symV (s.data.toList.drop (i + 1)) = .err v) (hT : tokV (x :: s.data.toList.drop (i + 1)) = .err v) :
    Calls Try.prog 18 #[.pointer (some ⟨b, 0, none⟩)] w (TokPost w b s i) := by
  have hi' : i ≤ s.size := by omega
  have hlb := h.lt
  have HX := Lib.hid hx
  have HY := Lib.hid hy
  have hcons := byte_cons hi
  rw [hx] at hcons
  have HC := Lib.hid hcons
  clear hx hy hcons
  have W0 := Went.refl h
  obtain ⟨c0, c1, f1⟩ := h
  have hne2 : w.heap.size ≠ b := by omega
  have hne4 : w.heap.size + 1 ≠ b := by omega
  have hne2' := hne2.symm
  have hne4' := hne4.symm
  have HT : Hid (tokV (s.data.toList.drop i) = .err v) := by
    show _ = _
    rw [HC.out]; exact hT
  clear hT
  have hi1 : i + 1 ≤ s.size := by omega
  have hv := sym_errs hn
  have HN := Lib.hid hn
  clear hn
  go_enter Try.func18, Try.ntmps18
  go_wp2_with (first | (go_at_call 23; (with_reducible refine (next0 (i := i) (Went.at_ (w := w) ?_) hs hi').mono ?_); (focus (repeat' (first | (with_reducible assumption) | (with_reducible refine Went.alloc ?_ _) | (with_reducible refine Went.drewN ?_ _) | (with_reducible refine Went.inc (i := i) ?_ _) | (with_reducible refine Went.setOwn ?_ ?_ ?_ _) | omega))); rw [HX.out]; rintro e w9 ⟨rfl, n1, rfl⟩) | (go_at_call 24; (with_reducible refine (let_any x _).mono ?_); rw [hl]; rintro e w9 ⟨rfl, rfl⟩) | (go_at_call 27; (with_reducible refine (dig_any x _).mono ?_); rw [hdg]; rintro e w9 ⟨rfl, rfl⟩) | (go_at_call 23; (with_reducible refine (next1 (i := i) (Went.at_ (w := w) ?_) hs hi').mono ?_); (focus (repeat' (first | (with_reducible assumption) | (with_reducible refine Went.alloc ?_ _) | (with_reducible refine Went.drewN ?_ _) | (with_reducible refine Went.inc (i := i) ?_ _) | (with_reducible refine Went.setOwn ?_ ?_ ?_ _) | omega))); rw [HY.out]; rintro e w9 ⟨rfl, n2, rfl⟩) | (go_at_call 30; (with_reducible refine (sym_err (Went.at_ (w := w) (i := i + 1) ?_) hs hi1 HN.out).mono ?_); (focus (repeat' (first | (with_reducible assumption) | (with_reducible refine Went.alloc ?_ _) | (with_reducible refine Went.drewN ?_ _) | (with_reducible refine Went.inc (i := i) ?_ _) | (with_reducible refine Went.setOwn ?_ ?_ ?_ _) | omega))); rintro e w1 ⟨rfl, k, hk, hW1⟩; have W1 := Went.trans (a := w) (i := i + 1) (by (repeat' (first | (with_reducible assumption) | (with_reducible refine Went.alloc ?_ _) | (with_reducible refine Went.drewN ?_ _) | (with_reducible refine Went.inc (i := i) ?_ _) | (with_reducible refine Went.setOwn ?_ ?_ ?_ _) | omega))) hW1; obtain ⟨hc21, hf21, hl21⟩ := hW1.far (k := w.heap.size) (by go_size) (by omega); obtain ⟨hc41, hf41, hl41⟩ := hW1.far (k := w.heap.size + 1) (by go_size) (by omega); obtain ⟨g01, g11, g21⟩ := hW1.at_; have b401 := (hc41 0).trans (show _ = some (.int .i64 6) by (first | assumption | (simp [go_sem]; done) | (simp [go_sem, *]; done))); have b201 := (hc21 0).trans (show _ = some (.int .i64 0) by (first | assumption | (simp [go_sem]; done) | (simp [go_sem, *]; done))); have f401 := (hf41 0).trans (show _ = false by (first | assumption | (simp [go_sem]; done) | (simp [go_sem, *]; done))); have f201 := (hf21 0).trans (show _ = false by (first | assumption | (simp [go_sem]; done) | (simp [go_sem, *]; done))); have b411 := (hc41 1).trans (show _ = some (.string ⟨#[]⟩) by (first | assumption | (simp [go_sem]; done) | (simp [go_sem, *]; done))); have b211 := (hc21 1).trans (show _ = some (.string ⟨#[]⟩) by (first | assumption | (simp [go_sem]; done) | (simp [go_sem, *]; done))); have f411 := (hf41 1).trans (show _ = false by (first | assumption | (simp [go_sem]; done) | (simp [go_sem, *]; done))); have f211 := (hf21 1).trans (show _ = false by (first | assumption | (simp [go_sem]; done) | (simp [go_sem, *]; done))); have b421 := (hc41 2).trans (show _ = some (.int .i64 0) by (first | assumption | (simp [go_sem]; done) | (simp [go_sem, *]; done))); have b221 := (hc21 2).trans (show _ = some (.int .i64 0) by (first | assumption | (simp [go_sem]; done) | (simp [go_sem, *]; done))); have f421 := (hf41 2).trans (show _ = false by (first | assumption | (simp [go_sem]; done) | (simp [go_sem, *]; done))); have f221 := (hf21 2).trans (show _ = false by (first | assumption | (simp [go_sem]; done) | (simp [go_sem, *]; done))); have b431 := (hc41 3).trans (show _ = some (.int .i64 i) by (first | assumption | (simp [go_sem]; done) | (simp [go_sem, *]; done))); have b231 := (hc21 3).trans (show _ = some (.int .i64 0) by (first | assumption | (simp [go_sem]; done) | (simp [go_sem, *]; done))); have f431 := (hf41 3).trans (show _ = false by (first | assumption | (simp [go_sem]; done) | (simp [go_sem, *]; done))); have f231 := (hf21 3).trans (show _ = false by (first | assumption | (simp [go_sem]; done) | (simp [go_sem, *]; done))); clear W0 hW1 hc21 hf21 hc41 hf41))
  refine bodyPost_ret (v := .tuple #[.agg #[.int .i64 6, .string ⟨#[]⟩, .int .i64 0, .int .i64 i], .int .i64 v]) (by simp [results, Try.results18, go_sem, *]) rfl ?_
  left
  refine ⟨v, HT.out, (by first | decide | omega), 6, ⟨#[]⟩, 0, rfl, k, hk, ?_⟩
  (repeat' (first | (with_reducible assumption) | (with_reducible refine Went.alloc ?_ _) | (with_reducible refine Went.drewN ?_ _) | (with_reducible refine Went.inc (i := i) ?_ _) | (with_reducible refine Went.setOwn ?_ ?_ ?_ _) | omega))

set_option maxRecDepth 100000 in
set_option maxHeartbeats 4000000 in
theorem tok_sym {w : World} {b : Nat} {s : ByteArray} {i : Nat} (h : At w b s i) (hs : s.size ≤ 100000) (hi : i < s.size) (x y : UInt8) (hx : byteU s i = x) (hy : byteU s (i + 1) = y) (hl : letB x = false) (hdg : digB x = false) (ex39 : ((x.toNat : Int) == 39) = false) (ex35 : ((x.toNat : Int) == 35) = true) (ey40 : ((y.toNat : Int) == 40) = false) (t : Bs) (n : Nat) (hn : symV (s.data.toList.drop (i + 1)) = .ok t n) (hT : tokV (x :: s.data.toList.drop (i + 1)) = .ok ⟨6, t, 0⟩ (n + 1)) :
    Calls Try.prog 18 #[.pointer (some ⟨b, 0, none⟩)] w (TokPost w b s i) := by
  have hi' : i ≤ s.size := by omega
  have hlb := h.lt
  have HX := Lib.hid hx
  have HY := Lib.hid hy
  have hcons := byte_cons hi
  rw [hx] at hcons
  have HC := Lib.hid hcons
  clear hx hy hcons
  have W0 := Went.refl h
  obtain ⟨c0, c1, f1⟩ := h
  have hne2 : w.heap.size ≠ b := by omega
  have hne4 : w.heap.size + 1 ≠ b := by omega
  have hne2' := hne2.symm
  have hne4' := hne4.symm
  have HT : Hid (tokV (s.data.toList.drop i) = .ok ⟨6, t, 0⟩ (n + 1)) := by
    show _ = _
    rw [HC.out]; exact hT
  clear hT
  have hi1 : i + 1 ≤ s.size := by omega
  have HN := Lib.hid hn
  clear hn
  go_enter Try.func18, Try.ntmps18
  go_wp2_with (first | (go_at_call 23; (with_reducible refine (next0 (i := i) (Went.at_ (w := w) ?_) hs hi').mono ?_); (focus (repeat' (first | (with_reducible assumption) | (with_reducible refine Went.alloc ?_ _) | (with_reducible refine Went.drewN ?_ _) | (with_reducible refine Went.inc (i := i) ?_ _) | (with_reducible refine Went.setOwn ?_ ?_ ?_ _) | omega))); rw [HX.out]; rintro e w9 ⟨rfl, n1, rfl⟩) | (go_at_call 24; (with_reducible refine (let_any x _).mono ?_); rw [hl]; rintro e w9 ⟨rfl, rfl⟩) | (go_at_call 27; (with_reducible refine (dig_any x _).mono ?_); rw [hdg]; rintro e w9 ⟨rfl, rfl⟩) | (go_at_call 23; (with_reducible refine (next1 (i := i) (Went.at_ (w := w) ?_) hs hi').mono ?_); (focus (repeat' (first | (with_reducible assumption) | (with_reducible refine Went.alloc ?_ _) | (with_reducible refine Went.drewN ?_ _) | (with_reducible refine Went.inc (i := i) ?_ _) | (with_reducible refine Went.setOwn ?_ ?_ ?_ _) | omega))); rw [HY.out]; rintro e w9 ⟨rfl, n2, rfl⟩) | (go_at_call 30; (with_reducible refine (sym_ok (Went.at_ (w := w) (i := i + 1) ?_) hs hi1 HN.out).mono ?_); (focus (repeat' (first | (with_reducible assumption) | (with_reducible refine Went.alloc ?_ _) | (with_reducible refine Went.drewN ?_ _) | (with_reducible refine Went.inc (i := i) ?_ _) | (with_reducible refine Went.setOwn ?_ ?_ ?_ _) | omega))); rintro e w1 ⟨rfl, hW1⟩; have W1 := Went.trans (a := w) (i := i + 1) (by (repeat' (first | (with_reducible assumption) | (with_reducible refine Went.alloc ?_ _) | (with_reducible refine Went.drewN ?_ _) | (with_reducible refine Went.inc (i := i) ?_ _) | (with_reducible refine Went.setOwn ?_ ?_ ?_ _) | omega))) hW1; obtain ⟨hc21, hf21, hl21⟩ := hW1.far (k := w.heap.size) (by go_size) (by omega); obtain ⟨hc41, hf41, hl41⟩ := hW1.far (k := w.heap.size + 1) (by go_size) (by omega); obtain ⟨g01, g11, g21⟩ := hW1.at_; have b401 := (hc41 0).trans (show _ = some (.int .i64 6) by (first | assumption | (simp [go_sem]; done) | (simp [go_sem, *]; done))); have b201 := (hc21 0).trans (show _ = some (.int .i64 0) by (first | assumption | (simp [go_sem]; done) | (simp [go_sem, *]; done))); have f401 := (hf41 0).trans (show _ = false by (first | assumption | (simp [go_sem]; done) | (simp [go_sem, *]; done))); have f201 := (hf21 0).trans (show _ = false by (first | assumption | (simp [go_sem]; done) | (simp [go_sem, *]; done))); have b411 := (hc41 1).trans (show _ = some (.string ⟨#[]⟩) by (first | assumption | (simp [go_sem]; done) | (simp [go_sem, *]; done))); have b211 := (hc21 1).trans (show _ = some (.string ⟨#[]⟩) by (first | assumption | (simp [go_sem]; done) | (simp [go_sem, *]; done))); have f411 := (hf41 1).trans (show _ = false by (first | assumption | (simp [go_sem]; done) | (simp [go_sem, *]; done))); have f211 := (hf21 1).trans (show _ = false by (first | assumption | (simp [go_sem]; done) | (simp [go_sem, *]; done))); have b421 := (hc41 2).trans (show _ = some (.int .i64 0) by (first | assumption | (simp [go_sem]; done) | (simp [go_sem, *]; done))); have b221 := (hc21 2).trans (show _ = some (.int .i64 0) by (first | assumption | (simp [go_sem]; done) | (simp [go_sem, *]; done))); have f421 := (hf41 2).trans (show _ = false by (first | assumption | (simp [go_sem]; done) | (simp [go_sem, *]; done))); have f221 := (hf21 2).trans (show _ = false by (first | assumption | (simp [go_sem]; done) | (simp [go_sem, *]; done))); have b431 := (hc41 3).trans (show _ = some (.int .i64 i) by (first | assumption | (simp [go_sem]; done) | (simp [go_sem, *]; done))); have b231 := (hc21 3).trans (show _ = some (.int .i64 0) by (first | assumption | (simp [go_sem]; done) | (simp [go_sem, *]; done))); have f431 := (hf41 3).trans (show _ = false by (first | assumption | (simp [go_sem]; done) | (simp [go_sem, *]; done))); have f231 := (hf21 3).trans (show _ = false by (first | assumption | (simp [go_sem]; done) | (simp [go_sem, *]; done))); clear W0 hW1 hc21 hf21 hc41 hf41))
  refine bodyPost_ret (v := .tuple #[.agg #[.int .i64 6, .string ⟨t.toArray⟩, .int .i64 0, .int .i64 i], .int .i64 0]) (by simp [results, Try.results18, go_sem, *]) rfl ?_
  right
  refine ⟨_, _, ⟨t.toArray⟩, HT.out, rfl, rfl, ?_⟩
  rw [show i + (n + 1) = i + 1 + n by omega]
  (repeat' (first | (with_reducible assumption) | (with_reducible refine Went.alloc ?_ _) | (with_reducible refine Went.drewN ?_ _) | (with_reducible refine Went.inc (i := i) ?_ _) | (with_reducible refine Went.setOwn ?_ ?_ ?_ _) | omega))

end Go.Proofs.Ytdcibeagljeioaa
