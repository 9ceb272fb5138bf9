/- Chapter 06: a token: names. -/
import Derived.Test.YtdcibeagljeioaaW8
namespace Go.Proofs.Ytdcibeagljeioaa
open Go.ChangeShapes Go.WideShapes Go.ChangeAt Go.RowKit
set_option linter.unusedVariables false
set_option linter.unusedSimpArgs false

theorem tok_wrd {c : UInt8} {r : Bs} (h : letB c = true) : tokV (c :: r) = wrdV (c :: r) := by simp only [tokV]; rw [if_pos h]
theorem wrd_long {l : Bs} (h : nmLen l > 24) : wrdV l = .err 12 := by unfold wrdV; rw [if_pos h]
theorem wrd_kw {l : Bs} (h : ¬ nmLen l > 24) (hc : colonB (l.drop (nmLen l)) = true) : wrdV l = .ok ⟨2, l.take (nmLen l + 1), 0⟩ (nmLen l + 1) := by unfold wrdV; rw [if_neg h, if_pos hc]
theorem wrd_nm {l : Bs} (h : ¬ nmLen l > 24) (hc : colonB (l.drop (nmLen l)) = false) : wrdV l = .ok ⟨1, l.take (nmLen l), 0⟩ (nmLen l) := by unfold wrdV; rw [if_neg h, if_neg (by simp [hc])]
theorem name_long {w : World} {b : Nat} {s : ByteArray} {i n : Nat} (h : At w b s i) (hs : s.size ≤ 100000) (hi : i ≤ s.size) (hn : nmLen (s.data.toList.drop i) = n) (h24 : n > 24) :
    Calls Try.prog 25 #[.pointer (some ⟨b, 0, none⟩)] w fun e w' => e = .returned (.tuple #[.string ⟨#[]⟩, .int .i64 12]) ∧ Went w w' b s (i + n) := by
  have := name_any h hs hi
  unfold nmRet at this
  rw [hn, if_pos h24] at this; exact this
theorem name_ok {w : World} {b : Nat} {s : ByteArray} {i n : Nat} {t : ByteArray} (h : At w b s i) (hs : s.size ≤ 100000) (hi : i ≤ s.size) (hn : nmLen (s.data.toList.drop i) = n) (h24 : ¬ n > 24) (ht : s.extract i (i + n) = t) :
    Calls Try.prog 25 #[.pointer (some ⟨b, 0, none⟩)] w fun e w' => e = .returned (.tuple #[.string t, .int .i64 0]) ∧ Went w w' b s (i + n) := by
  have := name_any h hs hi
  unfold nmRet at this
  rw [hn, if_neg h24, ht] at this; exact this
theorem colon_t {w : World} {b : Nat} {s : ByteArray} {i : Nat} (h : At w b s i) (hs : s.size ≤ 100000) (hi : i ≤ s.size) (hc : colonB (s.data.toList.drop i) = true) :
    Calls Try.prog 26 #[.pointer (some ⟨b, 0, none⟩)] w fun e w' => e = .returned (.bool true) ∧ Went w w' b s (i + 1) := by
  have := colon_any h hs hi
  rw [hc, colEnd_t hc] at this; exact this
theorem colon_f {w : World} {b : Nat} {s : ByteArray} {i : Nat} (h : At w b s i) (hs : s.size ≤ 100000) (hi : i ≤ s.size) (hc : colonB (s.data.toList.drop i) = false) :
    Calls Try.prog 26 #[.pointer (some ⟨b, 0, none⟩)] w fun e w' => e = .returned (.bool false) ∧ Went w w' b s i := by
  have := colon_any h hs hi
  rw [hc, colEnd_f hc] at this; exact this

set_option maxRecDepth 100000 in
set_option maxHeartbeats 4000000 in
theorem tok_long {w : World} {b : Nat} {s : ByteArray} {i : Nat} (h : At w b s i) (hs : s.size ≤ 100000) (hi : i < s.size) (x y : UInt8) (hx : byteU s i = x) (hy : byteU s (i + 1) = y) (hl : letB x = true) (n : Nat) (hn : nmLen (s.data.toList.drop i) = n) (h24 : n > 24) :
    Calls Try.prog 18 #[.pointer (some ⟨b, 0, none⟩)] w (TokPost w b s i) := by
  have hi' : i ≤ s.size := by omega
  have hlb := h.lt
  have HX := Lib.hid hx
  have HY := Lib.hid hy
  have hcons := byte_cons hi
  rw [hx] at hcons
  have HC := Lib.hid hcons
  clear hx hy hcons
  have W0 := Went.refl h
  obtain ⟨c0, c1, f1⟩ := h
  have hne2 : w.heap.size ≠ b := by omega
  have hne4 : w.heap.size + 1 ≠ b := by omega
  have hne2' := hne2.symm
  have hne4' := hne4.symm
  have hbn := nm_bd s i hi'
  rw [hn] at hbn
  have HT : Hid (tokV (s.data.toList.drop i) = .err 12) := by
    show _ = _
    rw [HC.out, tok_wrd hl, ← HC.out]
    exact wrd_long (by rw [hn]; exact h24)
  have HN := Lib.hid hn
  clear hn
  go_enter Try.func18, Try.ntmps18
  go_wp2_with (first | (go_at_call 23; (with_reducible refine (next0 (i := i) (Went.at_ (w := w) ?_) hs hi').mono ?_); (focus (repeat' (first | (with_reducible assumption) | (with_reducible refine Went.alloc ?_ _) | (with_reducible refine Went.drewN ?_ _) | (with_reducible refine Went.inc (i := i) ?_ _) | (with_reducible refine Went.setOwn ?_ ?_ ?_ _) | omega))); rw [HX.out]; rintro e w9 ⟨rfl, n1, rfl⟩) | (go_at_call 24; (with_reducible refine (let_any x _).mono ?_); rw [hl]; rintro e w9 ⟨rfl, rfl⟩) | (go_at_call 25; (with_reducible refine (name_long (Went.at_ (w := w) (i := i) ?_) hs hi' HN.out h24).mono ?_); (focus (repeat' (first | (with_reducible assumption) | (with_reducible refine Went.alloc ?_ _) | (with_reducible refine Went.drewN ?_ _) | (with_reducible refine Went.inc (i := i) ?_ _) | (with_reducible refine Went.setOwn ?_ ?_ ?_ _) | omega))); rintro e w1 ⟨rfl, hW1⟩; have W1 := Went.trans (a := w) (i := i) (by (repeat' (first | (with_reducible assumption) | (with_reducible refine Went.alloc ?_ _) | (with_reducible refine Went.drewN ?_ _) | (with_reducible refine Went.inc (i := i) ?_ _) | (with_reducible refine Went.setOwn ?_ ?_ ?_ _) | omega))) hW1; obtain ⟨hc21, hf21, hl21⟩ := hW1.far (k := w.heap.size) (by go_size) (by omega); obtain ⟨hc41, hf41, hl41⟩ := hW1.far (k := w.heap.size + 1) (by go_size) (by omega); obtain ⟨g01, g11, g21⟩ := hW1.at_; have b401 := (hc41 0).trans (show _ = some (.int .i64 1) by (first | assumption | (simp [go_sem]; done) | (simp [go_sem, *]; done))); have b201 := (hc21 0).trans (show _ = some (.int .i64 0) by (first | assumption | (simp [go_sem]; done) | (simp [go_sem, *]; done))); have f401 := (hf41 0).trans (show _ = false by (first | assumption | (simp [go_sem]; done) | (simp [go_sem, *]; done))); have f201 := (hf21 0).trans (show _ = false by (first | assumption | (simp [go_sem]; done) | (simp [go_sem, *]; done))); have b411 := (hc41 1).trans (show _ = some (.string ⟨#[]⟩) by (first | assumption | (simp [go_sem]; done) | (simp [go_sem, *]; done))); have b211 := (hc21 1).trans (show _ = some (.string ⟨#[]⟩) by (first | assumption | (simp [go_sem]; done) | (simp [go_sem, *]; done))); have f411 := (hf41 1).trans (show _ = false by (first | assumption | (simp [go_sem]; done) | (simp [go_sem, *]; done))); have f211 := (hf21 1).trans (show _ = false by (first | assumption | (simp [go_sem]; done) | (simp [go_sem, *]; done))); have b421 := (hc41 2).trans (show _ = some (.int .i64 0) by (first | assumption | (simp [go_sem]; done) | (simp [go_sem, *]; done))); have b221 := (hc21 2).trans (show _ = some (.int .i64 0) by (first | assumption | (simp [go_sem]; done) | (simp [go_sem, *]; done))); have f421 := (hf41 2).trans (show _ = false by (first | assumption | (simp [go_sem]; done) | (simp [go_sem, *]; done))); have f221 := (hf21 2).trans (show _ = false by (first | assumption | (simp [go_sem]; done) | (simp [go_sem, *]; done))); have b431 := (hc41 3).trans (show _ = some (.int .i64 i) by (first | assumption | (simp [go_sem]; done) | (simp [go_sem, *]; done))); have b231 := (hc21 3).trans (show _ = some (.int .i64 0) by (first | assumption | (simp [go_sem]; done) | (simp [go_sem, *]; done))); have f431 := (hf41 3).trans (show _ = false by (first | assumption | (simp [go_sem]; done) | (simp [go_sem, *]; done))); have f231 := (hf21 3).trans (show _ = false by (first | assumption | (simp [go_sem]; done) | (simp [go_sem, *]; done))); clear W0 hW1 hc21 hf21 hc41 hf41))
  refine bodyPost_ret (v := .tuple #[.agg #[.int .i64 1, .string ⟨#[]⟩, .int .i64 0, .int .i64 i], .int .i64 12]) (by simp [results, Try.results18, go_sem, *]) rfl ?_
  left
  refine ⟨12, HT.out, by decide, 1, ⟨#[]⟩, 0, rfl, i + n, hbn, ?_⟩
  (repeat' (first | (with_reducible assumption) | (with_reducible refine Went.alloc ?_ _) | (with_reducible refine Went.drewN ?_ _) | (with_reducible refine Went.inc (i := i) ?_ _) | (with_reducible refine Went.setOwn ?_ ?_ ?_ _) | omega))

set_option maxRecDepth 100000 in
set_option maxHeartbeats 4000000 in
theorem tok_name {w : World} {b : Nat} {s : ByteArray} {i : Nat} (h : At w b s i) (hs : s.size ≤ 100000) (hi : i < s.size) (x y : UInt8) (hx : byteU s i = x) (hy : byteU s (i + 1) = y) (hl : letB x = true) (n : Nat) (hn : nmLen (s.data.toList.drop i) = n) (h24 : ¬ n > 24) (hc : colonB (s.data.toList.drop (i + n)) = false) :
    Calls Try.prog 18 #[.pointer (some ⟨b, 0, none⟩)] w (TokPost w b s i) := by
  have hi' : i ≤ s.size := by omega
  have hlb := h.lt
  have HX := Lib.hid hx
  have HY := Lib.hid hy
  have hcons := byte_cons hi
  rw [hx] at hcons
  have HC := Lib.hid hcons
  clear hx hy hcons
  have W0 := Went.refl h
  obtain ⟨c0, c1, f1⟩ := h
  have hne2 : w.heap.size ≠ b := by omega
  have hne4 : w.heap.size + 1 ≠ b := by omega
  have hne2' := hne2.symm
  have hne4' := hne4.symm
  have hbn := nm_bd s i hi'
  rw [hn] at hbn
  have HT : Hid (tokV (s.data.toList.drop i) = .ok ⟨1, (s.data.toList.drop i).take n, 0⟩ n) := by
    show _ = _
    rw [HC.out, tok_wrd hl, ← HC.out]
    have := wrd_nm (l := s.data.toList.drop i) (by rw [hn]; exact h24) (by rw [hn, List.drop_drop]; exact hc); rw [hn] at this; exact this
  have HN := Lib.hid hn
  clear hn
  have hx_ := ext_list s i n
  have hz_ := size_ext s i n hbn
  obtain ⟨t, ht⟩ : ∃ t, s.extract i (i + n) = t := ⟨_, rfl⟩
  rw [ht] at hx_ hz_
  have HXT := Lib.hid hx_
  have HTT := Lib.hid ht
  have hzz : t.size ≤ 100000 := by omega
  clear hx_ hz_ ht
  have HCO := Lib.hid hc
  clear hc
  go_enter Try.func18, Try.ntmps18
  go_wp2_with (first | (go_at_call 23; (with_reducible refine (next0 (i := i) (Went.at_ (w := w) ?_) hs hi').mono ?_); (focus (repeat' (first | (with_reducible assumption) | (with_reducible refine Went.alloc ?_ _) | (with_reducible refine Went.drewN ?_ _) | (with_reducible refine Went.inc (i := i) ?_ _) | (with_reducible refine Went.setOwn ?_ ?_ ?_ _) | omega))); rw [HX.out]; rintro e w9 ⟨rfl, n1, rfl⟩) | (go_at_call 24; (with_reducible refine (let_any x _).mono ?_); rw [hl]; rintro e w9 ⟨rfl, rfl⟩) | (go_at_call 25; (with_reducible refine (name_ok (Went.at_ (w := w) (i := i) ?_) hs hi' HN.out h24 HTT.out).mono ?_); (focus (repeat' (first | (with_reducible assumption) | (with_reducible refine Went.alloc ?_ _) | (with_reducible refine Went.drewN ?_ _) | (with_reducible refine Went.inc (i := i) ?_ _) | (with_reducible refine Went.setOwn ?_ ?_ ?_ _) | omega))); rintro e w1 ⟨rfl, hW1⟩; have W1 := Went.trans (a := w) (i := i) (by (repeat' (first | (with_reducible assumption) | (with_reducible refine Went.alloc ?_ _) | (with_reducible refine Went.drewN ?_ _) | (with_reducible refine Went.inc (i := i) ?_ _) | (with_reducible refine Went.setOwn ?_ ?_ ?_ _) | omega))) hW1; obtain ⟨hc21, hf21, hl21⟩ := hW1.far (k := w.heap.size) (by go_size) (by omega); obtain ⟨hc41, hf41, hl41⟩ := hW1.far (k := w.heap.size + 1) (by go_size) (by omega); obtain ⟨g01, g11, g21⟩ := hW1.at_; have b401 := (hc41 0).trans (show _ = some (.int .i64 1) by (first | assumption | (simp [go_sem]; done) | (simp [go_sem, *]; done))); have b201 := (hc21 0).trans (show _ = some (.int .i64 0) by (first | assumption | (simp [go_sem]; done) | (simp [go_sem, *]; done))); have f401 := (hf41 0).trans (show _ = false by (first | assumption | (simp [go_sem]; done) | (simp [go_sem, *]; done))); have f201 := (hf21 0).trans (show _ = false by (first | assumption | (simp [go_sem]; done) | (simp [go_sem, *]; done))); have b411 := (hc41 1).trans (show _ = some (.string ⟨#[]⟩) by (first | assumption | (simp [go_sem]; done) | (simp [go_sem, *]; done))); have b211 := (hc21 1).trans (show _ = some (.string ⟨#[]⟩) by (first | assumption | (simp [go_sem]; done) | (simp [go_sem, *]; done))); have f411 := (hf41 1).trans (show _ = false by (first | assumption | (simp [go_sem]; done) | (simp [go_sem, *]; done))); have f211 := (hf21 1).trans (show _ = false by (first | assumption | (simp [go_sem]; done) | (simp [go_sem, *]; done))); have b421 := (hc41 2).trans (show _ = some (.int .i64 0) by (first | assumption | (simp [go_sem]; done) | (simp [go_sem, *]; done))); have b221 := (hc21 2).trans (show _ = some (.int .i64 0) by (first | assumption | (simp [go_sem]; done) | (simp [go_sem, *]; done))); have f421 := (hf41 2).trans (show _ = false by (first | assumption | (simp [go_sem]; done) | (simp [go_sem, *]; done))); have f221 := (hf21 2).trans (show _ = false by (first | assumption | (simp [go_sem]; done) | (simp [go_sem, *]; done))); have b431 := (hc41 3).trans (show _ = some (.int .i64 i) by (first | assumption | (simp [go_sem]; done) | (simp [go_sem, *]; done))); have b231 := (hc21 3).trans (show _ = some (.int .i64 0) by (first | assumption | (simp [go_sem]; done) | (simp [go_sem, *]; done))); have f431 := (hf41 3).trans (show _ = false by (first | assumption | (simp [go_sem]; done) | (simp [go_sem, *]; done))); have f231 := (hf21 3).trans (show _ = false by (first | assumption | (simp [go_sem]; done) | (simp [go_sem, *]; done))); clear W0 hW1 hc21 hf21 hc41 hf41) | (go_at_call 26; (with_reducible refine (colon_f (Went.at_ (w := w) (i := i + n) ?_) hs hbn HCO.out).mono ?_); (focus (repeat' (first | (with_reducible assumption) | (with_reducible refine Went.alloc ?_ _) | (with_reducible refine Went.drewN ?_ _) | (with_reducible refine Went.inc (i := i) ?_ _) | (with_reducible refine Went.setOwn ?_ ?_ ?_ _) | omega))); rintro e w2 ⟨rfl, hW2⟩; have W2 := Went.trans (a := w) (i := i + n) (by (repeat' (first | (with_reducible assumption) | (with_reducible refine Went.alloc ?_ _) | (with_reducible refine Went.drewN ?_ _) | (with_reducible refine Went.inc (i := i) ?_ _) | (with_reducible refine Went.setOwn ?_ ?_ ?_ _) | omega))) hW2; obtain ⟨hc22, hf22, hl22⟩ := hW2.far (k := w.heap.size) (by go_size) (by omega); obtain ⟨hc42, hf42, hl42⟩ := hW2.far (k := w.heap.size + 1) (by go_size) (by omega); obtain ⟨g02, g12, g22⟩ := hW2.at_; have b402 := (hc42 0).trans (show _ = some (.int .i64 1) by (first | assumption | (simp [go_sem]; done) | (simp [go_sem, *]; done))); have b202 := (hc22 0).trans (show _ = some (.int .i64 0) by (first | assumption | (simp [go_sem]; done) | (simp [go_sem, *]; done))); have f402 := (hf42 0).trans (show _ = false by (first | assumption | (simp [go_sem]; done) | (simp [go_sem, *]; done))); have f202 := (hf22 0).trans (show _ = false by (first | assumption | (simp [go_sem]; done) | (simp [go_sem, *]; done))); have b412 := (hc42 1).trans (show _ = some (.string t) by (first | assumption | (simp [go_sem]; done) | (simp [go_sem, *]; done))); have b212 := (hc22 1).trans (show _ = some (.string ⟨#[]⟩) by (first | assumption | (simp [go_sem]; done) | (simp [go_sem, *]; done))); have f412 := (hf42 1).trans (show _ = false by (first | assumption | (simp [go_sem]; done) | (simp [go_sem, *]; done))); have f212 := (hf22 1).trans (show _ = false by (first | assumption | (simp [go_sem]; done) | (simp [go_sem, *]; done))); have b422 := (hc42 2).trans (show _ = some (.int .i64 0) by (first | assumption | (simp [go_sem]; done) | (simp [go_sem, *]; done))); have b222 := (hc22 2).trans (show _ = some (.int .i64 0) by (first | assumption | (simp [go_sem]; done) | (simp [go_sem, *]; done))); have f422 := (hf42 2).trans (show _ = false by (first | assumption | (simp [go_sem]; done) | (simp [go_sem, *]; done))); have f222 := (hf22 2).trans (show _ = false by (first | assumption | (simp [go_sem]; done) | (simp [go_sem, *]; done))); have b432 := (hc42 3).trans (show _ = some (.int .i64 i) by (first | assumption | (simp [go_sem]; done) | (simp [go_sem, *]; done))); have b232 := (hc22 3).trans (show _ = some (.int .i64 0) by (first | assumption | (simp [go_sem]; done) | (simp [go_sem, *]; done))); have f432 := (hf42 3).trans (show _ = false by (first | assumption | (simp [go_sem]; done) | (simp [go_sem, *]; done))); have f232 := (hf22 3).trans (show _ = false by (first | assumption | (simp [go_sem]; done) | (simp [go_sem, *]; done))); clear W1 hW2 hc22 hf22 hc42 hf42 b401 b201 f401 f201 b411 b211 f411 f211 b421 b221 f421 f221 b431 b231 f431 f231 g01 g11 g21 hl21 hl41))
  refine bodyPost_ret (v := .tuple #[.agg #[.int .i64 1, .string t, .int .i64 0, .int .i64 i], .int .i64 0]) (by simp [results, Try.results18, go_sem, *]) rfl ?_
  right
  refine ⟨_, _, t, HT.out, HXT.out, rfl, ?_⟩
  (repeat' (first | (with_reducible assumption) | (with_reducible refine Went.alloc ?_ _) | (with_reducible refine Went.drewN ?_ _) | (with_reducible refine Went.inc (i := i) ?_ _) | (with_reducible refine Went.setOwn ?_ ?_ ?_ _) | omega))

set_option maxRecDepth 100000 in
set_option maxHeartbeats 4000000 in
theorem tok_kw {w : World} {b : Nat} {s : ByteArray} {i : Nat} (h : At w b s i) (hs : s.size ≤ 100000) (hi : i < s.size) (x y : UInt8) (hx : byteU s i = x) (hy : byteU s (i + 1) = y) (hl : letB x = true) (n : Nat) (hn : nmLen (s.data.toList.drop i) = n) (h24 : ¬ n > 24) (hc : colonB (s.data.toList.drop (i + n)) = true) :
    Calls Try.prog 18 #[.pointer (some ⟨b, 0, none⟩)] w (TokPost w b s i) := by
  have hi' : i ≤ s.size := by omega
  have hlb := h.lt
  have HX := Lib.hid hx
  have HY := Lib.hid hy
  have hcons := byte_cons hi
  rw [hx] at hcons
  have HC := Lib.hid hcons
  clear hx hy hcons
  have W0 := Went.refl h
  obtain ⟨c0, c1, f1⟩ := h
  have hne2 : w.heap.size ≠ b := by omega
  have hne4 : w.heap.size + 1 ≠ b := by omega
  have hne2' := hne2.symm
  have hne4' := hne4.symm
  have hbn := nm_bd s i hi'
  rw [hn] at hbn
  have HT : Hid (tokV (s.data.toList.drop i) = .ok ⟨2, (s.data.toList.drop i).take (n + 1), 0⟩ (n + 1)) := by
    show _ = _
    rw [HC.out, tok_wrd hl, ← HC.out]
    have := wrd_kw (l := s.data.toList.drop i) (by rw [hn]; exact h24) (by rw [hn, List.drop_drop]; exact hc); rw [hn] at this; exact this
  have HN := Lib.hid hn
  clear hn
  have hx_ := ext_list s i n
  have hz_ := size_ext s i n hbn
  obtain ⟨t, ht⟩ : ∃ t, s.extract i (i + n) = t := ⟨_, rfl⟩
  rw [ht] at hx_ hz_
  have HXT := Lib.hid hx_
  have HTT := Lib.hid ht
  have hzz : t.size ≤ 100000 := by omega
  clear hx_ hz_ ht
  have HCO := Lib.hid hc
  clear hc
  go_enter Try.func18, Try.ntmps18
  go_wp2_with (first | (go_at_call 23; (with_reducible refine (next0 (i := i) (Went.at_ (w := w) ?_) hs hi').mono ?_); (focus (repeat' (first | (with_reducible assumption) | (with_reducible refine Went.alloc ?_ _) | (with_reducible refine Went.drewN ?_ _) | (with_reducible refine Went.inc (i := i) ?_ _) | (with_reducible refine Went.setOwn ?_ ?_ ?_ _) | omega))); rw [HX.out]; rintro e w9 ⟨rfl, n1, rfl⟩) | (go_at_call 24; (with_reducible refine (let_any x _).mono ?_); rw [hl]; rintro e w9 ⟨rfl, rfl⟩) | (go_at_call 25; (with_reducible refine (name_ok (Went.at_ (w := w) (i := i) ?_) hs hi' HN.out h24 HTT.out).mono ?_); (focus (repeat' (first | (with_reducible assumption) | (with_reducible refine Went.alloc ?_ _) | (with_reducible refine Went.drewN ?_ _) | (with_reducible refine Went.inc (i := i) ?_ _) | (with_reducible refine Went.setOwn ?_ ?_ ?_ _) | omega))); rintro e w1 ⟨rfl, hW1⟩; have W1 := Went.trans (a := w) (i := i) (by (repeat' (first | (with_reducible assumption) | (with_reducible refine Went.alloc ?_ _) | (with_reducible refine Went.drewN ?_ _) | (with_reducible refine Went.inc (i := i) ?_ _) | (with_reducible refine Went.setOwn ?_ ?_ ?_ _) | omega))) hW1; obtain ⟨hc21, hf21, hl21⟩ := hW1.far (k := w.heap.size) (by go_size) (by omega); obtain ⟨hc41, hf41, hl41⟩ := hW1.far (k := w.heap.size + 1) (by go_size) (by omega); obtain ⟨g01, g11, g21⟩ := hW1.at_; have b401 := (hc41 0).trans (show _ = some (.int .i64 1) by (first | assumption | (simp [go_sem]; done) | (simp [go_sem, *]; done))); have b201 := (hc21 0).trans (show _ = some (.int .i64 0) by (first | assumption | (simp [go_sem]; done) | (simp [go_sem, *]; done))); have f401 := (hf41 0).trans (show _ = false by (first | assumption | (simp [go_sem]; done) | (simp [go_sem, *]; done))); have f201 := (hf21 0).trans (show _ = false by (first | assumption | (simp [go_sem]; done) | (simp [go_sem, *]; done))); have b411 := (hc41 1).trans (show _ = some (.string ⟨#[]⟩) by (first | assumption | (simp [go_sem]; done) | (simp [go_sem, *]; done))); have b211 := (hc21 1).trans (show _ = some (.string ⟨#[]⟩) by (first | assumption | (simp [go_sem]; done) | (simp [go_sem, *]; done))); have f411 := (hf41 1).trans (show _ = false by (first | assumption | (simp [go_sem]; done) | (simp [go_sem, *]; done))); have f211 := (hf21 1).trans (show _ = false by (first | assumption | (simp [go_sem]; done) | (simp [go_sem, *]; done))); have b421 := (hc41 2).trans (show _ = some (.int .i64 0) by (first | assumption | (simp [go_sem]; done) | (simp [go_sem, *]; done))); have b221 := (hc21 2).trans (show _ = some (.int .i64 0) by (first | assumption | (simp [go_sem]; done) | (simp [go_sem, *]; done))); have f421 := (hf41 2).trans (show _ = false by (first | assumption | (simp [go_sem]; done) | (simp [go_sem, *]; done))); have f221 := (hf21 2).trans (show _ = false by (first | assumption | (simp [go_sem]; done) | (simp [go_sem, *]; done))); have b431 := (hc41 3).trans (show _ = some (.int .i64 i) by (first | assumption | (simp [go_sem]; done) | (simp [go_sem, *]; done))); have b231 := (hc21 3).trans (show _ = some (.int .i64 0) by (first | assumption | (simp [go_sem]; done) | (simp [go_sem, *]; done))); have f431 := (hf41 3).trans (show _ = false by (first | assumption | (simp [go_sem]; done) | (simp [go_sem, *]; done))); have f231 := (hf21 3).trans (show _ = false by (first | assumption | (simp [go_sem]; done) | (simp [go_sem, *]; done))); clear W0 hW1 hc21 hf21 hc41 hf41) | (go_at_call 26; (with_reducible refine (colon_t (Went.at_ (w := w) (i := i + n) ?_) hs hbn HCO.out).mono ?_); (focus (repeat' (first | (with_reducible assumption) | (with_reducible refine Went.alloc ?_ _) | (with_reducible refine Went.drewN ?_ _) | (with_reducible refine Went.inc (i := i) ?_ _) | (with_reducible refine Went.setOwn ?_ ?_ ?_ _) | omega))); rintro e w2 ⟨rfl, hW2⟩; have W2 := Went.trans (a := w) (i := i + n) (by (repeat' (first | (with_reducible assumption) | (with_reducible refine Went.alloc ?_ _) | (with_reducible refine Went.drewN ?_ _) | (with_reducible refine Went.inc (i := i) ?_ _) | (with_reducible refine Went.setOwn ?_ ?_ ?_ _) | omega))) hW2; obtain ⟨hc22, hf22, hl22⟩ := hW2.far (k := w.heap.size) (by go_size) (by omega); obtain ⟨hc42, hf42, hl42⟩ := hW2.far (k := w.heap.size + 1) (by go_size) (by omega); obtain ⟨g02, g12, g22⟩ := hW2.at_; have b402 := (hc42 0).trans (show _ = some (.int .i64 1) by (first | assumption | (simp [go_sem]; done) | (simp [go_sem, *]; done))); have b202 := (hc22 0).trans (show _ = some (.int .i64 0) by (first | assumption | (simp [go_sem]; done) | (simp [go_sem, *]; done))); have f402 := (hf42 0).trans (show _ = false by (first | assumption | (simp [go_sem]; done) | (simp [go_sem, *]; done))); have f202 := (hf22 0).trans (show _ = false by (first | assumption | (simp [go_sem]; done) | (simp [go_sem, *]; done))); have b412 := (hc42 1).trans (show _ = some (.string t) by (first | assumption | (simp [go_sem]; done) | (simp [go_sem, *]; done))); have b212 := (hc22 1).trans (show _ = some (.string ⟨#[]⟩) by (first | assumption | (simp [go_sem]; done) | (simp [go_sem, *]; done))); have f412 := (hf42 1).trans (show _ = false by (first | assumption | (simp [go_sem]; done) | (simp [go_sem, *]; done))); have f212 := (hf22 1).trans (show _ = false by (first | assumption | (simp [go_sem]; done) | (simp [go_sem, *]; done))); have b422 := (hc42 2).trans (show _ = some (.int .i64 0) by (first | assumption | (simp [go_sem]; done) | (simp [go_sem, *]; done))); have b222 := (hc22 2).trans (show _ = some (.int .i64 0) by (first | assumption | (simp [go_sem]; done) | (simp [go_sem, *]; done))); have f422 := (hf42 2).trans (show _ = false by (first | assumption | (simp [go_sem]; done) | (simp [go_sem, *]; done))); have f222 := (hf22 2).trans (show _ = false by (first | assumption | (simp [go_sem]; done) | (simp [go_sem, *]; done))); have b432 := (hc42 3).trans (show _ = some (.int .i64 i) by (first | assumption | (simp [go_sem]; done) | (simp [go_sem, *]; done))); have b232 := (hc22 3).trans (show _ = some (.int .i64 0) by (first | assumption | (simp [go_sem]; done) | (simp [go_sem, *]; done))); have f432 := (hf42 3).trans (show _ = false by (first | assumption | (simp [go_sem]; done) | (simp [go_sem, *]; done))); have f232 := (hf22 3).trans (show _ = false by (first | assumption | (simp [go_sem]; done) | (simp [go_sem, *]; done))); clear W1 hW2 hc22 hf22 hc42 hf42 b401 b201 f401 f201 b411 b211 f411 f211 b421 b221 f421 f221 b431 b231 f431 f231 g01 g11 g21 hl21 hl41))
  refine bodyPost_ret (v := .tuple #[.agg #[.int .i64 2, .string (t ++ ⟨#[58]⟩), .int .i64 0, .int .i64 i], .int .i64 0]) (by simp [results, Try.results18, go_sem, *]) rfl ?_
  right
  refine ⟨_, _, t ++ ⟨#[58]⟩, HT.out, ?_, rfl, ?_⟩
  · have := take_more (l := s.data.toList.drop i) (a := 0) (n := n) (c := 58) (by rw [List.drop_drop, Nat.zero_add]; exact colon_hd HCO.out)
    simp only [List.take_zero, List.nil_append, List.drop_zero, Nat.zero_add] at this
    rw [app_list, HXT.out, ← this]
  · rw [← Nat.add_assoc]
    (repeat' (first | (with_reducible assumption) | (with_reducible refine Went.alloc ?_ _) | (with_reducible refine Went.drewN ?_ _) | (with_reducible refine Went.inc (i := i) ?_ _) | (with_reducible refine Went.setOwn ?_ ?_ ?_ _) | omega))

end Go.Proofs.Ytdcibeagljeioaa
