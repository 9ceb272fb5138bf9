/- Chapter 06: a token: numbers, texts, symbols. -/
import Derived.Test.YtdcibeagljeioaaW9
namespace Go.Proofs.Ytdcibeagljeioaa
open Go.ChangeShapes Go.WideShapes Go.ChangeAt Go.RowKit
set_option linter.unusedVariables false
set_option linter.unusedSimpArgs false

theorem num_none {w : World} {b : Nat} {s : ByteArray} {i : Nat} (h : At w b s i) (hs : s.size ≤ 100000) (hi : i ≤ s.size) (hn : numV (s.data.toList.drop i) 0 = none) :
    Calls Try.prog 28 #[.pointer (some ⟨b, 0, none⟩)] w fun e w' => e = .returned (.tuple #[.int .i64 0, .int .i64 2]) ∧ ∃ k, k ≤ s.size ∧ Went w w' b s k :=
  (num_any h hs hi).mono fun e w' hp => by
    rcases hp with ⟨_, h2, h3⟩ | ⟨v, h1, _⟩
    · exact ⟨h2, h3⟩
    · rw [hn] at h1; cases h1
theorem num_some {w : World} {b : Nat} {s : ByteArray} {i : Nat} {v : Int} (h : At w b s i) (hs : s.size ≤ 100000) (hi : i ≤ s.size) (hn : numV (s.data.toList.drop i) 0 = some v) :
    Calls Try.prog 28 #[.pointer (some ⟨b, 0, none⟩)] w fun e w' => e = .returned (.tuple #[.int .i64 v, .int .i64 0]) ∧ Went w w' b s (i + digLen (s.data.toList.drop i)) :=
  (num_any h hs hi).mono fun e w' hp => by
    rcases hp with ⟨h1, _⟩ | ⟨u, h1, h2, h3⟩
    · rw [hn] at h1; cases h1
    · rw [hn] at h1; cases h1; exact ⟨h2, h3⟩
theorem text_none {w : World} {b : Nat} {s : ByteArray} {i : Nat} (h : At w b s i) (hs : s.size ≤ 100000) (hi : i ≤ s.size) (hn : txt (s.data.toList.drop i) = none) :
    Calls Try.prog 29 #[.pointer (some ⟨b, 0, none⟩)] w fun e w' => e = .returned (.tuple #[.string ⟨#[]⟩, .int .i64 11]) ∧ ∃ k, k ≤ s.size ∧ Went w w' b s k :=
  (text_any h hs hi).mono fun e w' hp => by
    rcases hp with ⟨_, h2, h3⟩ | ⟨t, n, T, h1, _⟩
    · exact ⟨h2, h3⟩
    · rw [hn] at h1; cases h1
theorem text_some {w : World} {b : Nat} {s : ByteArray} {i : Nat} {t : Bs} {n : Nat} (h : At w b s i) (hs : s.size ≤ 100000) (hi : i ≤ s.size) (hn : txt (s.data.toList.drop i) = some (t, n)) :
    Calls Try.prog 29 #[.pointer (some ⟨b, 0, none⟩)] w fun e w' => e = .returned (.tuple #[.string ⟨t.toArray⟩, .int .i64 0]) ∧ Went w w' b s (i + n) :=
  (text_any h hs hi).mono fun e w' hp => by
    rcases hp with ⟨h1, _⟩ | ⟨t', n', T, h1, h2, h3, h4⟩
    · rw [hn] at h1; cases h1
    · rw [hn] at h1; cases h1
      have : T = ⟨t.toArray⟩ := by apply ByteArray.ext; apply Array.toList_inj.1; rw [h2]
      rw [← this]; exact ⟨h3, h4⟩
theorem symbol_any {w : World} {b : Nat} {s : ByteArray} {i : Nat} (h : At w b s i) (hs : s.size ≤ 100000) (hi : i ≤ s.size) : Calls Try.prog 30 #[.pointer (some ⟨b, 0, none⟩)] w (SymPost w b s i) := by
  cases hg : hd signB (s.data.toList.drop i)
  · exact symB h hs hi hg
  · exact symA h hs hi hg
theorem sym_err {w : World} {b : Nat} {s : ByteArray} {i : Nat} {x : Int} (h : At w b s i) (hs : s.size ≤ 100000) (hi : i ≤ s.size) (hn : symV (s.data.toList.drop i) = .err x) :
    Calls Try.prog 30 #[.pointer (some ⟨b, 0, none⟩)] w fun e w' => e = .returned (.tuple #[.string ⟨#[]⟩, .int .i64 x]) ∧ ∃ k, k ≤ s.size ∧ Went w w' b s k :=
  (symbol_any h hs hi).mono fun e w' hp => by
    rcases hp with ⟨y, h1, _, h2, h3⟩ | ⟨t, n, T, h1, _⟩
    · rw [hn] at h1; cases h1; exact ⟨h2, h3⟩
    · rw [hn] at h1; cases h1
theorem sym_errs {l : Bs} {x : Int} (h : symV l = .err x) : x = 10 ∨ x = 12 := by
  unfold symV at h
  split at h
  · cases h
  · split at h
    · split at h
      · cases h; exact .inr rfl
      · split at h
        · cases hk : kws l.length (l.drop (nmLen l + 1)) with
          | none => rw [hk] at h; cases h; exact .inr rfl
          | some k => rw [hk] at h; cases h
        · cases h
    · cases h; exact .inl rfl
theorem sym_ok {w : World} {b : Nat} {s : ByteArray} {i : Nat} {t : Bs} {n : Nat} (h : At w b s i) (hs : s.size ≤ 100000) (hi : i ≤ s.size) (hn : symV (s.data.toList.drop i) = .ok t n) :
    Calls Try.prog 30 #[.pointer (some ⟨b, 0, none⟩)] w fun e w' => e = .returned (.tuple #[.string ⟨t.toArray⟩, .int .i64 0]) ∧ Went w w' b s (i + n) :=
  (symbol_any h hs hi).mono fun e w' hp => by
    rcases hp with ⟨y, h1, _⟩ | ⟨t', n', T, h1, h2, h3, h4⟩
    · rw [hn] at h1; cases h1
    · rw [hn] at h1; cases h1
      have : T = ⟨t.toArray⟩ := by apply ByteArray.ext; apply Array.toList_inj.1; rw [h2]
      rw [← this]; exact ⟨h3, h4⟩

set_option maxRecDepth 100000 in
set_option maxHeartbeats 4000000 in
theorem tok_num_no {w : World} {b : Nat} {s : ByteArray} {i : Nat} (h : At w b s i) (hs : s.size ≤ 100000) (hi : i < s.size) (x y : UInt8) (hx : byteU s i = x) (hy : byteU s (i + 1) = y) (hl : letB x = false) (hdg : digB x = true) (hn : numV (s.data.toList.drop i) 0 = none) (hT : tokV (x :: s.data.toList.drop (i + 1)) = .err 2) :
    Calls Try.prog 18 #[.pointer (some ⟨b, 0, none⟩)] w (TokPost w b s i) := by
  have hi' : i ≤ s.size := by omega
  have hlb := h.lt
  have HX := Lib.hid hx
  have HY := Lib.hid hy
  have hcons := byte_cons hi
  rw [hx] at hcons
  have HC := Lib.hid hcons
  clear hx hy hcons
  have W0 := Went.refl h
  obtain ⟨c0, c1, f1⟩ := h
  have hne2 : w.heap.size ≠ b := by omega
  have hne4 : w.heap.size + 1 ≠ b := by omega
  have hne2' := hne2.symm
  have hne4' := hne4.symm
  have HT : Hid (tokV (s.data.toList.drop i) = .err 2) := by
    show _ = _
    rw [HC.out]; exact hT
  clear hT
  have HN := Lib.hid hn
  clear hn
  go_enter Try.func18, Try.ntmps18
  go_wp2_with (first | (go_at_call 23; (with_reducible refine (next0 (i := i) (Went.at_ (w := w) ?_) hs hi').mono ?_); (focus (repeat' (first | (with_reducible assumption) | (with_reducible refine Went.alloc ?_ _) | (with_reducible refine Went.drewN ?_ _) | (with_reducible refine Went.inc (i := i) ?_ _) | (with_reducible refine Went.setOwn ?_ ?_ ?_ _) | omega))); rw [HX.out]; rintro e w9 ⟨rfl, n1, rfl⟩) | (go_at_call 24; (with_reducible refine (let_any x _).mono ?_); rw [hl]; rintro e w9 ⟨rfl, rfl⟩) | (go_at_call 27; (with_reducible refine (dig_any x _).mono ?_); rw [hdg]; rintro e w9 ⟨rfl, rfl⟩) | (go_at_call 28; (with_reducible refine (num_none (Went.at_ (w := w) (i := i) ?_) hs hi' HN.out).mono ?_); (focus (repeat' (first | (with_reducible assumption) | (with_reducible refine Went.alloc ?_ _) | (with_reducible refine Went.drewN ?_ _) | (with_reducible refine Went.inc (i := i) ?_ _) | (with_reducible refine Went.setOwn ?_ ?_ ?_ _) | omega))); rintro e w1 ⟨rfl, k, hk, hW1⟩; have W1 := Went.trans (a := w) (i := i) (by (repeat' (first | (with_reducible assumption) | (with_reducible refine Went.alloc ?_ _) | (with_reducible refine Went.drewN ?_ _) | (with_reducible refine Went.inc (i := i) ?_ _) | (with_reducible refine Went.setOwn ?_ ?_ ?_ _) | omega))) hW1; obtain ⟨hc21, hf21, hl21⟩ := hW1.far (k := w.heap.size) (by go_size) (by omega); obtain ⟨hc41, hf41, hl41⟩ := hW1.far (k := w.heap.size + 1) (by go_size) (by omega); obtain ⟨g01, g11, g21⟩ := hW1.at_; have b401 := (hc41 0).trans (show _ = some (.int .i64 4) by (first | assumption | (simp [go_sem]; done) | (simp [go_sem, *]; done))); have b201 := (hc21 0).trans (show _ = some (.int .i64 0) by (first | assumption | (simp [go_sem]; done) | (simp [go_sem, *]; done))); have f401 := (hf41 0).trans (show _ = false by (first | assumption | (simp [go_sem]; done) | (simp [go_sem, *]; done))); have f201 := (hf21 0).trans (show _ = false by (first | assumption | (simp [go_sem]; done) | (simp [go_sem, *]; done))); have b411 := (hc41 1).trans (show _ = some (.string ⟨#[]⟩) by (first | assumption | (simp [go_sem]; done) | (simp [go_sem, *]; done))); have b211 := (hc21 1).trans (show _ = some (.string ⟨#[]⟩) by (first | assumption | (simp [go_sem]; done) | (simp [go_sem, *]; done))); have f411 := (hf41 1).trans (show _ = false by (first | assumption | (simp [go_sem]; done) | (simp [go_sem, *]; done))); have f211 := (hf21 1).trans (show _ = false by (first | assumption | (simp [go_sem]; done) | (simp [go_sem, *]; done))); have b421 := (hc41 2).trans (show _ = some (.int .i64 0) by (first | assumption | (simp [go_sem]; done) | (simp [go_sem, *]; done))); have b221 := (hc21 2).trans (show _ = some (.int .i64 0) by (first | assumption | (simp [go_sem]; done) | (simp [go_sem, *]; done))); have f421 := (hf41 2).trans (show _ = false by (first | assumption | (simp [go_sem]; done) | (simp [go_sem, *]; done))); have f221 := (hf21 2).trans (show _ = false by (first | assumption | (simp [go_sem]; done) | (simp [go_sem, *]; done))); have b431 := (hc41 3).trans (show _ = some (.int .i64 i) by (first | assumption | (simp [go_sem]; done) | (simp [go_sem, *]; done))); have b231 := (hc21 3).trans (show _ = some (.int .i64 0) by (first | assumption | (simp [go_sem]; done) | (simp [go_sem, *]; done))); have f431 := (hf41 3).trans (show _ = false by (first | assumption | (simp [go_sem]; done) | (simp [go_sem, *]; done))); have f231 := (hf21 3).trans (show _ = false by (first | assumption | (simp [go_sem]; done) | (simp [go_sem, *]; done))); clear W0 hW1 hc21 hf21 hc41 hf41))
  refine bodyPost_ret (v := .tuple #[.agg #[.int .i64 4, .string ⟨#[]⟩, .int .i64 0, .int .i64 i], .int .i64 2]) (by simp [results, Try.results18, go_sem, *]) rfl ?_
  left
  refine ⟨2, HT.out, (by first | decide | omega), 4, ⟨#[]⟩, 0, rfl, k, hk, ?_⟩
  (repeat' (first | (with_reducible assumption) | (with_reducible refine Went.alloc ?_ _) | (with_reducible refine Went.drewN ?_ _) | (with_reducible refine Went.inc (i := i) ?_ _) | (with_reducible refine Went.setOwn ?_ ?_ ?_ _) | omega))

set_option maxRecDepth 100000 in
set_option maxHeartbeats 4000000 in
theorem tok_num {w : World} {b : Nat} {s : ByteArray} {i : Nat} (h : At w b s i) (hs : s.size ≤ 100000) (hi : i < s.size) (x y : UInt8) (hx : byteU s i = x) (hy : byteU s (i + 1) = y) (hl : letB x = false) (hdg : digB x = true) (v : Int) (hn : numV (s.data.toList.drop i) 0 = some v) (hT : tokV (x :: s.data.toList.drop (i + 1)) = .ok ⟨4, [], v⟩ (digLen (x :: s.data.toList.drop (i + 1)))) :
    Calls Try.prog 18 #[.pointer (some ⟨b, 0, none⟩)] w (TokPost w b s i) := by
  have hi' : i ≤ s.size := by omega
  have hlb := h.lt
  have HX := Lib.hid hx
  have HY := Lib.hid hy
  have hcons := byte_cons hi
  rw [hx] at hcons
  have HC := Lib.hid hcons
  clear hx hy hcons
  have W0 := Went.refl h
  obtain ⟨c0, c1, f1⟩ := h
  have hne2 : w.heap.size ≠ b := by omega
  have hne4 : w.heap.size + 1 ≠ b := by omega
  have hne2' := hne2.symm
  have hne4' := hne4.symm
  have HT : Hid (tokV (s.data.toList.drop i) = .ok ⟨4, [], v⟩ (digLen (s.data.toList.drop i))) := by
    show _ = _
    rw [HC.out]; exact hT
  clear hT
  have HN := Lib.hid hn
  clear hn
  go_enter Try.func18, Try.ntmps18
  go_wp2_with (first | (go_at_call 23; (with_reducible refine (next0 (i := i) (Went.at_ (w := w) ?_) hs hi').mono ?_); (focus (repeat' (first | (with_reducible assumption) | (with_reducible refine Went.alloc ?_ _) | (with_reducible refine Went.drewN ?_ _) | (with_reducible refine Went.inc (i := i) ?_ _) | (with_reducible refine Went.setOwn ?_ ?_ ?_ _) | omega))); rw [HX.out]; rintro e w9 ⟨rfl, n1, rfl⟩) | (go_at_call 24; (with_reducible refine (let_any x _).mono ?_); rw [hl]; rintro e w9 ⟨rfl, rfl⟩) | (go_at_call 27; (with_reducible refine (dig_any x _).mono ?_); rw [hdg]; rintro e w9 ⟨rfl, rfl⟩) | (go_at_call 28; (with_reducible refine (num_some (Went.at_ (w := w) (i := i) ?_) hs hi' HN.out).mono ?_); (focus (repeat' (first | (with_reducible assumption) | (with_reducible refine Went.alloc ?_ _) | (with_reducible refine Went.drewN ?_ _) | (with_reducible refine Went.inc (i := i) ?_ _) | (with_reducible refine Went.setOwn ?_ ?_ ?_ _) | omega))); rintro e w1 ⟨rfl, hW1⟩; have W1 := Went.trans (a := w) (i := i) (by (repeat' (first | (with_reducible assumption) | (with_reducible refine Went.alloc ?_ _) | (with_reducible refine Went.drewN ?_ _) | (with_reducible refine Went.inc (i := i) ?_ _) | (with_reducible refine Went.setOwn ?_ ?_ ?_ _) | omega))) hW1; obtain ⟨hc21, hf21, hl21⟩ := hW1.far (k := w.heap.size) (by go_size) (by omega); obtain ⟨hc41, hf41, hl41⟩ := hW1.far (k := w.heap.size + 1) (by go_size) (by omega); obtain ⟨g01, g11, g21⟩ := hW1.at_; have b401 := (hc41 0).trans (show _ = some (.int .i64 4) by (first | assumption | (simp [go_sem]; done) | (simp [go_sem, *]; done))); have b201 := (hc21 0).trans (show _ = some (.int .i64 0) by (first | assumption | (simp [go_sem]; done) | (simp [go_sem, *]; done))); have f401 := (hf41 0).trans (show _ = false by (first | assumption | (simp [go_sem]; done) | (simp [go_sem, *]; done))); have f201 := (hf21 0).trans (show _ = false by (first | assumption | (simp [go_sem]; done) | (simp [go_sem, *]; done))); have b411 := (hc41 1).trans (show _ = some (.string ⟨#[]⟩) by (first | assumption | (simp [go_sem]; done) | (simp [go_sem, *]; done))); have b211 := (hc21 1).trans (show _ = some (.string ⟨#[]⟩) by (first | assumption | (simp [go_sem]; done) | (simp [go_sem, *]; done))); have f411 := (hf41 1).trans (show _ = false by (first | assumption | (simp [go_sem]; done) | (simp [go_sem, *]; done))); have f211 := (hf21 1).trans (show _ = false by (first | assumption | (simp [go_sem]; done) | (simp [go_sem, *]; done))); have b421 := (hc41 2).trans (show _ = some (.int .i64 0) by (first | assumption | (simp [go_sem]; done) | (simp [go_sem, *]; done))); have b221 := (hc21 2).trans (show _ = some (.int .i64 0) by (first | assumption | (simp [go_sem]; done) | (simp [go_sem, *]; done))); have f421 := (hf41 2).trans (show _ = false by (first | assumption | (simp [go_sem]; done) | (simp [go_sem, *]; done))); have f221 := (hf21 2).trans (show _ = false by (first | assumption | (simp [go_sem]; done) | (simp [go_sem, *]; done))); have b431 := (hc41 3).trans (show _ = some (.int .i64 i) by (first | assumption | (simp [go_sem]; done) | (simp [go_sem, *]; done))); have b231 := (hc21 3).trans (show _ = some (.int .i64 0) by (first | assumption | (simp [go_sem]; done) | (simp [go_sem, *]; done))); have f431 := (hf41 3).trans (show _ = false by (first | assumption | (simp [go_sem]; done) | (simp [go_sem, *]; done))); have f231 := (hf21 3).trans (show _ = false by (first | assumption | (simp [go_sem]; done) | (simp [go_sem, *]; done))); clear W0 hW1 hc21 hf21 hc41 hf41))
  refine bodyPost_ret (v := .tuple #[.agg #[.int .i64 4, .string ⟨#[]⟩, .int .i64 v, .int .i64 i], .int .i64 0]) (by simp [results, Try.results18, go_sem, *]) rfl ?_
  right
  refine ⟨_, _, ⟨#[]⟩, HT.out, rfl, rfl, ?_⟩
  (repeat' (first | (with_reducible assumption) | (with_reducible refine Went.alloc ?_ _) | (with_reducible refine Went.drewN ?_ _) | (with_reducible refine Went.inc (i := i) ?_ _) | (with_reducible refine Went.setOwn ?_ ?_ ?_ _) | omega))

set_option maxRecDepth 100000 in
set_option maxHeartbeats 4000000 in
theorem tok_txt_no {w : World} {b : Nat} {s : ByteArray} {i : Nat} (h : At w b s i) (hs : s.size ≤ 100000) (hi : i < s.size) (x y : UInt8) (hx : byteU s i = x) (hy : byteU s (i + 1) = y) (hl : letB x = false) (hdg : digB x = false) (ex39 : ((x.toNat : Int) == 39) = true) (hn : txt (s.data.toList.drop (i + 1)) = none) (hT : tokV (x :: s.data.toList.drop (i + 1)) = .err 11) :
    Calls Try.prog 18 #[.pointer (some ⟨b, 0, none⟩)] w (TokPost w b s i) := by
  have hi' : i ≤ s.size := by omega
  have hlb := h.lt
  have HX := Lib.hid hx
  have HY := Lib.hid hy
  have hcons := byte_cons hi
  rw [hx] at hcons
  have HC := Lib.hid hcons
  clear hx hy hcons
  have W0 := Went.refl h
  obtain ⟨c0, c1, f1⟩ := h
  have hne2 : w.heap.size ≠ b := by omega
  have hne4 : w.heap.size + 1 ≠ b := by omega
  have hne2' := hne2.symm
  have hne4' := hne4.symm
  have HT : Hid (tokV (s.data.toList.drop i) = .err 11) := by
    show _ = _
    rw [HC.out]; exact hT
  clear hT
  have hi1 : i + 1 ≤ s.size := by omega
  have HN := Lib.hid hn
  clear hn
  go_enter Try.func18, Try.ntmps18
  go_wp2_with (first | (go_at_call 23; (with_reducible refine (next0 (i := i) (Went.at_ (w := w) ?_) hs hi').mono ?_); (focus (repeat' (first | (with_reducible assumption) | (with_reducible refine Went.alloc ?_ _) | (with_reducible refine Went.drewN ?_ _) | (with_reducible refine Went.inc (i := i) ?_ _) | (with_reducible refine Went.setOwn ?_ ?_ ?_ _) | omega))); rw [HX.out]; rintro e w9 ⟨rfl, n1, rfl⟩) | (go_at_call 24; (with_reducible refine (let_any x _).mono ?_); rw [hl]; rintro e w9 ⟨rfl, rfl⟩) | (go_at_call 27; (with_reducible refine (dig_any x _).mono ?_); rw [hdg]; rintro e w9 ⟨rfl, rfl⟩) | (go_at_call 29; (with_reducible refine (text_none (Went.at_ (w := w) (i := i + 1) ?_) hs hi1 HN.out).mono ?_); (focus (repeat' (first | (with_reducible assumption) | (with_reducible refine Went.alloc ?_ _) | (with_reducible refine Went.drewN ?_ _) | (with_reducible refine Went.inc (i := i) ?_ _) | (with_reducible refine Went.setOwn ?_ ?_ ?_ _) | omega))); rintro e w1 ⟨rfl, k, hk, hW1⟩; have W1 := Went.trans (a := w) (i := i + 1) (by (repeat' (first | (with_reducible assumption) | (with_reducible refine Went.alloc ?_ _) | (with_reducible refine Went.drewN ?_ _) | (with_reducible refine Went.inc (i := i) ?_ _) | (with_reducible refine Went.setOwn ?_ ?_ ?_ _) | omega))) hW1; obtain ⟨hc21, hf21, hl21⟩ := hW1.far (k := w.heap.size) (by go_size) (by omega); obtain ⟨hc41, hf41, hl41⟩ := hW1.far (k := w.heap.size + 1) (by go_size) (by omega); obtain ⟨g01, g11, g21⟩ := hW1.at_; have b401 := (hc41 0).trans (show _ = some (.int .i64 5) by (first | assumption | (simp [go_sem]; done) | (simp [go_sem, *]; done))); have b201 := (hc21 0).trans (show _ = some (.int .i64 0) by (first | assumption | (simp [go_sem]; done) | (simp [go_sem, *]; done))); have f401 := (hf41 0).trans (show _ = false by (first | assumption | (simp [go_sem]; done) | (simp [go_sem, *]; done))); have f201 := (hf21 0).trans (show _ = false by (first | assumption | (simp [go_sem]; done) | (simp [go_sem, *]; done))); have b411 := (hc41 1).trans (show _ = some (.string ⟨#[]⟩) by (first | assumption | (simp [go_sem]; done) | (simp [go_sem, *]; done))); have b211 := (hc21 1).trans (show _ = some (.string ⟨#[]⟩) by (first | assumption | (simp [go_sem]; done) | (simp [go_sem, *]; done))); have f411 := (hf41 1).trans (show _ = false by (first | assumption | (simp [go_sem]; done) | (simp [go_sem, *]; done))); have f211 := (hf21 1).trans (show _ = false by (first | assumption | (simp [go_sem]; done) | (simp [go_sem, *]; done))); have b421 := (hc41 2).trans (show _ = some (.int .i64 0) by (first | assumption | (simp [go_sem]; done) | (simp [go_sem, *]; done))); have b221 := (hc21 2).trans (show _ = some (.int .i64 0) by (first | assumption | (simp [go_sem]; done) | (simp [go_sem, *]; done))); have f421 := (hf41 2).trans (show _ = false by (first | assumption | (simp [go_sem]; done) | (simp [go_sem, *]; done))); have f221 := (hf21 2).trans (show _ = false by (first | assumption | (simp [go_sem]; done) | (simp [go_sem, *]; done))); have b431 := (hc41 3).trans (show _ = some (.int .i64 i) by (first | assumption | (simp [go_sem]; done) | (simp [go_sem, *]; done))); have b231 := (hc21 3).trans (show _ = some (.int .i64 0) by (first | assumption | (simp [go_sem]; done) | (simp [go_sem, *]; done))); have f431 := (hf41 3).trans (show _ = false by (first | assumption | (simp [go_sem]; done) | (simp [go_sem, *]; done))); have f231 := (hf21 3).trans (show _ = false by (first | assumption | (simp [go_sem]; done) | (simp [go_sem, *]; done))); clear W0 hW1 hc21 hf21 hc41 hf41))
  refine bodyPost_ret (v := .tuple #[.agg #[.int .i64 5, .string ⟨#[]⟩, .int .i64 0, .int .i64 i], .int .i64 11]) (by simp [results, Try.results18, go_sem, *]) rfl ?_
  left
  refine ⟨11, HT.out, (by first | decide | omega), 5, ⟨#[]⟩, 0, rfl, k, hk, ?_⟩
  (repeat' (first | (with_reducible assumption) | (with_reducible refine Went.alloc ?_ _) | (with_reducible refine Went.drewN ?_ _) | (with_reducible refine Went.inc (i := i) ?_ _) | (with_reducible refine Went.setOwn ?_ ?_ ?_ _) | omega))

set_option maxRecDepth 100000 in
set_option maxHeartbeats 4000000 in
theorem tok_txt {w : World} {b : Nat} {s : ByteArray} {i : Nat} (h : At w b s i) (hs : s.size ≤ 100000) (hi : i < s.size) (x y : UInt8) (hx : byteU s i = x) (hy : byteU s (i + 1) = y) (hl : letB x = false) (hdg : digB x = false) (ex39 : ((x.toNat : Int) == 39) = true) (t : Bs) (n : Nat) (hn : txt (s.data.toList.drop (i + 1)) = some (t, n)) (hT : tokV (x :: s.data.toList.drop (i + 1)) = .ok ⟨5, t, 0⟩ (n + 1)) :
    Calls Try.prog 18 #[.pointer (some ⟨b, 0, none⟩)] w (TokPost w b s i) := by
  have hi' : i ≤ s.size := by omega
  have hlb := h.lt
  have HX := Lib.hid hx
  have HY := Lib.hid hy
  have hcons := byte_cons hi
  rw [hx] at hcons
  have HC := Lib.hid hcons
  clear hx hy hcons
  have W0 := Went.refl h
  obtain ⟨c0, c1, f1⟩ := h
  have hne2 : w.heap.size ≠ b := by omega
  have hne4 : w.heap.size + 1 ≠ b := by omega
  have hne2' := hne2.symm
  have hne4' := hne4.symm
  have HT : Hid (tokV (s.data.toList.drop i) = .ok ⟨5, t, 0⟩ (n + 1)) := by
    show _ = _
    rw [HC.out]; exact hT
  clear hT
  have hi1 : i + 1 ≤ s.size := by omega
  have HN := Lib.hid hn
  clear hn
  go_enter Try.func18, Try.ntmps18
  go_wp2_with (first | (go_at_call 23; (with_reducible refine (next0 (i := i) (Went.at_ (w := w) ?_) hs hi').mono ?_); (focus (repeat' (first | (with_reducible assumption) | (with_reducible refine Went.alloc ?_ _) | (with_reducible refine Went.drewN ?_ _) | (with_reducible refine Went.inc (i := i) ?_ _) | (with_reducible refine Went.setOwn ?_ ?_ ?_ _) | omega))); rw [HX.out]; rintro e w9 ⟨rfl, n1, rfl⟩) | (go_at_call 24; (with_reducible refine (let_any x _).mono ?_); rw [hl]; rintro e w9 ⟨rfl, rfl⟩) | (go_at_call 27; (with_reducible refine (dig_any x _).mono ?_); rw [hdg]; rintro e w9 ⟨rfl, rfl⟩) | (go_at_call 29; (with_reducible refine (text_some (Went.at_ (w := w) (i := i + 1) ?_) hs hi1 HN.out).mono ?_); (focus (repeat' (first | (with_reducible assumption) | (with_reducible refine Went.alloc ?_ _) | (with_reducible refine Went.drewN ?_ _) | (with_reducible refine Went.inc (i := i) ?_ _) | (with_reducible refine Went.setOwn ?_ ?_ ?_ _) | omega))); rintro e w1 ⟨rfl, hW1⟩; have W1 := Went.trans (a := w) (i := i + 1) (by (repeat' (first | (with_reducible assumption) | (with_reducible refine Went.alloc ?_ _) | (with_reducible refine Went.drewN ?_ _) | (with_reducible refine Went.inc (i := i) ?_ _) | (with_reducible refine Went.setOwn ?_ ?_ ?_ _) | omega))) hW1; obtain ⟨hc21, hf21, hl21⟩ := hW1.far (k := w.heap.size) (by go_size) (by omega); obtain ⟨hc41, hf41, hl41⟩ := hW1.far (k := w.heap.size + 1) (by go_size) (by omega); obtain ⟨g01, g11, g21⟩ := hW1.at_; have b401 := (hc41 0).trans (show _ = some (.int .i64 5) by (first | assumption | (simp [go_sem]; done) | (simp [go_sem, *]; done))); have b201 := (hc21 0).trans (show _ = some (.int .i64 0) by (first | assumption | (simp [go_sem]; done) | (simp [go_sem, *]; done))); have f401 := (hf41 0).trans (show _ = false by (first | assumption | (simp [go_sem]; done) | (simp [go_sem, *]; done))); have f201 := (hf21 0).trans (show _ = false by (first | assumption | (simp [go_sem]; done) | (simp [go_sem, *]; done))); have b411 := (hc41 1).trans (show _ = some (.string ⟨#[]⟩) by (first | assumption | (simp [go_sem]; done) | (simp [go_sem, *]; done))); have b211 := (hc21 1).trans (show _ = some (.string ⟨#[]⟩) by (first | assumption | (simp [go_sem]; done) | (simp [go_sem, *]; done))); have f411 := (hf41 1).trans (show _ = false by (first | assumption | (simp [go_sem]; done) | (simp [go_sem, *]; done))); have f211 := (hf21 1).trans (show _ = false by (first | assumption | (simp [go_sem]; done) | (simp [go_sem, *]; done))); have b421 := (hc41 2).trans (show _ = some (.int .i64 0) by (first | assumption | (simp [go_sem]; done) | (simp [go_sem, *]; done))); have b221 := (hc21 2).trans (show _ = some (.int .i64 0) by (first | assumption | (simp [go_sem]; done) | (simp [go_sem, *]; done))); have f421 := (hf41 2).trans (show _ = false by (first | assumption | (simp [go_sem]; done) | (simp [go_sem, *]; done))); have f221 := (hf21 2).trans (show _ = false by (first | assumption | (simp [go_sem]; done) | (simp [go_sem, *]; done))); have b431 := (hc41 3).trans (show _ = some (.int .i64 i) by (first | assumption | (simp [go_sem]; done) | (simp [go_sem, *]; done))); have b231 := (hc21 3).trans (show _ = some (.int .i64 0) by (first | assumption | (simp [go_sem]; done) | (simp [go_sem, *]; done))); have f431 := (hf41 3).trans (show _ = false by (first | assumption | (simp [go_sem]; done) | (simp [go_sem, *]; done))); have f231 := (hf21 3).trans (show _ = false by (first | assumption | (simp [go_sem]; done) | (simp [go_sem, *]; done))); clear W0 hW1 hc21 hf21 hc41 hf41))
  refine bodyPost_ret (v := .tuple #[.agg #[.int .i64 5, .string ⟨t.toArray⟩, .int .i64 0, .int .i64 i], .int .i64 0]) (by simp [results, Try.results18, go_sem, *]) rfl ?_
  right
  refine ⟨_, _, ⟨t.toArray⟩, HT.out, rfl, rfl, ?_⟩
  rw [show i + (n + 1) = i + 1 + n by omega]
  (repeat' (first | (with_reducible assumption) | (with_reducible refine Went.alloc ?_ _) | (with_reducible refine Went.drewN ?_ _) | (with_reducible refine Went.inc (i := i) ?_ _) | (with_reducible refine Went.setOwn ?_ ?_ ?_ _) | omega))

end Go.Proofs.Ytdcibeagljeioaa
