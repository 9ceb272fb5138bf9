/- Chapter 06: a source's tokens. -/
import Derived.Test.YtdcibeagljeioaaW14
import Derived.WalkMore
import Derived.Deep.DeepCutAuto
import Derived.Deep.CutRange
namespace Go.Proofs.Ytdcibeagljeioaa
open Go.ChangeShapes Go.WideShapes Go.ChangeAt Go.RowKit
set_option linter.unusedVariables false
set_option linter.unusedSimpArgs false
theorem runblk {w : World} {b : Nat} {s : ByteArray} {i n : Nat} {t : ByteArray} (h : At w b s i) (hs : s.size ≤ 100000) (hi : i ≤ s.size) (hn : ((s.data.toList.drop i).takeWhile blankB).length = n) (ht : s.extract i (i + n) = t) (d : Nat) (hd_ : w.cell? ⟨d, 0, none⟩ = some (.string ⟨#[9, 10, 13, 32]⟩)) (hdb : d ≠ b) :
    Calls Try.prog 15 #[.pointer (some ⟨b, 0, none⟩), .func (.func 21) #[] #[.pointer (some ⟨d, 0, none⟩)], .int .i64 s.size] w fun e w' => e = .returned (.string t) ∧ Went w w' b s (i + n) := by
  have := run_in h hs hi s.size hs bBlanks d hd_ hdb
  rw [mem_blanks, rl_all, hn, ht] at this
  exact this.mono fun e w' h' => ⟨h'.1, h'.2.1, h'.2.2⟩
theorem info33 : (Try.prog.info? 33).map (fun i => (i.zero, i.size, i.bytes)) = some (some (.agg #[.int .i64 0, .string ⟨#[]⟩, .int .i64 0, .int .i64 0]), 4, 40) := by kernel_rfl
theorem tok_errs {l : Bs} {x : Int} (h : tokV l = .err x) : x ≠ 0 := by
  match l with
  | [] => cases h; decide
  | c :: r =>
    simp only [tokV] at h
    by_cases q1 : letB c = true
    · rw [if_pos q1] at h
      unfold wrdV at h
      split at h
      · cases h; decide
      · split at h <;> cases h
    · rw [if_neg q1] at h
      by_cases q2 : digB c = true
      · rw [if_pos q2] at h
        cases hn : numV (c :: r) 0 with
        | none => rw [hn] at h; cases h; decide
        | some v => rw [hn] at h; cases h
      · rw [if_neg q2] at h
        by_cases q3 : (c == 39) = true
        · rw [if_pos q3] at h
          cases hn : txt r with
          | none => rw [hn] at h; cases h; decide
          | some v => rw [hn] at h; cases h
        · rw [if_neg q3] at h
          by_cases q4 : (c == 35) = true
          · rw [if_pos q4] at h
            split at h
            · cases h
            · cases hn : symV r with
              | err e => rw [hn] at h; cases h; rcases sym_errs hn with rfl | rfl <;> decide
              | ok t n => rw [hn] at h; cases h
          · rw [if_neg q4] at h
            split at h
            · cases h
            · split at h
              · split at h
                · cases h; decide
                · cases h
              · split at h
                · cases h
                · split at h
                  · cases h
                  · cases h; decide
theorem tok_errC {w : World} {b : Nat} {s : ByteArray} {i : Nat} {x : Int} (h : At w b s i) (hs : s.size ≤ 100000) (hi : i < s.size) (hv : tokV (s.data.toList.drop i) = .err x) :
    Calls Try.prog 18 #[.pointer (some ⟨b, 0, none⟩)] w fun e w' => ∃ (k1 : Int) (k2 : ByteArray) (k3 : Int), e = .returned (.tuple #[.agg #[.int .i64 k1, .string k2, .int .i64 k3, .int .i64 i], .int .i64 x]) ∧ ∃ k, k ≤ s.size ∧ Went w w' b s k :=
  (token_any h hs hi).mono fun e w' hp => by
    rcases hp with ⟨y, h1, _, h3⟩ | ⟨t, n, T, h1, _⟩
    · rw [hv] at h1; cases h1; exact h3
    · rw [hv] at h1; cases h1
theorem tok_okC {w : World} {b : Nat} {s : ByteArray} {i : Nat} {t : Tok} {n : Nat} (h : At w b s i) (hs : s.size ≤ 100000) (hi : i < s.size) (hv : tokV (s.data.toList.drop i) = .ok t n) :
    Calls Try.prog 18 #[.pointer (some ⟨b, 0, none⟩)] w fun e w' => e = .returned (.tuple #[.agg #[.int .i64 t.kind, .string (strB t.text), .int .i64 t.num, .int .i64 i], .int .i64 0]) ∧ Went w w' b s (i + n) :=
  (token_any h hs hi).mono fun e w' hp => by
    rcases hp with ⟨y, h1, _⟩ | ⟨t', n', T, h1, h2, h3, h4⟩
    · rw [hv] at h1; cases h1
    · rw [hv] at h1; cases h1
      rw [← strB_of h2]; exact ⟨h3, h4⟩
theorem ix34 (s : ByteArray) (w : World) : Calls Try.prog 17 #[.string s, .int .u8 34] w fun e w' => e = .returned (.int .i64 (Lib.indexByte s.data.toList 34)) ∧ w' = w := ix_any s 34 w
theorem own_setCell {w : World} {base : Nat} {e : TypeId} {size n : Nat} {v : Value} {xs : List Value} (h : w.ownsRow base e size v n xs) {b o : Nat} (u : Value) (hb : b < base) :
    (w.setCell ⟨b, o, none⟩ u).ownsRow base e size v n xs := by
  refine ⟨h.1, ?_⟩
  rcases h.2 with h | ⟨g, cap, cur, hv, hg, hh, rest⟩
  · exact .inl h
  · exact .inr ⟨g, cap, cur, hv, hg, (heap_setCell_other w ⟨b, o, none⟩ g u (fun e => by simp at e; omega)).trans hh, rest⟩
theorem cells_newN (w : World) (t : TypeId) (l : List Value) (n : Nat) (hn : n = w.heap.size) : ∀ (j : Nat) (u : Value), l[j]? = some u → (w.alloc (.cells l.toArray t)).cell? ((⟨n, 0, none⟩ : Addr).add j) = some u := by
  subst hn; exact cells_new w t l
theorem ext_end (s : ByteArray) (a : Nat) : (s.extract a s.size).data.toList = s.data.toList.drop a := by
  rw [ByteArray.data_extract, Array.toList_extract, List.extract_eq_take_drop]
  apply List.take_of_length_le
  simp
/-- what Tokens tells -/
def TokensPost (w : World) (s : ByteArray) (e : Ending) (w' : World) : Prop :=
  Below w.heap.size w w' ∧ ((2000 < s.size ∧ e = .returned (.tuple #[.slice none 0 0, .int .i64 0, .int .i64 12])) ∨
    (s.size ≤ 2000 ∧ ((∃ (a : Nat) (x : Int), toksV s.data.toList = .err a x ∧ x ≠ 0 ∧ e = .returned (.tuple #[.slice none 0 0, .int .i64 a, .int .i64 x])) ∨
      ∃ (A : List ATok) (v : Value), toksV s.data.toList = .ok A ∧ e = .returned (.tuple #[v, .int .i64 0, .int .i64 0]) ∧ w'.ownsRow w.heap.size 33 4 v A.length (rowCells A))))
def TokRel (w : World) (s : ByteArray) (g : Nat) (o : Value) (wr : World) : Prop :=
  ∃ j acc, g + j = s.size ∧ acc.length ≤ j ∧ wr.ownsRow (w.heap.size + 1) 33 4 o acc.length (rowCells acc) ∧ toksV s.data.toList = Toks.app acc (toksF (s.size + 1) j (s.data.toList.drop j)) ∧ Below w.heap.size w wr ∧ At wr w.heap.size s j
set_option maxRecDepth 100000 in
set_option maxHeartbeats 8000000 in
theorem tokens_any (s : ByteArray) (w : World) (hs : s.size ≤ 9223372036854775807) : Calls Try.prog 10 #[.string s] w (TokensPost w s) := by
  obtain ⟨i0, hi, hz0, hz1, hz2⟩ := info_parts info33
  by_cases hbig : 2000 < s.size
  · have d1 : decide (2000 < s.size) = true := decide_eq_true hbig
    go_enter Try.func10, Try.ntmps10
    go_wp2
    go_step3
    go_wp2
    rw [Exit.noGoto_ret]
    go_ret3
    exact ⟨Below.refl _ _, .inl ⟨hbig, rfl⟩⟩
  · have d1 : decide (2000 < s.size) = false := decide_eq_false hbig
    have d1' : decide ((2000 : Int) < (s.size : Int)) = false := decide_eq_false (by omega)
    have hs2 : s.size ≤ 2000 := by omega
    have hs3 : s.size ≤ 100000 := by omega
    clear hbig
    go_enter Try.func10, Try.ntmps10
    go_wp2
    go_step3
    go_wp2
    go_step3
    go_wp2

    go_loopg [6] s.size (fun g o wr => TokRel w s g o wr)
    case atStart =>
      refine ⟨0, [], by omega, by simp, World.ownsRow_nil _ _ _ _, ?_, ?_, ⟨?_, ?_, ?_⟩⟩
      · rw [Toks.app_nil]; rfl
      · (repeat' (first | (with_reducible exact Below.refl _ _) | (with_reducible assumption) | (with_reducible refine below_drewN ?_ _) | (with_reducible refine Below.alloc ?_ ?_ _) | (with_reducible refine Below.drew ?_) | (with_reducible refine Below.setCell ?_ ?_ _) | go_size))
      · (first | assumption | (simp [go_sem]; done) | (simp [go_sem, *]; done))
      · (first | assumption | (simp [go_sem]; done) | (simp [go_sem, *]; done))
      · (first | assumption | (simp [go_sem]; done) | (simp [go_sem, *]; done))
    case round =>
      obtain ⟨j, acc, hg, hal, hown, htk, hB, hA⟩ := hrel
      have HG := Lib.hid hg
      have HTK := Lib.hid htk
      have hj : j ≤ s.size := by omega
      clear hg htk
      have hlw := hA.lt
      have htw := (List.takeWhile_prefix (p := blankB) (l := s.data.toList.drop j)).length_le
      have hszl : s.data.toList.length = s.size := rfl
      simp only [List.length_drop] at htw
      have hstep := toks_blanks s.size j (s.data.toList.drop j)
      obtain ⟨n, hn⟩ : ∃ n, ((s.data.toList.drop j).takeWhile blankB).length = n := ⟨_, rfl⟩
      rw [hn] at htw hstep
      rw [List.drop_drop] at hstep
      have HN := Lib.hid hn
      have HST := Lib.hid hstep
      have hbn : j + n ≤ s.size := by omega
      clear hn hstep hszl
      obtain ⟨t, ht⟩ : ∃ t, s.extract j (j + n) = t := ⟨_, rfl⟩
      have HTT := Lib.hid ht
      clear ht
      have W0 := Went.refl hA
      obtain ⟨q, hq⟩ : ∃ q, q = j + n := ⟨_, rfl⟩
      have HQ := Lib.hid hq
      go_upto_region 6 with (first | (go_at_call 16; (with_reducible refine (inmk_any _ _).mono ?_); rintro e w9 ⟨rfl, rfl⟩) | (go_at_call 15; (with_reducible refine (runblk (Went.at_ (w := wr) (i := j) ?_) hs3 hj HN.out HTT.out _ ?_ ?_).mono ?_); (focus (repeat' (first | (with_reducible assumption) | (with_reducible refine Went.alloc ?_ _) | (with_reducible refine Went.drewN ?_ _) | (with_reducible refine Went.inc (i := i) ?_ _) | (with_reducible refine Went.setOwn ?_ ?_ ?_ _) | omega))); (focus (first | assumption | (simp [go_sem]; done) | (simp [go_sem, *]; done))); (focus omega); rintro e w1 ⟨rfl, hW1⟩))
      rw [← hq] at hW1
      have hown1 := own_went (hown.alloc (.cells #[.string ⟨#[9, 10, 13, 32]⟩] 9)) hW1 (by omega)
      have hB1 := below_went (show Below w.heap.size w (wr.alloc (.cells #[.string ⟨#[9, 10, 13, 32]⟩] 9)) by (repeat' (first | (with_reducible exact Below.refl _ _) | (with_reducible assumption) | (with_reducible refine below_drewN ?_ _) | (with_reducible refine Below.alloc ?_ ?_ _) | (with_reducible refine Below.drew ?_) | (with_reducible refine Below.setCell ?_ ?_ _) | go_size))) hW1 (Nat.le_refl _)
      have hA1 := hW1.at_
      clear hown hB hA W0 hW1 hlw
      have hq2 : q ≤ s.size := by omega
      have hqj : j ≤ q := by omega
      clear hq
      have HST2 : Hid (toksV s.data.toList = Toks.app acc (toksF (s.size + 1) q (s.data.toList.drop q))) := by show _ = _; rw [HTK.out, HST.out, ← HQ.out]
      obtain ⟨c0, c1, f1⟩ := hA1
      have hlw1 : w.heap.size < w1.heap.size := cell_lt c0
      by_cases hend : s.size ≤ q
      · have d2 : decide (s.size ≤ q) = true := decide_eq_true hend
        have d2' : decide ((s.size : Int) ≤ (q : Int)) = true := decide_eq_true (by omega)
        have hqs : q = s.size := by omega
        have HQS := Lib.hid hqs
        clear hqs
        go_wp2_with (at_builtin; refine wpList_append_own _ rfl _ _ 23 rfl (w.heap.size + 1) 33 i0 (.agg #[.int .i64 0, .string ⟨#[]⟩, .int .i64 0, .int .i64 0]) 4 40 Try.underlying23 hi hz0 hz1 hz2 rfl (by decide) _ _ _ rfl (hown1.alloc _) ⟨w1.heap.size, 0, none⟩ 1 1 [.int .i64 0, .string ⟨#[]⟩, .int .i64 0, .int .i64 s.size] rfl rfl (cells_new _ _ _) (by simp [Value.oneCell']) (by unfold maxLen; omega) (by omega) (by simp only [World.size_alloc]; omega) ?_; intro v2 w2 hown2 hg2 _)
        rw [Exit.noGoto_ret]
        go_ret3
        have hqs := HQS.out
        have hnil : s.data.toList.drop q = [] := List.drop_eq_nil_of_le (by rw [hqs]; exact Nat.le_refl _)
        have htoks : toksV s.data.toList = .ok (acc ++ [⟨0, [], 0, q⟩]) := by rw [HST2.out, hnil, toks_end]; rfl
        have hb2 := below_of_append (hown1.alloc (.cells #[.int .i64 0, .string ⟨#[]⟩, .int .i64 0, .int .i64 s.size] 33)) hg2 (by simp only [World.size_alloc]; omega)
        refine ⟨?_, .inr ⟨hs2, .inr ⟨_, v2, htoks, rfl, ?_⟩⟩⟩
        · have h3 : Below w.heap.size w (w1.alloc (.cells #[.int .i64 0, .string ⟨#[]⟩, .int .i64 0, .int .i64 s.size] 33)) := by (repeat' (first | (with_reducible exact Below.refl _ _) | (with_reducible assumption) | (with_reducible refine below_drewN ?_ _) | (with_reducible refine Below.alloc ?_ ?_ _) | (with_reducible refine Below.drew ?_) | (with_reducible refine Below.setCell ?_ ?_ _) | go_size))
          exact h3.trans (hb2.mono (by omega))
        · have := ownsRow_mono hown2 (show w.heap.size ≤ w.heap.size + 1 by omega)
          rw [rowCells_app]
          simp only [List.length_append, List.length_cons, List.length_nil, tokCells, hqs]
          exact this
      · have hql : q < s.size := by omega
        have d2 : decide (s.size ≤ q) = false := decide_eq_false hend
        have d2' : decide ((s.size : Int) ≤ (q : Int)) = false := decide_eq_false (by omega)
        have b1 : (0 : Int) ≤ (q : Int) := by omega
        have b2 : (q : Int) < (s.size : Int) := by omega
        have hcons := byte_cons hql
        have hsq : byteU s q = s[q] := by unfold byteU; rw [dif_pos hql]
        have hblank : blankB (s[q]) = false := by
          have := tw_end (p := blankB) (l := s.data.toList.drop j)
          rw [HN.out, List.drop_drop, ← HQ.out, hcons, hsq] at this
          exact this
        rw [hsq] at hcons
        obtain ⟨c, hc⟩ : ∃ c, s[q] = c := ⟨_, rfl⟩
        rw [hc] at hblank hcons
        have e34 := u8_eq c 34 (by omega)
        have HC := Lib.hid hcons
        have HSC := Lib.hid hc
        have HB := Lib.hid hblank
        clear hend hcons hsq hblank
        cases q34 : c == UInt8.ofNat 34
        · rw [q34] at e34
          have ec : ((c.toNat : Int) == 34) = false := e34
          have H34 : Hid ((c == 34) = false) := q34
          clear e34 q34
          cases hv : tokV (s.data.toList.drop q) with
          | err x =>
            have hx0 := tok_errs hv
            have n1 : (x == 0) = false := by simpa using hx0
            have n2 : (x != 0) = true := by simpa using hx0
            have HV := Lib.hid hv
            have hA1 : At w1 w.heap.size s q := ⟨c0, c1, f1⟩
            clear hv
            go_wp2_with (go_at_call 18; (with_reducible refine (tok_errC hA1 hs3 hql HV.out).mono ?_); rintro e w2 ⟨k1, k2, k3, rfl, k, hk, hW2⟩)
            go_quiet (fail)
            go_wp2_with fail
            rw [Exit.noGoto_ret]
            go_ret3
            have hb2 := below_went hB1 hW2 (Nat.le_refl _)
            have hS := hb2.size
            refine ⟨?_, .inr ⟨hs2, .inl ⟨q, x, ?_, hx0, rfl⟩⟩⟩
            · (repeat' (first | (with_reducible exact Below.refl _ _) | (with_reducible assumption) | (with_reducible refine below_drewN ?_ _) | (with_reducible refine Below.alloc ?_ ?_ _) | (with_reducible refine Below.drew ?_) | (with_reducible refine Below.setCell ?_ ?_ _) | go_size))
            · rw [HST2.out, HC.out, toks_tok HB.out H34.out, ← HC.out, HV.out]; rfl
          | ok u n' =>
            have hpos := tok_pos hv
            simp only [List.length_drop] at hpos
            have hszl : s.data.toList.length = s.size := rfl
            have hn1 : q + n' ≤ s.size := by omega
            have hn2 : 1 ≤ n' := hpos.1
            have HV := Lib.hid hv
            have hA1 : At w1 w.heap.size s q := ⟨c0, c1, f1⟩
            clear hv hpos hszl
            go_wp2_with (first | (go_at_call 18; (with_reducible refine (tok_okC hA1 hs3 hql HV.out).mono ?_); rintro e w2 ⟨rfl, hW2⟩; have hown2 := own_went hown1 hW2 (by omega); have hB2 := below_went hB1 hW2 (Nat.le_refl _); have hA2 := hW2.at_; have hlw2 := hA2.lt; clear c0 c1 f1 hW2 hA1) | (at_builtin; refine wpList_append_own _ rfl _ _ 23 rfl (w.heap.size + 1) 33 i0 (.agg #[.int .i64 0, .string ⟨#[]⟩, .int .i64 0, .int .i64 0]) 4 40 Try.underlying23 hi hz0 hz1 hz2 rfl (by decide) _ _ _ rfl ((hown2.alloc _).alloc _) ⟨w2.heap.size + 1, 0, none⟩ 1 1 [.int .i64 u.kind, .string (strB u.text), .int .i64 u.num, .int .i64 q] rfl rfl (cells_newN _ _ _ _ (by simp only [World.size_alloc])) (by simp [Value.oneCell']) (by unfold maxLen; omega) (by omega) (by simp only [World.size_alloc]; omega) ?_; intro v3 w3 hown3 hg3 _))
            go_roundg (gk - (n + n'))
            case measure => have h1 := HG.out; have h2 := HQ.out; omega
            case rel =>
              have h1 := HG.out
              have h2 := HQ.out
              have TB : Obj := .cells #[.int .i64 u.kind, .string (strB u.text), .int .i64 u.num, .int .i64 q] 33
              have hb3 := below_of_append ((hown2.alloc (.cells #[.int .i64 u.kind, .string (strB u.text), .int .i64 u.num, .int .i64 q] 33)).alloc (.cells #[.int .i64 u.kind, .string (strB u.text), .int .i64 u.num, .int .i64 q] 33)) hg3 (by simp only [World.size_alloc]; omega)
              have hA3 := (hA2.alloc (.cells #[.int .i64 u.kind, .string (strB u.text), .int .i64 u.num, .int .i64 q] 33)).alloc (.cells #[.int .i64 u.kind, .string (strB u.text), .int .i64 u.num, .int .i64 q] 33)
              refine ⟨q + n', acc ++ [⟨u.kind, u.text, u.num, q⟩], by omega, by simp; omega, ?_, ?_, ?_, ?_⟩
              · rw [rowCells_app]
                simp only [List.length_append, List.length_cons, List.length_nil, tokCells]
                exact hown3
              · rw [HST2.out, HC.out, toks_tok HB.out H34.out, ← HC.out, HV.out]
                simp only
                rw [Toks.app_cons, List.drop_drop, toks_fuel s.size (s.size + 1) _ _ (by simp; omega) (by simp; omega)]
              · have h3 : Below w.heap.size w ((w2.alloc (.cells #[.int .i64 u.kind, .string (strB u.text), .int .i64 u.num, .int .i64 q] 33)).alloc (.cells #[.int .i64 u.kind, .string (strB u.text), .int .i64 u.num, .int .i64 q] 33)) := by (repeat' (first | (with_reducible exact Below.refl _ _) | (with_reducible assumption) | (with_reducible refine below_drewN ?_ _) | (with_reducible refine Below.alloc ?_ ?_ _) | (with_reducible refine Below.drew ?_) | (with_reducible refine Below.setCell ?_ ?_ _) | go_size))
                exact h3.trans (hb3.mono (by omega))
              · exact ⟨(hb3.cell (p := ⟨w.heap.size, 0, none⟩) (by show w.heap.size < _; omega)).trans hA3.c0, (hb3.cell (p := ⟨w.heap.size, 1, none⟩) (by show w.heap.size < _; omega)).trans hA3.c1, (hb3.frozen (p := ⟨w.heap.size, 1, none⟩) (by show w.heap.size < _; omega)).trans hA3.f1⟩
        · have ec : ((c.toNat : Int) == 34) = true := (show ((c.toNat : Int) == 34) = (c == UInt8.ofNat 34) from e34).trans q34
          have hc34 : c = 34 := by simpa using q34
          rw [hc34] at HC
          obtain ⟨T, hT⟩ : ∃ T, s.extract (q + 1) s.size = T := ⟨_, rfl⟩
          have hTl : T.data.toList = s.data.toList.drop (q + 1) := by rw [← hT]; exact ext_end s (q + 1)
          have hir := index_rem (s.data.toList.drop (q + 1))
          rw [← hTl] at hir
          have HT := Lib.hid hT
          have HTL := Lib.hid hTl
          clear hT hTl e34 q34 hc34
          cases hr : remV (s.data.toList.drop (q + 1)) with
          | none =>
            have HR := Lib.hid hr
            have HI : Hid (Lib.indexByte T.data.toList 34 = -1) := by show _ = _; rw [hir, HTL.out, hr]
            clear hr hir
            go_wp2_with (go_at_call 17; (with_reducible refine (ix34 _ _).mono ?_); rw [HT.out, HI.out]; rintro e w2 ⟨rfl, rfl⟩)
            go_quiet (fail)
            go_wp2_with fail
            rw [Exit.noGoto_ret]
            go_ret3
            refine ⟨?_, .inr ⟨hs2, .inl ⟨q, 11, ?_, by decide, rfl⟩⟩⟩
            · (repeat' (first | (with_reducible exact Below.refl _ _) | (with_reducible assumption) | (with_reducible refine below_drewN ?_ _) | (with_reducible refine Below.alloc ?_ ?_ _) | (with_reducible refine Below.drew ?_) | (with_reducible refine Below.setCell ?_ ?_ _) | go_size))
            · rw [HST2.out, HC.out, toks_open HR.out]; rfl
          | some k =>
            have hk := remV_lt _ _ hr
            simp only [List.length_drop] at hk
            have hszl : s.data.toList.length = s.size := rfl
            have hk2 : q + (k + 2) ≤ s.size := by omega
            have HR := Lib.hid hr
            have HI : Hid (Lib.indexByte T.data.toList 34 = (k : Int)) := by show _ = _; rw [hir, HTL.out, hr]
            clear hr hir hszl hk
            go_wp2_with (go_at_call 17; (with_reducible refine (ix34 _ _).mono ?_); rw [HT.out, HI.out]; rintro e w2 ⟨rfl, rfl⟩)
            go_roundg (gk - (n + (k + 2)))
            case measure => have h1 := HG.out; have h2 := HQ.out; omega
            case rel =>
              have h1 := HG.out
              have h2 := HQ.out
              refine ⟨q + (k + 2), acc, by omega, by omega, own_setCell hown1 _ (by omega), ?_, ?_, (⟨c0, c1, f1⟩ : At _ w.heap.size s q).set (q + (k + 2))⟩
              · rw [HST2.out, HC.out, toks_rem HR.out, List.drop_drop, show q + 1 + (k + 1) = q + (k + 2) by omega]
              · (repeat' (first | (with_reducible exact Below.refl _ _) | (with_reducible assumption) | (with_reducible refine below_drewN ?_ _) | (with_reducible refine Below.alloc ?_ ?_ _) | (with_reducible refine Below.drew ?_) | (with_reducible refine Below.setCell ?_ ?_ _) | go_size))
end Go.Proofs.Ytdcibeagljeioaa
