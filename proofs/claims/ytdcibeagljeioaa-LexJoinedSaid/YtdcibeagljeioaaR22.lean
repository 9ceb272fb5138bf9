/- Chapter 06: the reference's tokens of a source. -/
import Derived.Test.YtdcibeagljeioaaR21
import Derived.Test.YtdcibeagljeioaaW15
namespace Go.Proofs.Ytdcibeagljeioaa
open Go.ChangeShapes Go.WideShapes Go.ChangeAt Go.RowKit
set_option linter.unusedVariables false
set_option linter.unusedSimpArgs false
theorem below_of_grown {w w' : World} (h : w.grownBy w' none) : Below w.heap.size w w' := ⟨h.os, h.tape, h.output, h.size, fun k hk => h.block k hk (by simp)⟩
theorem rtok_errC {s : ByteArray} {i : Nat} {w : World} {x : Int} (hs : s.size ≤ 100000) (hi : i < s.size) (hv : tokV (s.data.toList.drop i) = .err x) :
    Calls Try.prog 19 #[.string s, .int .i64 i] w fun e w' => ∃ (k1 : Int) (k2 : ByteArray) (k3 : Int), e = .returned (.tuple #[.agg #[.int .i64 k1, .string k2, .int .i64 k3, .int .i64 i], .int .i64 0, .int .i64 x]) ∧ Below w.heap.size w w' :=
  (rtoken_any s i w hs hi).mono fun e w' hp => by
    rcases hp with ⟨hg, ⟨y, h1, k1, k2, k3, rfl⟩ | ⟨t, n, T, h1, _⟩⟩
    · rw [hv] at h1; cases h1; exact ⟨k1, k2, k3, rfl, below_of_grown hg⟩
    · rw [hv] at h1; cases h1
theorem rtok_okC {s : ByteArray} {i : Nat} {w : World} {t : Tok} {n : Nat} (hs : s.size ≤ 100000) (hi : i < s.size) (hv : tokV (s.data.toList.drop i) = .ok t n) :
    Calls Try.prog 19 #[.string s, .int .i64 i] w fun e w' => e = .returned (.tuple #[.agg #[.int .i64 t.kind, .string (strB t.text), .int .i64 t.num, .int .i64 i], .int .i64 ((i + n : Nat) : Int), .int .i64 0]) ∧ Below w.heap.size w w' :=
  (rtoken_any s i w hs hi).mono fun e w' hp => by
    rcases hp with ⟨hg, ⟨y, h1, _⟩ | ⟨t', n', T, h1, h2, h3⟩⟩
    · rw [hv] at h1; cases h1
    · rw [hv] at h1; cases h1
      rw [← strB_of h2]; exact ⟨h3, below_of_grown hg⟩
theorem toks_step (f j n : Nat) (op : Bool) (l : Bs) (hn : skipV (l.drop j) = (n, op)) : toksF (f + 1) j (l.drop j) = if op then .err (j + n) 11 else if n = (l.drop j).length then .ok [⟨0, [], 0, j + n⟩] else match tokV (l.drop (j + n)) with | .err e => .err (j + n) e | .ok t m => .cons ⟨t.kind, t.text, t.num, j + n⟩ (toksF f (j + n + m) (l.drop (j + n + m))) := by
  rw [toksF, hn]
  cases op
  · simp only [Bool.false_eq_true, if_false]
    by_cases h : n = (l.drop j).length
    · rw [if_pos h, if_pos h]
    · rw [if_neg h, if_neg h]
      simp only [List.drop_drop]
      cases tokV (l.drop (j + n)) with
      | err e => rfl
      | ok t m => simp only [Nat.add_assoc]
  · rfl
def RTokRel (w : World) (s : ByteArray) (g : Nat) (p o : Value) (wr : World) : Prop :=
  ∃ (j : Nat) (acc : List ATok), p = .int .i64 (j : Int) ∧ g + j = s.size ∧ acc.length ≤ j ∧ wr.ownsRow w.heap.size 33 4 o acc.length (rowCells acc) ∧ toksV s.data.toList = Toks.app acc (toksF (s.size + 1) j (s.data.toList.drop j)) ∧ Below w.heap.size w wr
set_option maxRecDepth 100000 in
set_option maxHeartbeats 8000000 in
theorem rtokens_any (s : ByteArray) (w : World) (hs : s.size ≤ 9223372036854775807) : Calls Try.prog 11 #[.string s] w (TokensPost w s) := by
  obtain ⟨i0, hi, hz0, hz1, hz2⟩ := info_parts info33
  by_cases hbig : 2000 < s.size
  · have d1 : decide (2000 < s.size) = true := decide_eq_true hbig
    go_enter Try.func11, Try.ntmps11
    go_wp2
    go_ret3
    exact ⟨Below.refl _ _, .inl ⟨hbig, rfl⟩⟩
  · have d1 : decide (2000 < s.size) = false := decide_eq_false hbig
    have d1' : decide ((2000 : Int) < (s.size : Int)) = false := decide_eq_false (by omega)
    have hs2 : s.size ≤ 2000 := by omega
    have hs3 : s.size ≤ 100000 := by omega
    clear hbig
    go_enter Try.func11, Try.ntmps11
    go_wp2
    go_loopg [6, 5] s.size (fun g p o wr => RTokRel w s g p o wr)
    case atStart =>
      refine ⟨0, [], rfl, by omega, by simp, World.ownsRow_nil _ _ _ _, ?_, ?_⟩
      · rw [Toks.app_nil]; rfl
      · (repeat' (first | (with_reducible exact Below.refl _ _) | (with_reducible assumption) | (with_reducible refine below_drewN ?_ _) | (with_reducible refine Below.alloc ?_ ?_ _) | (with_reducible refine Below.drew ?_) | (with_reducible refine Below.setCell ?_ ?_ _) | go_size))
    case round =>
      obtain ⟨j, acc, rfl, hg, hal, hown, htk, hB⟩ := hrel
      have HG := Lib.hid hg
      have HTK := Lib.hid htk
      have hj : j ≤ s.size := by omega
      have hlw := hB.size
      clear hg htk
      have hskl := skip_le_aux _ (s.data.toList.drop j) (Nat.le_refl _)
      have hszl : s.data.toList.length = s.size := rfl
      simp only [List.length_drop] at hskl
      obtain ⟨⟨n, op⟩, hn⟩ : ∃ z, skipV (s.data.toList.drop j) = z := ⟨_, rfl⟩
      rw [hn, hszl] at hskl
      simp only at hskl
      have HN := Lib.hid hn
      have hstep : toksF (s.size + 1) j (s.data.toList.drop j) = if op then .err (j + n) 11 else if n = (s.data.toList.drop j).length then .ok [⟨0, [], 0, j + n⟩] else match tokV (s.data.toList.drop (j + n)) with | .err e => .err (j + n) e | .ok t m => .cons ⟨t.kind, t.text, t.num, j + n⟩ (toksF s.size (j + n + m) (s.data.toList.drop (j + n + m))) := by
        exact toks_step s.size j n op _ hn
      have HST := Lib.hid hstep
      have hbn : j + n ≤ s.size := by omega
      obtain ⟨q, hq⟩ : ∃ q, q = j + n := ⟨_, rfl⟩
      have HQ := Lib.hid hq
      rw [← hq] at hbn
      have hlq : (s.data.toList.drop j).length = s.size - j := by simp
      clear hn hstep hszl
      cases op
      · clear hskl
        by_cases hend : q = s.size
        · have e1 : ((q : Int) == (s.size : Int)) = true := by rw [hend]; simp
          have e1' : (q == s.size) = true := by rw [hend]; simp
          have htoks : Hid (toksV s.data.toList = .ok (acc ++ [⟨0, [], 0, q⟩])) := by
            show _ = _
            rw [HTK.out, HST.out, if_neg (by simp), if_pos (by rw [hlq]; omega), ← hq, Toks.app]
          have HE := Lib.hid hend
          clear hend hq hlq
          go_wp2_with (first | (go_at_call 14; (with_reducible refine (rskip_any s j _ hs3 hj).mono ?_); rw [HN.out]; dsimp only; rw [← HQ.out]; rintro e w' ⟨rfl, hw'⟩; replace hw' := hw'.symm; subst hw') | (at_builtin; refine wpList_append_own _ rfl _ _ 23 rfl w.heap.size 33 i0 (.agg #[.int .i64 0, .string ⟨#[]⟩, .int .i64 0, .int .i64 0]) 4 40 Try.underlying23 hi hz0 hz1 hz2 rfl (by decide) _ _ _ rfl (hown.alloc _) ⟨wr.heap.size, 0, none⟩ 1 1 [.int .i64 0, .string ⟨#[]⟩, .int .i64 0, .int .i64 q] rfl rfl (cells_new _ _ _) (by simp [Value.oneCell']) (by unfold maxLen; omega) (by omega) (by simp only [World.size_alloc]; omega) ?_; intro v2 w2 hown2 hg2 _))
          go_ret3
          have hb2 := below_of_append (hown.alloc (.cells #[.int .i64 0, .string ⟨#[]⟩, .int .i64 0, .int .i64 q] 33)) hg2 (by simp only [World.size_alloc]; omega)
          refine ⟨?_, .inr ⟨hs2, .inr ⟨_, v2, htoks.out, rfl, ?_⟩⟩⟩
          · have h3 : Below w.heap.size w (wr.alloc (.cells #[.int .i64 0, .string ⟨#[]⟩, .int .i64 0, .int .i64 q] 33)) := by (repeat' (first | (with_reducible exact Below.refl _ _) | (with_reducible assumption) | (with_reducible refine below_drewN ?_ _) | (with_reducible refine Below.alloc ?_ ?_ _) | (with_reducible refine Below.drew ?_) | (with_reducible refine Below.setCell ?_ ?_ _) | go_size))
            exact h3.trans (hb2.mono (by omega))
          · rw [rowCells_app]
            simp only [List.length_append, List.length_cons, List.length_nil, tokCells]
            exact hown2
        · have e1 : ((q : Int) == (s.size : Int)) = false := by simp; omega
          have e1' : (q == s.size) = false := by simp; omega
          have hql : q < s.size := by omega
          have htoks : Hid (toksF (s.size + 1) j (s.data.toList.drop j) = match tokV (s.data.toList.drop q) with | .err e => .err q e | .ok t m => .cons ⟨t.kind, t.text, t.num, q⟩ (toksF s.size (q + m) (s.data.toList.drop (q + m)))) := by
            show _ = _
            rw [HST.out, if_neg (by simp), if_neg (by rw [hlq]; omega), ← hq]
          clear hend hlq
          have hqj : j ≤ q := by omega
          clear hq
          cases hv : tokV (s.data.toList.drop q) with
          | err x =>
            have hx0 := tok_errs hv
            have n1 : (x == 0) = false := by simpa using hx0
            have n2 : (x != 0) = true := by simpa using hx0
            have HV := Lib.hid hv
            clear hv
            go_wp2_with (first | (go_at_call 14; (with_reducible refine (rskip_any s j _ hs3 hj).mono ?_); rw [HN.out]; dsimp only; rw [← HQ.out]; rintro e w' ⟨rfl, hw'⟩; replace hw' := hw'.symm; subst hw') | (go_at_call 19; (with_reducible refine (rtok_errC hs3 hql HV.out).mono ?_); rintro e w2 ⟨k1, k2, k3, rfl, hb2⟩))
            go_ret3
            have hS := hb2.size
            have hB2 := hB.trans (hb2.mono hlw)
            refine ⟨?_, .inr ⟨hs2, .inl ⟨q, x, ?_, hx0, rfl⟩⟩⟩
            · (repeat' (first | (with_reducible exact Below.refl _ _) | (with_reducible assumption) | (with_reducible refine below_drewN ?_ _) | (with_reducible refine Below.alloc ?_ ?_ _) | (with_reducible refine Below.drew ?_) | (with_reducible refine Below.setCell ?_ ?_ _) | go_size))
            · rw [HTK.out, htoks.out, HV.out]; rfl
          | ok u n' =>
            have hpos := tok_pos hv
            simp only [List.length_drop] at hpos
            have hszl : s.data.toList.length = s.size := rfl
            have hn1 : q + n' ≤ s.size := by omega
            have hn2 : 1 ≤ n' := hpos.1
            have HV := Lib.hid hv
            clear hv hpos hszl
            go_wp2_with (first | (go_at_call 14; (with_reducible refine (rskip_any s j _ hs3 hj).mono ?_); rw [HN.out]; dsimp only; rw [← HQ.out]; rintro e w' ⟨rfl, hw'⟩; replace hw' := hw'.symm; subst hw') | (go_at_call 19; (with_reducible refine (rtok_okC hs3 hql HV.out).mono ?_); rintro e w4 ⟨rfl, hb2⟩; have hown1 := ownsRow_below hown hb2; have hB2 := hB.trans (hb2.mono hlw); have hlw2 := hB2.size; clear hb2) | (at_builtin; refine wpList_append_own _ rfl _ _ 23 rfl w.heap.size 33 i0 (.agg #[.int .i64 0, .string ⟨#[]⟩, .int .i64 0, .int .i64 0]) 4 40 Try.underlying23 hi hz0 hz1 hz2 rfl (by decide) _ _ _ rfl ((hown1.alloc _).alloc _) ⟨w4.heap.size + 1, 0, none⟩ 1 1 [.int .i64 u.kind, .string (strB u.text), .int .i64 u.num, .int .i64 q] rfl rfl (cells_newN _ _ _ _ (by simp only [World.size_alloc])) (by simp [Value.oneCell']) (by unfold maxLen; omega) (by omega) (by simp only [World.size_alloc]; omega) ?_; intro v2 w2 hown2 hg2 _))
            go_roundg (gk - (n + n'))
            case measure => have h1 := HG.out; have h2 := HQ.out; omega
            case rel =>
              have h1 := HG.out
              have h2 := HQ.out
              have hb3 := below_of_append ((hown1.alloc (.cells #[.int .i64 u.kind, .string (strB u.text), .int .i64 u.num, .int .i64 q] 33)).alloc (.cells #[.int .i64 u.kind, .string (strB u.text), .int .i64 u.num, .int .i64 q] 33)) hg2 (by simp only [World.size_alloc]; omega)
              refine ⟨q + n', acc ++ [⟨u.kind, u.text, u.num, q⟩], rfl, by omega, by simp; omega, ?_, ?_, ?_⟩
              · rw [rowCells_app]
                simp only [List.length_append, List.length_cons, List.length_nil, tokCells]
                exact hown2
              · rw [HTK.out, htoks.out, HV.out]
                simp only
                rw [Toks.app_cons, toks_fuel s.size (s.size + 1) _ _ (by simp; omega) (by simp; omega)]
              · have h3 : Below w.heap.size w ((w4.alloc (.cells #[.int .i64 u.kind, .string (strB u.text), .int .i64 u.num, .int .i64 q] 33)).alloc (.cells #[.int .i64 u.kind, .string (strB u.text), .int .i64 u.num, .int .i64 q] 33)) := by (repeat' (first | (with_reducible exact Below.refl _ _) | (with_reducible assumption) | (with_reducible refine below_drewN ?_ _) | (with_reducible refine Below.alloc ?_ ?_ _) | (with_reducible refine Below.drew ?_) | (with_reducible refine Below.setCell ?_ ?_ _) | go_size))
                exact h3.trans (hb3.mono (by omega))
      · have htoks : Hid (toksV s.data.toList = .err q 11) := by
          show _ = _
          rw [HTK.out, HST.out, if_pos rfl, ← hq]; rfl
        clear hskl hq hlq
        go_wp2_with (go_at_call 14; (with_reducible refine (rskip_any s j _ hs3 hj).mono ?_); rw [HN.out]; dsimp only; rw [← HQ.out]; rintro e w' ⟨rfl, hw'⟩; replace hw' := hw'.symm; subst hw')
        go_ret3
        exact ⟨hB, .inr ⟨hs2, .inl ⟨q, 11, htoks.out, by decide, rfl⟩⟩⟩
end Go.Proofs.Ytdcibeagljeioaa
