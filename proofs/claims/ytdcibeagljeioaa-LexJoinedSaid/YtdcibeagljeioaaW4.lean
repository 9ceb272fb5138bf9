/- Chapter 06: a text behind its first sign. -/
import Derived.Test.YtdcibeagljeioaaW3
namespace Go.Proofs.Ytdcibeagljeioaa
open Go.ChangeShapes Go.WideShapes Go.ChangeAt Go.RowKit
set_option linter.unusedVariables false
set_option linter.unusedSimpArgs false
theorem txt_run : ∀ l : Bs, (l.drop (l.takeWhile notQ).length = [] → txt l = none) ∧ ∀ c t, l.drop (l.takeWhile notQ).length = c :: t →
    txt l = if hd (· == 39) t then (txt (t.drop 1)).map (fun x => (l.take (l.takeWhile notQ).length ++ 39 :: x.1, x.2 + (l.takeWhile notQ).length + 2)) else some (l.take (l.takeWhile notQ).length, (l.takeWhile notQ).length + 1)
  | [] => ⟨fun _ => rfl, fun c t h => by simp at h⟩
  | [a] => by
    cases ha : a == 39
    · have hn : notQ a = true := by simp [notQ, bne, ha]
      refine ⟨fun _ => by simp [txt]; simpa using ha, fun c t h => by simp [hn] at h⟩
    · have hn : notQ a = false := by simp [notQ, bne, ha]
      refine ⟨fun h => by simp [hn] at h, fun c t h => ?_⟩
      simp [hn] at h ⊢
      obtain ⟨rfl, rfl⟩ := h
      simp [hd, txt]; simpa using ha
  | a :: d :: q => by
    cases ha : a == 39
    · have hn : notQ a = true := by simp [notQ, bne, ha]
      have ih := txt_run (d :: q)
      have e : txt (a :: d :: q) = (txt (d :: q)).map (fun x => (a :: x.1, x.2 + 1)) := by rw [txt, if_neg (by simp [ha])]
      simp only [List.takeWhile_cons (a := a), hn, if_true, List.length_cons, List.drop_succ_cons, List.take_succ_cons]
      refine ⟨fun h => by rw [e, ih.1 h]; rfl, fun c t h => ?_⟩
      rw [e, ih.2 c t h]
      split
      · cases txt (t.drop 1) with
        | none => rfl
        | some z => simp; omega
      · rfl
    · have hn : notQ a = false := by simp [notQ, bne, ha]
      refine ⟨fun h => by simp [hn] at h, fun c t h => ?_⟩
      simp only [List.takeWhile_cons, hn, List.length_nil, List.drop_zero, List.cons.injEq, Bool.false_eq_true, if_false] at h
      obtain ⟨rfl, rfl⟩ := h
      rw [txt, if_pos ha]
      simp [hn, hd]
theorem ext_list (s : ByteArray) (j r : Nat) : (s.extract j (j + r)).data.toList = (s.data.toList.drop j).take r := by
  rw [ByteArray.data_extract, Array.toList_extract, List.extract_eq_take_drop]
  congr 1; omega
theorem At.inc {w : World} {b : Nat} {s : ByteArray} {i : Nat} (h : At w b s i) (j : Nat) : At (w.setCell ⟨b, 1, none⟩ (.int .i64 ((j : Int) + 1))) b s (j + 1) := h.set (j + 1)
theorem Went.inc {w w' : World} {b : Nat} {s : ByteArray} {i : Nat} (h : Went w w' b s i) (j : Nat) : Went w (w'.setCell ⟨b, 1, none⟩ (.int .i64 ((j : Int) + 1))) b s (j + 1) := h.set (j + 1)
def TextPost (w : World) (b : Nat) (s : ByteArray) (i : Nat) (e : Ending) (w' : World) : Prop :=
  (txt (s.data.toList.drop i) = none ∧ e = .returned (.tuple #[.string ⟨#[]⟩, .int .i64 11]) ∧ ∃ k, k ≤ s.size ∧ Went w w' b s k) ∨
  ∃ (t : Bs) (n : Nat) (T : ByteArray), txt (s.data.toList.drop i) = some (t, n) ∧ T.data.toList = t ∧ e = .returned (.tuple #[.string T, .int .i64 0]) ∧ Went w w' b s (i + n)
def TextRel (w : World) (b : Nat) (s : ByteArray) (i g : Nat) (O : ByteArray) (wr : World) : Prop :=
  ∃ j, g + j = s.size ∧ i ≤ j ∧ O.size ≤ j - i ∧ txt (s.data.toList.drop i) = (txt (s.data.toList.drop j)).map (fun x => (O.data.toList ++ x.1, x.2 + (j - i))) ∧ Went w wr b s j
theorem app_list (a b : ByteArray) : (a ++ b).data.toList = a.data.toList ++ b.data.toList := by simp
set_option maxHeartbeats 4000000 in
theorem text_any {w : World} {b : Nat} {s : ByteArray} {i : Nat} (h : At w b s i) (hs : s.size ≤ 100000) (hi : i ≤ s.size) :
    Calls Try.prog 29 #[.pointer (some ⟨b, 0, none⟩)] w (TextPost w b s i) := by
  go_enter Try.func29, Try.ntmps29
  go_wp2
  go_loopg [4] (s.size - i) (fun g o wr => ∃ O, o = .string O ∧ TextRel w b s i g O wr)
  case atStart =>
    refine ⟨⟨#[]⟩, rfl, i, by omega, by omega, Nat.zero_le _, ?_, Went.refl h⟩
    cases txt (s.data.toList.drop i) with
    | none => rfl
    | some z => simp
  case round =>
    obtain ⟨O, rfl, j, hg, hij, hO, htx, hW⟩ := hrel
    have HTX := Lib.hid htx
    have HG := Lib.hid hg
    have hjs : j ≤ s.size := by omega
    clear htx hg
    have R := run_notq hW.at_ hs hjs s.size hs
    rw [rl_all] at R
    have TR := txt_run (s.data.toList.drop j)
    have hrl := (List.takeWhile_prefix (p := notQ) (l := s.data.toList.drop j)).length_le
    simp only [List.length_drop] at hrl
    have hsz : s.data.toList.length = s.size := rfl
    obtain ⟨r, hr⟩ : ∃ r, ((s.data.toList.drop j).takeWhile notQ).length = r := ⟨_, rfl⟩
    rw [hr] at R TR hrl
    have hjr : j + r ≤ s.size := by omega
    rw [List.drop_drop] at TR
    have hz := size_ext s j r hjr
    obtain ⟨t, ht⟩ : ∃ t, s.extract j (j + r) = t := ⟨_, rfl⟩
    rw [ht] at R hz
    have htl : Hid (t.data.toList = (s.data.toList.drop j).take r) := by show _ = _; rw [← ht]; exact ext_list s j r
    have HZ : Hid (t.size = r) := hz
    have hcat : O.size + t.size ≤ 100000 := by omega
    clear ht hr hz hrl hsz
    obtain ⟨q, hq⟩ : ∃ q, q = j + r := ⟨_, rfl⟩
    rw [← hq] at R TR hjr
    have HQ := Lib.hid hq
    clear hq
    have HTR := Lib.hid TR
    clear TR
    obtain ⟨c0, c1, f1⟩ := hW.at_
    by_cases hend : s.size ≤ q
    · have d1 : decide (s.size ≤ q) = true := decide_eq_true hend
      have d1' : decide ((s.size : Int) ≤ (q : Int)) = true := decide_eq_true (by omega)
      go_wp2_with (go_at_call 15; (with_reducible refine R.mono ?_); rintro e w1 ⟨rfl, hA, hG⟩; clear c0 c1 f1; obtain ⟨c0, c1, f1⟩ := hA)
      go_quiet (fail)
      go_wp2
      go_ret2
      left
      have hnil : s.data.toList.drop q = [] := List.drop_eq_nil_of_le hend
      refine ⟨?_, rfl, q, hjr, (hW.trans ⟨⟨c0, c1, f1⟩, hG⟩).drewN _⟩
      have := HTR.out.1 hnil
      rw [HTX.out, this]; rfl
    · have hql : q < s.size := by omega
      have d1 : decide (s.size ≤ q) = false := decide_eq_false hend
      have d1' : decide ((s.size : Int) ≤ (q : Int)) = false := decide_eq_false (by omega)
      obtain ⟨y, hy⟩ : ∃ y, byteU s (q + 1) = y := ⟨_, rfl⟩
      have HY := Lib.hid hy
      clear hy
      have ne1 := u8_ne y 39 (by omega)
      have hcons : s.data.toList.drop q = s[q] :: s.data.toList.drop (q + 1) := by rw [List.drop_eq_getElem_cons (by simpa using hql)]; rfl
      have hhd : hd (· == 39) (s.data.toList.drop (q + 1)) = (y == 39) := by rw [hd_byte (p := (· == 39)) rfl, HY.out]
      have HE := Lib.hid (HTR.out.2 _ _ hcons)
      have HH := Lib.hid hhd
      clear hcons hhd hend
      cases q1 : y == UInt8.ofNat 39
      · rw [q1] at ne1
        have n1 : ((y.toNat : Int) != 39) = true := ne1
        clear ne1
        go_wp2_with (first | (go_at_call 15; (with_reducible refine R.mono ?_); rintro e w1 ⟨rfl, hA, hG⟩; clear c0 c1 f1; have hA' := hA; obtain ⟨c0, c1, f1⟩ := hA') | (go_at_call 23; (with_reducible refine (next0 ((hA.drewN _).inc q) hs (by omega)).mono ?_); rw [HY.out]; rintro e w2 ⟨rfl, n2, rfl⟩))
        go_quiet (fail)
        go_wp2_with (first | (go_at_call 23; (with_reducible refine (next0 ((hA.drewN _).inc q) hs (by omega)).mono ?_); rw [HY.out]; rintro e w2 ⟨rfl, n2, rfl⟩))
        go_ret2
        right
        refine ⟨(O ++ t).data.toList, q + 1 - i, O ++ t, ?_, rfl, rfl, ?_⟩
        · rw [HTX.out, HE.out, HH.out, show (y == 39) = false from q1]
          have h1 := HQ.out
          have h2 := htl.out
          simp [h2]; omega
        · have h1 := HQ.out
          rw [show i + (q + 1 - i) = q + 1 by omega]
          exact (((hW.trans ⟨hA, hG⟩).drewN _).inc q).drewN _
      · rw [q1] at ne1
        have n1 : ((y.toNat : Int) != 39) = false := ne1
        clear ne1
        have hq1 : q + 1 < s.size := by
          rcases Nat.lt_or_ge (q + 1) s.size with hh | hh
          · exact hh
          · have := HY.out
            unfold byteU at this
            rw [dif_neg (by omega)] at this
            rw [← this] at q1; cases q1
        go_wp2_with (first | (go_at_call 15; (with_reducible refine R.mono ?_); rintro e w1 ⟨rfl, hA, hG⟩; clear c0 c1 f1; have hA' := hA; obtain ⟨c0, c1, f1⟩ := hA') | (go_at_call 23; (with_reducible refine (next0 ((hA.drewN _).inc q) hs (by omega)).mono ?_); rw [HY.out]; rintro e w2 ⟨rfl, n2, rfl⟩))
        go_quiet (fail)
        go_wp2_with (first | (go_at_call 23; (with_reducible refine (next0 ((hA.drewN _).inc q) hs (by omega)).mono ?_); rw [HY.out]; rintro e w2 ⟨rfl, n2, rfl⟩))
        go_roundg (gk - (r + 2))
        case measure => have h1 := HQ.out; have h2 := HG.out; omega
        case rel =>
          have h1 := HQ.out
          have h2 := HG.out
          have h3 := htl.out
          have h4 := HZ.out
          refine ⟨_, rfl, q + 2, by omega, by omega, ?_, ?_, ((((hW.trans ⟨hA, hG⟩).drewN _).inc q).drewN _).set (q + 2)⟩
          · have h5 : ({ data := #[39] } : ByteArray).size = 1 := rfl
            simp; omega
          · rw [HTX.out, HE.out, HH.out, show (y == 39) = true from q1, List.drop_drop]
            simp only [if_true]
            cases txt (s.data.toList.drop (q + 1 + 1)) with
            | none => rfl
            | some z => simp [h3]; omega
end Go.Proofs.Ytdcibeagljeioaa
