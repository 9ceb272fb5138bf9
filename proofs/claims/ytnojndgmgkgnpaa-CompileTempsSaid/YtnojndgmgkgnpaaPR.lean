/- Chapter 10: the reference's parser: a method's pattern. -/
import Derived.Test.YtnojndgmgkgnpaaPM0
namespace Go.Proofs.Ytnojndgmgkgnpaa
open Go.ChangeShapes Go.WideShapes Go.ChangeAt Go.RowKit Go.Deep Go.Joins Go.Maps
set_option linter.unusedVariables false
set_option linter.unusedSimpArgs false
/-- what 'head' tells: its names are a row of its own -/
def HeadP (pb : Nat) (v : Value) (T : Tks) (r : ByteArray × List ByteArray × Int × PSt) (w : World) (e : Ending) (w' : World) : Prop := ∃ A c, e = .returned (.agg #[.int .i64 11, .string r.1, .int .i64 r.2.2.1, .slice A r.2.1.length c, .slice none 0 0, .slice none 0 0]) ∧ PT pb v T w w' r.2.2.2 ∧ SRow w' w.heap.size (.slice A r.2.1.length c) r.2.1
theorem names_len {T : Tks} {s : PSt} {k : Int} {l : List ByteArray} (hl : l.length ≤ 4) : (namesT T k l s).1.length = l.length + 1 ∧ ((namesT T k l s).2.e = 0 → (namesT T k l s).1.length ≤ 4) := by
 unfold namesT
 dsimp only
 refine ⟨by rw [List.length_append]; rfl, fun z => ?_⟩
 rw [List.length_append]
 show l.length + 1 ≤ 4
 split at z
 ·exact absurd z (failT_e _ _ _ (by decide))
 ·rename_i hq
  have : l.length ≠ 4 := fun q => hq ⟨z, q⟩
  omega
theorem headL_go {T : Tks} (hok : TokPos T) : ∀ (g : Nat) (t : ByteArray) (l : List ByteArray) (s : PSt), Go7 T s (headL T g t l s).2.2
 | 0, t, l, s => Go7.refl s
 | g + 1, t, l, s => by
  unfold headL
  split
  ·rename_i h
   exact ((Go7.take (is_lt h hok (by decide))).trans (names_go hok _ _ _ (by decide))).trans (headL_go hok g _ _ _)
  ·exact Go7.refl s
theorem pat_go {T : Tks} (hok : TokPos T) (s : PSt) : Go7 T s (patT T s).2.2 := by
 unfold patT
 split
 ·rename_i h
  exact Go7.take (is_lt h hok (by decide))
 ·split
  ·rename_i h
   exact (Go7.take (is_lt h hok (by decide))).trans (names_go hok _ _ _ (by decide))
  ·exact ((need_go hok _ _ _ (by decide)).trans (names_go hok _ _ _ (by decide))).trans (headL_go hok _ _ _ _)
theorem headL_tx {T : Tks} (hok : TokOk T) : ∀ (g : Nat) (t : ByteArray) (l : List ByteArray) (s : PSt), (∀ x, x ∈ l → x.size ≤ 100000) → (∀ x, x ∈ (headL T g t l s).2.1 → x.size ≤ 100000) ∧ (headL T g t l s).1.size ≤ t.size + 100000 * g
 | 0, t, l, s, h => ⟨h, Nat.le_refl _⟩
 | g + 1, t, l, s, h => by
  unfold headL
  split
  ·obtain ⟨h1, h2⟩ := headL_tx hok g (t ++ tx (ahd T s 0)) _ (namesT T 1 l (takeT s)).2 (names_tx hok 1 l (takeT s) h)
   have h3 : (t ++ tx (ahd T s 0)).size = t.size + (tx (ahd T s 0)).size := ByteArray.size_append
   have h4 := hok.text _ (ahd_mem hok (s := s) (k := 0))
   exact ⟨h1, by omega⟩
  ·exact ⟨h, Nat.le_add_right _ _⟩
theorem pat_tx {T : Tks} (hok : TokOk T) (s : PSt) : (∀ x, x ∈ (patT T s).2.1 → x.size ≤ 100000) ∧ (patT T s).1.size ≤ 100000 + 100000 * (T.length + 1) := by
 have h0 : ∀ x, x ∈ ([] : List ByteArray) → x.size ≤ 100000 := fun x hx => absurd hx (by simp)
 have h5 := hok.text _ (ahd_mem hok (s := s) (k := 0))
 obtain ⟨h1, h2⟩ := headL_tx hok (T.length + 1) (tx (needT T s 2 eB).1) _ (namesT T 1 [] (needT T s 2 eB).2).2 (names_tx hok 1 [] (needT T s 2 eB).2 h0)
 have h3 := need_tx hok s 2 eB
 obtain ⟨B, hB⟩ : ∃ B, 100000 + 100000 * (T.length + 1) = B := ⟨_, rfl⟩
 have h7 : (tx (ahd T s 0)).size ≤ B := by omega
 have h8 : (headL T (T.length + 1) (tx (needT T s 2 eB).1) (namesT T 1 [] (needT T s 2 eB).2).1 (namesT T 1 [] (needT T s 2 eB).2).2).1.size ≤ B := by omega
 rw [hB]
 unfold patT
 split
 ·exact ⟨h0, h7⟩
 ·split
  ·exact ⟨names_tx hok _ _ _ h0, h7⟩
  ·exact ⟨h1, h8⟩
theorem head_fuel {n g i j : Nat} (h : n < g + i) (h1 : i < n) (h2 : i + 1 ≤ j) : n < (g - 1) + j := by omega
theorem head_text {a b : ByteArray} {i j : Nat} (h : a.size ≤ 100000 * (i + 1)) (h1 : b.size ≤ 100000) (h2 : i + 1 ≤ j) : (a ++ b).size ≤ 100000 * (j + 1) := by
 have h4 : (a ++ b).size = a.size + b.size := ByteArray.size_append
 omega
set_option maxRecDepth 100000 in
set_option maxHeartbeats 16000000 in
theorem head_any {w : World} {pb : Nat} {v : Value} {T : Tks} {s : PSt} (h : PW w pb v T s) (hok : TokOk T) (hi : s.i ≤ T.length) : Calls Try.prog 14 #[.pointer (some ⟨pb, 0, none⟩)] w (HeadP pb v T (headT T s) w) := by
 obtain ⟨PO, hPO⟩ : ∃ PO, PO = HeadP pb v T (headT T s) w := ⟨_, rfl⟩
 rw [← hPO]
 have HPO := Lib.hid hPO
 clear hPO
 have HOK := Lib.hid hok
 have HI := Lib.hid hi
 have HOLD := Lib.hid h.old
 have HPL := Lib.hid (lt_of_block h.box)
 have H0 : Hid (Bw w ((w.alloc (.cells #[.int .i64 0, .string eB, .int .i64 0, .slice none 0 0, .slice none 0 0, .slice none 0 0] 25)).alloc (.cells #[.int .i64 11, .string eB, .int .i64 0, .slice none 0 0, .slice none 0 0, .slice none 0 0] 25)) (w.heap.size) (w.heap.size + 1) pb v T s 11 eB 0 (.slice none 0 0) (.slice none 0 0) (.slice none 0 0) [] []) := Lib.hid (by
  have hb : Below w.heap.size w ((w.alloc (.cells #[.int .i64 0, .string eB, .int .i64 0, .slice none 0 0, .slice none 0 0, .slice none 0 0] 25)).alloc (.cells #[.int .i64 11, .string eB, .int .i64 0, .slice none 0 0, .slice none 0 0, .slice none 0 0] 25)) := bel
  have h1 := heap_alloc_new w (.cells #[.int .i64 0, .string eB, .int .i64 0, .slice none 0 0, .slice none 0 0, .slice none 0 0] 25)
  have h2 := heap_alloc_new (w.alloc (.cells #[.int .i64 0, .string eB, .int .i64 0, .slice none 0 0, .slice none 0 0, .slice none 0 0] 25)) (.cells #[.int .i64 11, .string eB, .int .i64 0, .slice none 0 0, .slice none 0 0, .slice none 0 0] 25)
  rw [World.size_alloc] at h2
  have h3 := lt_of_block h.box
  exact ⟨⟨h.below hb, Turns.of_below hb⟩, Nat.le_succ _, Nat.lt_succ_self _, by omega, by omega, fun k e => by have := (World.ownsRow.lt h.row k e).2; omega, ((Below.refl _ _).alloc (Nat.le_refl _) _ |>.block _ (lt_of_block h1)).trans h1, h2, SRow.nil _ _, SRow.nil _ _⟩)
 obtain ⟨⟨pt, pn, ps⟩, hp⟩ : ∃ r, patT T s = r := ⟨_, rfl⟩
 have HP := Lib.hid hp
 have hpg := pat_go hok.at0 s
 rw [hp] at hpg
 have HIP : Hid (ps.i ≤ T.length) := Lib.hid (hpg.top hi)
 obtain ⟨t, ht⟩ : ∃ t, ahd T s 0 = t := ⟨_, rfl⟩
 have HT := Lib.hid ht
 obtain ⟨b1, hb1⟩ : ∃ b, isT T s 1 eB = b := ⟨_, rfl⟩
 have HB1 := Lib.hid hb1
 obtain ⟨b3, hb3⟩ : ∃ b, isT T s 3 eB = b := ⟨_, rfl⟩
 have HB3 := Lib.hid hb3
 have hf1 := tfld1
 clear h hok hi hp hpg ht hb1 hb3
 go_enter Try.func14, Try.ntmps14
 go_upto_region 2 with fail
 have hm9 := H0.out
 obtain ⟨w1, hw1⟩ : ∃ w1, ((w.alloc (.cells #[.int .i64 0, .string eB, .int .i64 0, .slice none 0 0, .slice none 0 0, .slice none 0 0] 25)).alloc (.cells #[.int .i64 11, .string eB, .int .i64 0, .slice none 0 0, .slice none 0 0, .slice none 0 0] 25)) = w1 := ⟨_, rfl⟩
 rw [hw1] at hm9 ⊢
 have HM := Lib.hid hm9
 obtain ⟨n0, n1, n2, n3, n4, n5, nr0, nr1, nr2, nr3, nr4, nr5⟩ := cf6 (hm9.res)
 obtain ⟨o0, o1, o2, o3, o4, o5, or0, or1, or2, or3, or4, or5⟩ := cf6 (hm9.out)
 clear hw1 H0 hm9
 go_upto_if 7 with (first | (go_at_call 22; (with_reducible refine (is_at HM.out.pt.1.pt bel HOK.out 1 eB).mono ?_); rw [HB1.out]; rintro e w3 ⟨rfl, hx⟩; have hm9 := HM.out.go bel hx; clear HM; have HM := Lib.hid hm9; (try clear n0 nr0 n1 nr1 n2 nr2 n3 nr3 n4 nr4 n5 nr5); (try clear o0 or0 o1 or1 o2 or2 o3 or3 o4 or4 o5 or5); obtain ⟨n0, n1, n2, n3, n4, n5, nr0, nr1, nr2, nr3, nr4, nr5⟩ := cf6 (hm9.res); obtain ⟨o0, o1, o2, o3, o4, o5, or0, or1, or2, or3, or4, or5⟩ := cf6 (hm9.out); clear hm9 hx))
 go_cut [] (fun wx => ∃ A n c, Bw w wx (w.heap.size) (w.heap.size + 1) pb v T ps 11 pt 0 (.slice A n c) (.slice none 0 0) (.slice none 0 0) pn [])
 case first =>
  cases b1 with
  | true =>
   have e9 : pt = tx t ∧ pn = [] ∧ ps = takeT s := by
    have h9 := HP.out
    unfold patT at h9
    rw [if_pos HB1.out, HT.out] at h9
    exact ⟨(congrArg Prod.fst h9).symm, (congrArg (fun r => r.2.1) h9).symm, (congrArg (fun r => r.2.2) h9).symm⟩
   go_wp2_with (first | (go_at_call 23; (with_reducible refine (take_any (HM.out.pt.1.below bel) HOK.out HI.out HT.out).mono ?_); rintro e w4 ⟨rfl, hx⟩; have hm9 := HM.out.go bel hx; clear HM; have HM := Lib.hid hm9; (try clear n0 nr0 n1 nr1 n2 nr2 n3 nr3 n4 nr4 n5 nr5); (try clear o0 or0 o1 or1 o2 or2 o3 or3 o4 or4 o5 or5); obtain ⟨n0, n1, n2, n3, n4, n5, nr0, nr1, nr2, nr3, nr4, nr5⟩ := cf6 (hm9.res); obtain ⟨o0, o1, o2, o3, o4, o5, or0, or1, or2, or3, or4, or5⟩ := cf6 (hm9.out); clear hm9 hx))
   go_meet
   rw [e9.1, e9.2.1, e9.2.2]
   exact ⟨none, 0, 0, HM.out.setX (tx t)⟩
  | false =>
   cases b3 with
   | true =>
    have HI1 : Hid ((takeT s).i ≤ T.length) := Lib.hid (isT_lt HB3.out HOK.out (by decide))
    obtain ⟨⟨l9, s9⟩, hnm⟩ : ∃ r, namesT T 1 [] (takeT s) = r := ⟨_, rfl⟩
    have HNM := Lib.hid hnm
    have HL1 : Hid (([] : List ByteArray).length ≤ 1000) := Lib.hid (Nat.zero_le _)
    have HE9 : Hid (pt = tx t ∧ pn = l9 ∧ ps = s9) := Lib.hid (by
     have h9 := HP.out
     unfold patT at h9
     rw [if_neg (by rw [HB1.out]; decide), if_pos HB3.out, HT.out, hnm] at h9
     exact ⟨(congrArg Prod.fst h9).symm, (congrArg (fun r => r.2.1) h9).symm, (congrArg (fun r => r.2.2) h9).symm⟩)
    clear hnm
    go_upto_region 6 with (first | (go_at_call 22; (with_reducible refine (is_at HM.out.pt.1.pt bel HOK.out 3 eB).mono ?_); rw [HB3.out]; rintro e w3 ⟨rfl, hx⟩; have hm9 := HM.out.go bel hx; clear HM; have HM := Lib.hid hm9; (try clear n0 nr0 n1 nr1 n2 nr2 n3 nr3 n4 nr4 n5 nr5); (try clear o0 or0 o1 or1 o2 or2 o3 or3 o4 or4 o5 or5); obtain ⟨n0, n1, n2, n3, n4, n5, nr0, nr1, nr2, nr3, nr4, nr5⟩ := cf6 (hm9.res); obtain ⟨o0, o1, o2, o3, o4, o5, or0, or1, or2, or3, or4, or5⟩ := cf6 (hm9.out); clear hm9 hx) | (go_at_call 23; (with_reducible refine (take_any (HM.out.pt.1.below bel) HOK.out HI.out HT.out).mono ?_); rintro e w4 ⟨rfl, hx⟩; have hm9 := HM.out.go bel hx; clear HM; have HM := Lib.hid hm9; (try clear n0 nr0 n1 nr1 n2 nr2 n3 nr3 n4 nr4 n5 nr5); (try clear o0 or0 o1 or1 o2 or2 o3 or3 o4 or4 o5 or5); obtain ⟨n0, n1, n2, n3, n4, n5, nr0, nr1, nr2, nr3, nr4, nr5⟩ := cf6 (hm9.res); obtain ⟨o0, o1, o2, o3, o4, o5, or0, or1, or2, or3, or4, or5⟩ := cf6 (hm9.out); clear hm9 hx))
    have hm9 := HM.out.setX (tx t)
    obtain ⟨w5, hw9⟩ : ∃ wt, w4.setCell ⟨w.heap.size + 1, 1, none⟩ (.string (tx t)) = wt := ⟨_, rfl⟩
    rw [hw9] at hm9 ⊢
    clear HM hw9
    have HM := Lib.hid hm9
    (try clear n0 nr0 n1 nr1 n2 nr2 n3 nr3 n4 nr4 n5 nr5)
    (try clear o0 or0 o1 or1 o2 or2 o3 or3 o4 or4 o5 or5)
    obtain ⟨n0, n1, n2, n3, n4, n5, nr0, nr1, nr2, nr3, nr4, nr5⟩ := cf6 (hm9.res)
    obtain ⟨o0, o1, o2, o3, o4, o5, or0, or1, or2, or3, or4, or5⟩ := cf6 (hm9.out)
    clear hm9
    go_wp2_with (first | (go_at_call 24; (with_reducible refine (names_any (l := []) (HM.out.pt.1.below bel) HOK.out HI1.out 1 (SRow.nil w5 0) HL1.out).mono ?_); rw [HNM.out]; rintro e w6 ⟨vr9, rfl, hx, hr9⟩; obtain ⟨A1, c1, hvr, _⟩ := SRow.slice hr9; subst hvr; have HSR := Lib.hid (ownsRow_mono hr9 (HM.out.base bel)); clear hr9; have hm9 := HM.out.go bel hx; clear HM; have HM := Lib.hid hm9; (try clear n0 nr0 n1 nr1 n2 nr2 n3 nr3 n4 nr4 n5 nr5); (try clear o0 or0 o1 or1 o2 or2 o3 or3 o4 or4 o5 or5); obtain ⟨n0, n1, n2, n3, n4, n5, nr0, nr1, nr2, nr3, nr4, nr5⟩ := cf6 (hm9.res); obtain ⟨o0, o1, o2, o3, o4, o5, or0, or1, or2, or3, or4, or5⟩ := cf6 (hm9.out); clear hm9 hx))
    go_meet
    rw [HE9.out.1, HE9.out.2.1, HE9.out.2.2]
    exact ⟨A1, l9.length, c1, HM.out.setN HSR.out (Nat.le_refl _)⟩
   | false =>
    obtain ⟨⟨t9, s1⟩, hnd⟩ : ∃ r, needT T s 2 eB = r := ⟨_, rfl⟩
    have HND := Lib.hid hnd
    have hng := need_go HOK.out.at0 s 2 eB (by decide)
    rw [hnd] at hng
    have HI1 : Hid (s1.i ≤ T.length) := Lib.hid (hng.top HI.out)
    have htx := need_tx HOK.out s 2 eB
    rw [hnd] at htx
    have HTX9 : Hid ((tx t9).size ≤ 100000) := Lib.hid htx
    obtain ⟨⟨l9, s9⟩, hnm⟩ : ∃ r, namesT T 1 [] s1 = r := ⟨_, rfl⟩
    have HNM := Lib.hid hnm
    have hng2 := names_go HOK.out.at0 s1 1 [] (by decide)
    rw [hnm] at hng2
    have HI9 : Hid (s9.i ≤ T.length) := Lib.hid (hng2.top HI1.out)
    have hnl := names_len (T := T) (s := s1) (k := 1) (l := []) (Nat.zero_le _)
    rw [hnm] at hnl
    have HNL0 := Lib.hid hnl
    have HL1 : Hid (([] : List ByteArray).length ≤ 1000) := Lib.hid (Nat.zero_le _)
    have HP9 : Hid ((pt, pn, ps) = headL T (T.length + 1) (tx t9) l9 s9) := Lib.hid (by
     rw [← HP.out]
     unfold patT
     rw [if_neg (by rw [HB1.out]; decide), if_neg (by rw [HB3.out]; decide), hnd]
     dsimp only
     rw [hnm])
    clear hnd hng htx hnm hng2 hnl
    go_upto_region 8 with (first | (go_at_call 22; (with_reducible refine (is_at HM.out.pt.1.pt bel HOK.out 3 eB).mono ?_); rw [HB3.out]; rintro e w3 ⟨rfl, hx⟩; have hm9 := HM.out.go bel hx; clear HM; have HM := Lib.hid hm9; (try clear n0 nr0 n1 nr1 n2 nr2 n3 nr3 n4 nr4 n5 nr5); (try clear o0 or0 o1 or1 o2 or2 o3 or3 o4 or4 o5 or5); obtain ⟨n0, n1, n2, n3, n4, n5, nr0, nr1, nr2, nr3, nr4, nr5⟩ := cf6 (hm9.res); obtain ⟨o0, o1, o2, o3, o4, o5, or0, or1, or2, or3, or4, or5⟩ := cf6 (hm9.out); clear hm9 hx) | (go_at_call 17; (with_reducible refine (need_any (HM.out.pt.1.below bel) HOK.out HI.out 2 eB HND.out).mono ?_); rintro e w4 ⟨rfl, hx⟩; have hm9 := HM.out.go bel hx; clear HM; have HM := Lib.hid hm9; (try clear n0 nr0 n1 nr1 n2 nr2 n3 nr3 n4 nr4 n5 nr5); (try clear o0 or0 o1 or1 o2 or2 o3 or3 o4 or4 o5 or5); obtain ⟨n0, n1, n2, n3, n4, n5, nr0, nr1, nr2, nr3, nr4, nr5⟩ := cf6 (hm9.res); obtain ⟨o0, o1, o2, o3, o4, o5, or0, or1, or2, or3, or4, or5⟩ := cf6 (hm9.out); clear hm9 hx))
    have hm9 := HM.out.setX (tx t9)
    obtain ⟨w5, hw9⟩ : ∃ wt, w4.setCell ⟨w.heap.size + 1, 1, none⟩ (.string (tx t9)) = wt := ⟨_, rfl⟩
    rw [hw9] at hm9 ⊢
    clear HM hw9
    have HM := Lib.hid hm9
    (try clear n0 nr0 n1 nr1 n2 nr2 n3 nr3 n4 nr4 n5 nr5)
    (try clear o0 or0 o1 or1 o2 or2 o3 or3 o4 or4 o5 or5)
    obtain ⟨n0, n1, n2, n3, n4, n5, nr0, nr1, nr2, nr3, nr4, nr5⟩ := cf6 (hm9.res)
    obtain ⟨o0, o1, o2, o3, o4, o5, or0, or1, or2, or3, or4, or5⟩ := cf6 (hm9.out)
    clear hm9
    go_wp2_with (first | (go_at_call 24; (with_reducible refine (names_any (l := []) (HM.out.pt.1.below bel) HOK.out HI1.out 1 (SRow.nil w5 0) HL1.out).mono ?_); rw [HNM.out]; rintro e w6 ⟨vr9, rfl, hx, hr9⟩; obtain ⟨A1, c1, hvr, _⟩ := SRow.slice hr9; subst hvr; have HSR := Lib.hid (ownsRow_mono hr9 (HM.out.base bel)); clear hr9; have hm9 := HM.out.go bel hx; clear HM; have HM := Lib.hid hm9; (try clear n0 nr0 n1 nr1 n2 nr2 n3 nr3 n4 nr4 n5 nr5); (try clear o0 or0 o1 or1 o2 or2 o3 or3 o4 or4 o5 or5); obtain ⟨n0, n1, n2, n3, n4, n5, nr0, nr1, nr2, nr3, nr4, nr5⟩ := cf6 (hm9.res); obtain ⟨o0, o1, o2, o3, o4, o5, or0, or1, or2, or3, or4, or5⟩ := cf6 (hm9.out); clear hm9 hx))
    go_loopg [] (T.length + 1) (fun g wr => ∃ (tv : ByteArray) (A : Option Addr) (n c : Nat) (l : List ByteArray) (sk : PSt), Bw w wr (w.heap.size) (w.heap.size + 1) pb v T sk 11 tv 0 (.slice A n c) (.slice none 0 0) (.slice none 0 0) l [] ∧ headL T (T.length + 1) (tx t9) l9 s9 = headL T g tv l sk ∧ T.length < g + sk.i ∧ sk.i ≤ T.length ∧ (sk.e = 0 → l.length ≤ 4) ∧ tv.size ≤ 100000 * (sk.i + 1))
    case atStart => exact ⟨tx t9, A1, l9.length, c1, l9, s9, HM.out.setN HSR.out (Nat.le_refl _), rfl, by omega, HI9.out, HNL0.out.2, Nat.le_trans HTX9.out (by omega)⟩
    case round =>
     obtain ⟨tv, A, n, c, l, sk, hm9, hul, hg, hil, hl4, htv⟩ := hrel
     clear HM HT
     (try clear n0 nr0 n1 nr1 n2 nr2 n3 nr3 n4 nr4 n5 nr5)
     (try clear o0 or0 o1 or1 o2 or2 o3 or3 o4 or4 o5 or5)
     have HM := Lib.hid hm9
     have HUL := Lib.hid hul
     have HG := Lib.hid hg
     have HIL := Lib.hid hil
     have HL4 := Lib.hid hl4
     have HTV := Lib.hid htv
     have HTZ : Hid (tv.size ≤ 20000000000) := Lib.hid (by have := HOK.out.len; omega)
     obtain ⟨t, ht⟩ : ∃ t, ahd T sk 0 = t := ⟨_, rfl⟩
     have HT := Lib.hid ht
     obtain ⟨b, hb⟩ : ∃ b, isT T sk 2 eB = b := ⟨_, rfl⟩
     have HB := Lib.hid hb
     obtain ⟨n0, n1, n2, n3, n4, n5, nr0, nr1, nr2, nr3, nr4, nr5⟩ := cf6 (hm9.res)
     obtain ⟨o0, o1, o2, o3, o4, o5, or0, or1, or2, or3, or4, or5⟩ := cf6 (hm9.out)
     clear hm9 hul hg hil hl4 htv ht hb
     cases b with
     | true =>
      have HLT := Lib.hid (isT_lt HB.out HOK.out (by decide))
      have HI1 : Hid ((takeT sk).i ≤ T.length) := Lib.hid HLT.out
      obtain ⟨⟨l7, s7⟩, hnm⟩ : ∃ r, namesT T 1 l (takeT sk) = r := ⟨_, rfl⟩
      have HNM7 := Lib.hid hnm
      have hl4 := HL4.out (is_e HB.out)
      have HL1 : Hid (l.length ≤ 1000) := Lib.hid (by omega)
      have hnl := names_len (T := T) (s := takeT sk) (k := 1) hl4
      rw [hnm] at hnl
      have HNL := Lib.hid hnl
      have hng := names_go HOK.out.at0 (takeT sk) 1 l (by decide)
      rw [hnm] at hng
      have HI7 : Hid (s7.i ≤ T.length ∧ sk.i + 1 ≤ s7.i) := Lib.hid ⟨hng.top HI1.out, hng.le⟩
      have hcat : ¬ 9223372036854775807 < tv.size + (tx t).size := by have h1 := HOK.out.text t (by rw [← HT.out]; exact ahd_mem HOK.out); have := HTZ.out; omega
      have HBI := HB
      clear hnm hl4 hnl hng
      go_upto_region 10 with (first | (go_at_call 22; (with_reducible refine (is_at HM.out.pt.1.pt bel HOK.out 2 eB).mono ?_); rw [HB.out]; rintro e w7 ⟨rfl, hx⟩; have hm9 := HM.out.go bel hx; clear HM; have HM := Lib.hid hm9; (try clear n0 nr0 n1 nr1 n2 nr2 n3 nr3 n4 nr4 n5 nr5); (try clear o0 or0 o1 or1 o2 or2 o3 or3 o4 or4 o5 or5); obtain ⟨n0, n1, n2, n3, n4, n5, nr0, nr1, nr2, nr3, nr4, nr5⟩ := cf6 (hm9.res); obtain ⟨o0, o1, o2, o3, o4, o5, or0, or1, or2, or3, or4, or5⟩ := cf6 (hm9.out); clear hm9 hx))
      go_cut [] from 30 to 41 (fun wx => Bw w wx (w.heap.size) (w.heap.size + 1) pb v T (takeT sk) 11 (tv ++ tx t) 0 (.slice A n c) (.slice none 0 0) (.slice none 0 0) l [])
      case first =>
       go_region_law (first | (go_simp; go_at_call 23; (with_reducible refine (take_any (HM.out.pt.1.below bel) HOK.out HIL.out HT.out).mono ?_); rintro e w8 ⟨rfl, hx⟩; have hm9 := HM.out.go bel hx; have HM5 := Lib.hid hm9; obtain ⟨o0, o1, o2, o3, o4, o5, or0, or1, or2, or3, or4, or5⟩ := cf6 (hm9.out); clear hm9 hx))
       all_goals
        go_wp2_with fail
        go_meet
        exact HM5.out.setX (tv ++ tx t)
      case rest =>
       clear HM
       (try clear n0 nr0 n1 nr1 n2 nr2 n3 nr3 n4 nr4 n5 nr5)
       (try clear o0 or0 o1 or1 o2 or2 o3 or3 o4 or4 o5 or5)
       rename World => wt
       have hm9 := hcut
       have HM := Lib.hid hm9
       obtain ⟨n0, n1, n2, n3, n4, n5, nr0, nr1, nr2, nr3, nr4, nr5⟩ := cf6 (hm9.res)
       obtain ⟨o0, o1, o2, o3, o4, o5, or0, or1, or2, or3, or4, or5⟩ := cf6 (hm9.out)
       clear hm9 hcut
       go_wp2_with (first | (go_at_call 24; (with_reducible refine (names_any (l := l) (HM.out.pt.1.below bel) HOK.out HI1.out 1 (HM.out.nam.below bel) HL1.out).mono ?_); rw [HNM7.out]; rintro e w9 ⟨vr9, rfl, hx, hr9⟩; obtain ⟨A7, c7, hvr, _⟩ := SRow.slice hr9; subst hvr; have HSR7 := Lib.hid (ownsRow_mono hr9 (HM.out.base bel)); clear hr9; have hm9 := HM.out.go bel hx; clear HM; have HM := Lib.hid hm9; (try clear n0 nr0 n1 nr1 n2 nr2 n3 nr3 n4 nr4 n5 nr5); (try clear o0 or0 o1 or1 o2 or2 o3 or3 o4 or4 o5 or5); obtain ⟨n0, n1, n2, n3, n4, n5, nr0, nr1, nr2, nr3, nr4, nr5⟩ := cf6 (hm9.res); obtain ⟨o0, o1, o2, o3, o4, o5, or0, or1, or2, or3, or4, or5⟩ := cf6 (hm9.out); clear hm9 hx))
       go_roundg (gk - 1)
       case measure => have := HG.out; have := HLT.out; omega
       case rel =>
        have hm9 := HM.out.setN HSR7.out (Nat.le_refl _)
        have hul : headL T (T.length + 1) (tx t9) l9 s9 = headL T (gk - 1) (tv ++ tx t) l7 s7 := by
         have h9 : gk = (gk - 1) + 1 := by have := HG.out; have := HLT.out; omega
         rw [HUL.out, h9, headL, if_pos HBI.out, HT.out, HNM7.out, Nat.add_sub_cancel]
        exact ⟨(tv ++ tx t), A7, l7.length, c7, l7, s7, hm9, hul, head_fuel HG.out HLT.out HI7.out.2, HI7.out.1, HNL.out.2, head_text HTV.out (HOK.out.text t (by rw [← HT.out]; exact ahd_mem HOK.out)) HI7.out.2⟩
     | false =>
      have hq : headL T (T.length + 1) (tx t9) l9 s9 = (tv, l, sk) := by
       rw [HUL.out]
       cases gk with
       | zero => rfl
       | succ g => rw [headL, if_neg (by rw [HB.out]; decide)]
      have HE9 : Hid (pt = tv ∧ pn = l ∧ ps = sk) := Lib.hid (by
       have h9 := HP9.out
       rw [hq] at h9
       exact ⟨congrArg Prod.fst h9, congrArg (fun r => r.2.1) h9, congrArg (fun r => r.2.2) h9⟩)
      clear hq
      go_wp2_with (first | (go_at_call 22; (with_reducible refine (is_at HM.out.pt.1.pt bel HOK.out 2 eB).mono ?_); rw [HB.out]; rintro e w7 ⟨rfl, hx⟩; have hm9 := HM.out.go bel hx; clear HM; have HM := Lib.hid hm9; (try clear n0 nr0 n1 nr1 n2 nr2 n3 nr3 n4 nr4 n5 nr5); (try clear o0 or0 o1 or1 o2 or2 o3 or3 o4 or4 o5 or5); obtain ⟨n0, n1, n2, n3, n4, n5, nr0, nr1, nr2, nr3, nr4, nr5⟩ := cf6 (hm9.res); obtain ⟨o0, o1, o2, o3, o4, o5, or0, or1, or2, or3, or4, or5⟩ := cf6 (hm9.out); clear hm9 hx))
      go_meet
      rw [HE9.out.1, HE9.out.2.1, HE9.out.2.2]
      exact ⟨A, n, c, HM.out⟩
 case rest =>
  obtain ⟨A, n, c, hm9⟩ := hcut
  clear HM HT
  (try clear n0 nr0 n1 nr1 n2 nr2 n3 nr3 n4 nr4 n5 nr5)
  (try clear o0 or0 o1 or1 o2 or2 o3 or3 o4 or4 o5 or5)
  have HM := Lib.hid hm9
  rename World => wa
  obtain ⟨n0, n1, n2, n3, n4, n5, nr0, nr1, nr2, nr3, nr4, nr5⟩ := cf6 (hm9.res)
  obtain ⟨o0, o1, o2, o3, o4, o5, or0, or1, or2, or3, or4, or5⟩ := cf6 (hm9.out)
  clear hm9
  obtain ⟨b5, hb5⟩ : ∃ b, isT T ps 3 bLess = b := ⟨_, rfl⟩
  have HB5 := Lib.hid hb5
  clear hb5
  cases b5 with
  | true =>
   have HI0 := Lib.hid (isT_lt HB5.out HOK.out (by decide))
   obtain ⟨t5, ht5⟩ : ∃ t, ahd T ps 0 = t := ⟨_, rfl⟩
   have HT5 := Lib.hid ht5
   obtain ⟨⟨ta, s1⟩, hna⟩ : ∃ r, needT T (takeT ps) 2 bPrim = r := ⟨_, rfl⟩
   have HNA := Lib.hid hna
   have hg1 := need_go HOK.out.at0 (takeT ps) 2 bPrim (by decide)
   rw [hna] at hg1
   have HI1 : Hid ((takeT ps).i ≤ T.length) := Lib.hid HI0.out
   have HI2 : Hid (s1.i ≤ T.length) := Lib.hid (hg1.top HI1.out)
   obtain ⟨⟨tb, s2⟩, hnb⟩ : ∃ r, needT T s1 4 eB = r := ⟨_, rfl⟩
   have HNB := Lib.hid hnb
   have hg2 := need_go HOK.out.at0 s1 4 eB (by decide)
   rw [hnb] at hg2
   have HI2b := Lib.hid (hg2.top HI2.out)
   obtain ⟨s3, hs3⟩ : ∃ s3, (if 255 < tb.num then failT s2 tb 2 else s2) = s3 := ⟨_, rfl⟩
   have HS3 := Lib.hid hs3
   obtain ⟨⟨tc, s4⟩, hnc⟩ : ∃ r, needT T s3 3 bMore = r := ⟨_, rfl⟩
   have HNC := Lib.hid hnc
   have HI3 : Hid (s3.i ≤ T.length) := Lib.hid (by rw [← hs3]; split; rw [failT_i]; exact HI2b.out; exact HI2b.out)
   have HE : Hid (headT T s = (pt, pn, tb.num, s4)) := Lib.hid (by
    unfold headT
    rw [HP.out]
    dsimp only
    rw [if_pos HB5.out, hna]
    dsimp only
    rw [hnb]
    dsimp only
    rw [hs3, hnc])
   clear ht5 hna hg1 hnb hg2 hs3 hnc
   go_upto_region 16 with (first | (go_at_call 22; (with_reducible refine (is_at HM.out.pt.1.pt bel HOK.out 3 bLess).mono ?_); rw [HB5.out]; rintro e wB ⟨rfl, hx⟩; have hm9 := HM.out.go bel hx; clear HM; have HM := Lib.hid hm9; (try clear n0 nr0 n1 nr1 n2 nr2 n3 nr3 n4 nr4 n5 nr5); (try clear o0 or0 o1 or1 o2 or2 o3 or3 o4 or4 o5 or5); obtain ⟨n0, n1, n2, n3, n4, n5, nr0, nr1, nr2, nr3, nr4, nr5⟩ := cf6 (hm9.res); obtain ⟨o0, o1, o2, o3, o4, o5, or0, or1, or2, or3, or4, or5⟩ := cf6 (hm9.out); clear hm9 hx) | (go_at_call 23; (with_reducible refine (take_any (HM.out.pt.1.below bel) HOK.out HIP.out HT5.out).mono ?_); rintro e wC ⟨rfl, hx⟩; have hm9 := HM.out.go bel hx; clear HM; have HM := Lib.hid hm9; (try clear n0 nr0 n1 nr1 n2 nr2 n3 nr3 n4 nr4 n5 nr5); (try clear o0 or0 o1 or1 o2 or2 o3 or3 o4 or4 o5 or5); obtain ⟨n0, n1, n2, n3, n4, n5, nr0, nr1, nr2, nr3, nr4, nr5⟩ := cf6 (hm9.res); obtain ⟨o0, o1, o2, o3, o4, o5, or0, or1, or2, or3, or4, or5⟩ := cf6 (hm9.out); clear hm9 hx) | (go_at_call 17; (with_reducible refine (need_any (HM.out.pt.1.below bel) HOK.out HI1.out 2 bPrim HNA.out).mono ?_); rintro e wD ⟨rfl, hx⟩; have hm9 := HM.out.go bel hx; clear HM; have HM := Lib.hid hm9; (try clear n0 nr0 n1 nr1 n2 nr2 n3 nr3 n4 nr4 n5 nr5); (try clear o0 or0 o1 or1 o2 or2 o3 or3 o4 or4 o5 or5); obtain ⟨n0, n1, n2, n3, n4, n5, nr0, nr1, nr2, nr3, nr4, nr5⟩ := cf6 (hm9.res); obtain ⟨o0, o1, o2, o3, o4, o5, or0, or1, or2, or3, or4, or5⟩ := cf6 (hm9.out); clear hm9 hx) | (go_at_call 17; (with_reducible refine (need_any (HM.out.pt.1.below bel) HOK.out HI2.out 4 eB HNB.out).mono ?_); rintro e w8 ⟨rfl, hx⟩; have hm9 := HM.out.go bel hx; clear HM; have HM := Lib.hid hm9; (try clear n0 nr0 n1 nr1 n2 nr2 n3 nr3 n4 nr4 n5 nr5); (try clear o0 or0 o1 or1 o2 or2 o3 or3 o4 or4 o5 or5); obtain ⟨n0, n1, n2, n3, n4, n5, nr0, nr1, nr2, nr3, nr4, nr5⟩ := cf6 (hm9.res); obtain ⟨o0, o1, o2, o3, o4, o5, or0, or1, or2, or3, or4, or5⟩ := cf6 (hm9.out); clear hm9 hx))
   have hal := (Below.refl w8.heap.size w8).alloc (Nat.le_refl _) (.cells #[.int .i64 tb.kind, .string (tx tb), .int .i64 tb.num, .int .i64 (tb.at_ : Int)] 55)
   have htb := heap_alloc_new w8 (.cells #[.int .i64 tb.kind, .string (tx tb), .int .i64 tb.num, .int .i64 (tb.at_ : Int)] 55)
   have HNE : Hid (w8.heap.size ≠ pb) := Lib.hid (by have := HM.out.pl; have := lt_of_block HM.out.out; omega)
   have hm9 := HM.out.below hal
   obtain ⟨w9, hw9⟩ : ∃ wt, w8.alloc (.cells #[.int .i64 tb.kind, .string (tx tb), .int .i64 tb.num, .int .i64 (tb.at_ : Int)] 55) = wt := ⟨_, rfl⟩
   rw [hw9] at hm9 htb ⊢
   clear HM hw9
   have HM := Lib.hid hm9
   (try clear n0 nr0 n1 nr1 n2 nr2 n3 nr3 n4 nr4 n5 nr5)
   (try clear o0 or0 o1 or1 o2 or2 o3 or3 o4 or4 o5 or5)
   obtain ⟨n0, n1, n2, n3, n4, n5, nr0, nr1, nr2, nr3, nr4, nr5⟩ := cf6 (hm9.res)
   obtain ⟨o0, o1, o2, o3, o4, o5, or0, or1, or2, or3, or4, or5⟩ := cf6 (hm9.out)
   have HTB := Lib.hid htb
   obtain ⟨c0, c1, c2, c3⟩ := cc4 (htb)
   clear hm9 htb hal
   by_cases h255 : 255 < tb.num
   ·have e9 : s3 = failT s2 tb 2 := by have h9 := HS3.out; rw [if_pos h255] at h9; exact h9.symm
    have d1 : decide ((255 : Int) < tb.num) = true := decide_eq_true h255
    subst e9
    clear h255
    go_upto_region 20 with (first | (go_at_call 25; (with_reducible refine (pfail_any (HM.out.pt.1.below bel) tb 2).mono ?_); rintro e w10 ⟨rfl, hx⟩; have tb9 := PT.keepB bel hx HTB.out HNE.out; clear HTB; have HTB := Lib.hid tb9; (try clear c0 c1 c2 c3); obtain ⟨c0, c1, c2, c3⟩ := cc4 (tb9); clear tb9; have hm9 := HM.out.go bel hx; clear HM; have HM := Lib.hid hm9; (try clear n0 nr0 n1 nr1 n2 nr2 n3 nr3 n4 nr4 n5 nr5); (try clear o0 or0 o1 or1 o2 or2 o3 or3 o4 or4 o5 or5); obtain ⟨n0, n1, n2, n3, n4, n5, nr0, nr1, nr2, nr3, nr4, nr5⟩ := cf6 (hm9.res); obtain ⟨o0, o1, o2, o3, o4, o5, or0, or1, or2, or3, or4, or5⟩ := cf6 (hm9.out); clear hm9 hx) | (go_at_call 17; (with_reducible refine (need_any (HM.out.pt.1.below bel) HOK.out HI3.out 3 bMore HNC.out).mono ?_); rintro e w11 ⟨rfl, hx⟩; have tb9 := PT.keepB bel hx HTB.out HNE.out; clear HTB; have HTB := Lib.hid tb9; (try clear c0 c1 c2 c3); obtain ⟨c0, c1, c2, c3⟩ := cc4 (tb9); clear tb9; have hm9 := HM.out.go bel hx; clear HM; have HM := Lib.hid hm9; (try clear n0 nr0 n1 nr1 n2 nr2 n3 nr3 n4 nr4 n5 nr5); (try clear o0 or0 o1 or1 o2 or2 o3 or3 o4 or4 o5 or5); obtain ⟨n0, n1, n2, n3, n4, n5, nr0, nr1, nr2, nr3, nr4, nr5⟩ := cf6 (hm9.res); obtain ⟨o0, o1, o2, o3, o4, o5, or0, or1, or2, or3, or4, or5⟩ := cf6 (hm9.out); clear hm9 hx))
    have hm9 := HM.out.setI tb.num
    obtain ⟨w12, hw9⟩ : ∃ wt, w11.setCell ⟨w.heap.size + 1, 2, none⟩ (.int .i64 tb.num) = wt := ⟨_, rfl⟩
    rw [hw9] at hm9 ⊢
    clear HM hw9
    have HM := Lib.hid hm9
    (try clear n0 nr0 n1 nr1 n2 nr2 n3 nr3 n4 nr4 n5 nr5)
    (try clear o0 or0 o1 or1 o2 or2 o3 or3 o4 or4 o5 or5)
    obtain ⟨n0, n1, n2, n3, n4, n5, nr0, nr1, nr2, nr3, nr4, nr5⟩ := cf6 (hm9.res)
    obtain ⟨o0, o1, o2, o3, o4, o5, or0, or1, or2, or3, or4, or5⟩ := cf6 (hm9.out)
    clear hm9 HTB c0 c1 c2 c3
    go_wp2_with fail
    obtain ⟨W9, hW9⟩ : ∃ W9, W9 = ((((((w12.setCell ⟨w.heap.size, 0, none⟩ (.int .i64 11)).setCell ⟨w.heap.size, 1, none⟩ (.string pt)).setCell ⟨w.heap.size, 2, none⟩ (.int .i64 tb.num)).setCell ⟨w.heap.size, 3, none⟩ (.slice A n c)).setCell ⟨w.heap.size, 4, none⟩ (.slice none 0 0)).setCell ⟨w.heap.size, 5, none⟩ (.slice none 0 0)) := ⟨_, rfl⟩
    have h9 : W9.heap[w.heap.size]? = some (.cells #[.int .i64 11, .string pt, .int .i64 tb.num, .slice A n c, .slice none 0 0, .slice none 0 0] 25 (0, 0)) := by rw [hW9]; exact agg_set6 HM.out.res
    obtain ⟨z0, z1, z2, z3, z4, z5⟩ := cc6 h9
    have HT9 : Hid (Turns (fun k => k = w.heap.size) w12 W9) := Lib.hid (by rw [hW9]; exact six_turns (T := fun k => k = w.heap.size) (Turns.refl _ _) (w.heap.size) rfl)
    rw [← hW9]
    clear hW9 h9
    refine bodyPost_ret (v := .agg #[.int .i64 11, .string pt, .int .i64 tb.num, .slice A n c, .slice none 0 0, .slice none 0 0]) (by simp [results, Try.results14, go_sem, z0, z1, z2, z3, z4, z5]) rfl ?_
    rw [HPO.out, HE.out]
    have hl9 := HM.out.len.1
    refine ⟨A, c, ?_, HM.out.pt.turned HT9.out (fun k e => by have e9 : k = w.heap.size := e; exact ⟨by omega, by have := HPL.out; omega, by rw [e9]; exact HOLD.out⟩), ?_⟩
    ·show Ending.returned (.agg #[.int .i64 11, .string pt, .int .i64 tb.num, .slice A n c, .slice none 0 0, .slice none 0 0]) = Ending.returned (.agg #[.int .i64 11, .string pt, .int .i64 tb.num, .slice A pn.length c, .slice none 0 0, .slice none 0 0])
     rw [hl9]
    ·show SRow _ _ (.slice A pn.length c) pn
     rw [← hl9]
     exact ownsRow_mono (SRow.turned HM.out.nam HT9.out (fun b e => by have e9 : b = w.heap.size := e; omega)) (by omega)
   ·have e9 : s3 = s2 := by have h9 := HS3.out; rw [if_neg h255] at h9; exact h9.symm
    have d1 : decide ((255 : Int) < tb.num) = false := decide_eq_false h255
    subst e9
    clear h255
    go_upto_region 20 with (first | (go_at_call 17; (with_reducible refine (need_any (HM.out.pt.1.below bel) HOK.out HI3.out 3 bMore HNC.out).mono ?_); rintro e w11 ⟨rfl, hx⟩; have tb9 := PT.keepB bel hx HTB.out HNE.out; clear HTB; have HTB := Lib.hid tb9; (try clear c0 c1 c2 c3); obtain ⟨c0, c1, c2, c3⟩ := cc4 (tb9); clear tb9; have hm9 := HM.out.go bel hx; clear HM; have HM := Lib.hid hm9; (try clear n0 nr0 n1 nr1 n2 nr2 n3 nr3 n4 nr4 n5 nr5); (try clear o0 or0 o1 or1 o2 or2 o3 or3 o4 or4 o5 or5); obtain ⟨n0, n1, n2, n3, n4, n5, nr0, nr1, nr2, nr3, nr4, nr5⟩ := cf6 (hm9.res); obtain ⟨o0, o1, o2, o3, o4, o5, or0, or1, or2, or3, or4, or5⟩ := cf6 (hm9.out); clear hm9 hx))
    have hm9 := HM.out.setI tb.num
    obtain ⟨w12, hw9⟩ : ∃ wt, w11.setCell ⟨w.heap.size + 1, 2, none⟩ (.int .i64 tb.num) = wt := ⟨_, rfl⟩
    rw [hw9] at hm9 ⊢
    clear HM hw9
    have HM := Lib.hid hm9
    (try clear n0 nr0 n1 nr1 n2 nr2 n3 nr3 n4 nr4 n5 nr5)
    (try clear o0 or0 o1 or1 o2 or2 o3 or3 o4 or4 o5 or5)
    obtain ⟨n0, n1, n2, n3, n4, n5, nr0, nr1, nr2, nr3, nr4, nr5⟩ := cf6 (hm9.res)
    obtain ⟨o0, o1, o2, o3, o4, o5, or0, or1, or2, or3, or4, or5⟩ := cf6 (hm9.out)
    clear hm9 HTB c0 c1 c2 c3
    go_wp2_with fail
    obtain ⟨W9, hW9⟩ : ∃ W9, W9 = ((((((w12.setCell ⟨w.heap.size, 0, none⟩ (.int .i64 11)).setCell ⟨w.heap.size, 1, none⟩ (.string pt)).setCell ⟨w.heap.size, 2, none⟩ (.int .i64 tb.num)).setCell ⟨w.heap.size, 3, none⟩ (.slice A n c)).setCell ⟨w.heap.size, 4, none⟩ (.slice none 0 0)).setCell ⟨w.heap.size, 5, none⟩ (.slice none 0 0)) := ⟨_, rfl⟩
    have h9 : W9.heap[w.heap.size]? = some (.cells #[.int .i64 11, .string pt, .int .i64 tb.num, .slice A n c, .slice none 0 0, .slice none 0 0] 25 (0, 0)) := by rw [hW9]; exact agg_set6 HM.out.res
    obtain ⟨z0, z1, z2, z3, z4, z5⟩ := cc6 h9
    have HT9 : Hid (Turns (fun k => k = w.heap.size) w12 W9) := Lib.hid (by rw [hW9]; exact six_turns (T := fun k => k = w.heap.size) (Turns.refl _ _) (w.heap.size) rfl)
    rw [← hW9]
    clear hW9 h9
    refine bodyPost_ret (v := .agg #[.int .i64 11, .string pt, .int .i64 tb.num, .slice A n c, .slice none 0 0, .slice none 0 0]) (by simp [results, Try.results14, go_sem, z0, z1, z2, z3, z4, z5]) rfl ?_
    rw [HPO.out, HE.out]
    have hl9 := HM.out.len.1
    refine ⟨A, c, ?_, HM.out.pt.turned HT9.out (fun k e => by have e9 : k = w.heap.size := e; exact ⟨by omega, by have := HPL.out; omega, by rw [e9]; exact HOLD.out⟩), ?_⟩
    ·show Ending.returned (.agg #[.int .i64 11, .string pt, .int .i64 tb.num, .slice A n c, .slice none 0 0, .slice none 0 0]) = Ending.returned (.agg #[.int .i64 11, .string pt, .int .i64 tb.num, .slice A pn.length c, .slice none 0 0, .slice none 0 0])
     rw [hl9]
    ·show SRow _ _ (.slice A pn.length c) pn
     rw [← hl9]
     exact ownsRow_mono (SRow.turned HM.out.nam HT9.out (fun b e => by have e9 : b = w.heap.size := e; omega)) (by omega)
  | false =>
   have HE : Hid (headT T s = (pt, pn, 0, ps)) := Lib.hid (by
    unfold headT
    rw [HP.out]
    dsimp only
    rw [if_neg (by rw [HB5.out]; decide)])
   go_wp2_with (first | (go_at_call 22; (with_reducible refine (is_at HM.out.pt.1.pt bel HOK.out 3 bLess).mono ?_); rw [HB5.out]; rintro e wB ⟨rfl, hx⟩; have hm9 := HM.out.go bel hx; clear HM; have HM := Lib.hid hm9; (try clear n0 nr0 n1 nr1 n2 nr2 n3 nr3 n4 nr4 n5 nr5); (try clear o0 or0 o1 or1 o2 or2 o3 or3 o4 or4 o5 or5); obtain ⟨n0, n1, n2, n3, n4, n5, nr0, nr1, nr2, nr3, nr4, nr5⟩ := cf6 (hm9.res); obtain ⟨o0, o1, o2, o3, o4, o5, or0, or1, or2, or3, or4, or5⟩ := cf6 (hm9.out); clear hm9 hx))
   obtain ⟨W9, hW9⟩ : ∃ W9, W9 = ((((((wB.setCell ⟨w.heap.size, 0, none⟩ (.int .i64 11)).setCell ⟨w.heap.size, 1, none⟩ (.string pt)).setCell ⟨w.heap.size, 2, none⟩ (.int .i64 0)).setCell ⟨w.heap.size, 3, none⟩ (.slice A n c)).setCell ⟨w.heap.size, 4, none⟩ (.slice none 0 0)).setCell ⟨w.heap.size, 5, none⟩ (.slice none 0 0)) := ⟨_, rfl⟩
   have h9 : W9.heap[w.heap.size]? = some (.cells #[.int .i64 11, .string pt, .int .i64 0, .slice A n c, .slice none 0 0, .slice none 0 0] 25 (0, 0)) := by rw [hW9]; exact agg_set6 HM.out.res
   obtain ⟨z0, z1, z2, z3, z4, z5⟩ := cc6 h9
   have HT9 : Hid (Turns (fun k => k = w.heap.size) wB W9) := Lib.hid (by rw [hW9]; exact six_turns (T := fun k => k = w.heap.size) (Turns.refl _ _) (w.heap.size) rfl)
   rw [← hW9]
   clear hW9 h9
   refine bodyPost_ret (v := .agg #[.int .i64 11, .string pt, .int .i64 0, .slice A n c, .slice none 0 0, .slice none 0 0]) (by simp [results, Try.results14, go_sem, z0, z1, z2, z3, z4, z5]) rfl ?_
   rw [HPO.out, HE.out]
   have hl9 := HM.out.len.1
   refine ⟨A, c, ?_, HM.out.pt.turned HT9.out (fun k e => by have e9 : k = w.heap.size := e; exact ⟨by omega, by have := HPL.out; omega, by rw [e9]; exact HOLD.out⟩), ?_⟩
   ·show Ending.returned (.agg #[.int .i64 11, .string pt, .int .i64 0, .slice A n c, .slice none 0 0, .slice none 0 0]) = Ending.returned (.agg #[.int .i64 11, .string pt, .int .i64 0, .slice A pn.length c, .slice none 0 0, .slice none 0 0])
    rw [hl9]
   ·show SRow _ _ (.slice A pn.length c) pn
    rw [← hl9]
    exact ownsRow_mono (SRow.turned HM.out.nam HT9.out (fun b e => by have e9 : b = w.heap.size := e; omega)) (by omega)
end Go.Proofs.Ytnojndgmgkgnpaa
