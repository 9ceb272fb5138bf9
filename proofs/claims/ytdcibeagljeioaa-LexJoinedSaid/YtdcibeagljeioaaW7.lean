/- Chapter 06: a symbol that is no sign. -/
import Derived.Test.YtdcibeagljeioaaW6
namespace Go.Proofs.Ytdcibeagljeioaa
open Go.ChangeShapes Go.WideShapes Go.ChangeAt Go.RowKit
set_option linter.unusedVariables false
set_option linter.unusedSimpArgs false
theorem ext_zero (s : ByteArray) (i : Nat) : s.extract i (i + 0) = ⟨#[]⟩ := by
  apply ByteArray.ext
  apply Array.toList_inj.1
  rw [ext_list]; simp
theorem colEnd_t {s : ByteArray} {i : Nat} (h : colonB (s.data.toList.drop i) = true) : colEnd s i = i + 1 := by unfold colEnd; rw [if_pos h]
theorem colEnd_f {s : ByteArray} {i : Nat} (h : colonB (s.data.toList.drop i) = false) : colEnd s i = i := by unfold colEnd; rw [if_neg (by simp [h])]
/-- where a symbol's keywords stand -/
def SymRel (w : World) (b : Nat) (s : ByteArray) (i g : Nat) (O : ByteArray) (wr : World) : Prop :=
  ∃ j, g + j = s.size ∧ i ≤ j ∧ O.data.toList = (s.data.toList.drop i).take (j - i) ∧ O.size ≤ 100000 ∧
    symV (s.data.toList.drop i) = (match kws (s.size + 1) (s.data.toList.drop j) with | none => Took.err 12 | some k => Took.ok ((s.data.toList.drop i).take (j - i + k)) (j - i + k)) ∧ Went w wr b s j
theorem kws_some {f : Nat} {l : Bs} (h : ¬ (hd letB l = true ∧ colonB (l.drop (nmLen l)) = true)) : kws (f + 1) l = some 0 := by
  unfold kws; rw [if_neg (by simpa using h)]
theorem kws_none {f : Nat} {l : Bs} (h1 : hd letB l = true) (h2 : colonB (l.drop (nmLen l)) = true) (h : nmLen l > 24) : kws (f + 1) l = none := by
  unfold kws; rw [if_pos (by simp [h1, h2]), if_pos h]
theorem kws_more {f : Nat} {l : Bs} (h1 : hd letB l = true) (h2 : colonB (l.drop (nmLen l)) = true) (h : ¬ nmLen l > 24) (hl : l.length ≤ f) : kws (f + 1) l = (kws (f + 1) (l.drop (nmLen l + 1))).map (· + (nmLen l + 1)) := by
  have hc := colonB_lt h2
  simp only [List.length_drop] at hc
  rw [kws_fuel (f + 1) f (l.drop (nmLen l + 1)) (by simp; omega) (by simp; omega)]
  rw [kws, if_pos (by simp [h1, h2]), if_neg h]
theorem take_more {l : Bs} {a n : Nat} {c : UInt8} (h : hd (· == c) (l.drop (a + n)) = true) : l.take a ++ ((l.drop a).take n ++ [c]) = l.take (a + n + 1) := by
  have e : l.drop (a + n) = c :: l.drop (a + n + 1) := by
    cases hl : l.drop (a + n) with
    | nil => rw [hl] at h; cases h
    | cons d r =>
      rw [hl] at h
      have : d = c := by simpa [hd] using h
      rw [this, ← List.drop_drop, hl]; rfl
  rw [show a + n + 1 = a + (n + 1) by omega, List.take_add, List.take_add, List.drop_drop, e]
  simp
theorem colon_hd {l : Bs} (h : colonB l = true) : hd (· == 58) l = true := by
  cases l with
  | nil => cases h
  | cons c r => simp [colonB] at h; simp [hd, h.1]
set_option maxHeartbeats 8000000 in
theorem symB {w : World} {b : Nat} {s : ByteArray} {i : Nat} (h : At w b s i) (hs : s.size ≤ 100000) (hi : i ≤ s.size) (hsg : hd signB (s.data.toList.drop i) = false) :
    Calls Try.prog 30 #[.pointer (some ⟨b, 0, none⟩)] w (SymPost w b s i) := by
  have R : Calls Try.prog 15 #[.pointer (some ⟨b, 0, none⟩), .func (.func 21) #[] #[.pointer (some ⟨w.heap.size, 0, none⟩)], .int .i64 2] (w.alloc (.cells #[.string ⟨#[43, 45, 42, 47, 60, 62, 61, 126, 44, 64, 38, 37]⟩] 9)) (fun e w' => e = .returned (.string (s.extract i (i + sgLen (s.data.toList.drop i)))) ∧ Went w w' b s (i + sgLen (s.data.toList.drop i))) := runset h hs hi bSigns signB mem_signs 2 (by omega)
  rw [sg_zero.2 hsg, ext_zero, Nat.add_zero] at R
  have HS := Lib.hid hsg
  have HL := Lib.hid (hd_byte (p := letB) rfl s i)
  clear hsg
  have hbn := nm_bd s i hi
  cases hl : letB (byteU s i)
  · have hl' : hd letB (s.data.toList.drop i) = false := by rw [HL.out]; exact hl
    have HV := Lib.hid (sym_none HS.out hl')
    clear hl' hbn
    go_enter Try.func30, Try.ntmps30
    go_wp2_with (first | (go_at_call 16; (with_reducible refine (inmk_any _ _).mono ?_); rintro e w1 ⟨rfl, rfl⟩) | (go_at_call 15; (with_reducible refine R.mono ?_); rintro e w2 ⟨rfl, hW⟩) | (go_at_call 23; (with_reducible refine (next0 hW.at_ hs hi).mono ?_); rintro e w3 ⟨rfl, n3, rfl⟩) | (go_at_call 24; (with_reducible refine (let_any _ _).mono ?_); rw [hl]; rintro e w4 ⟨rfl, rfl⟩))
    go_ret2
    left
    exact ⟨10, HV.out, .inl rfl, rfl, i, hi, hW.drewN _⟩
  · have hl' : hd letB (s.data.toList.drop i) = true := by rw [HL.out]; exact hl
    obtain ⟨n, hn⟩ : ∃ n, nmLen (s.data.toList.drop i) = n := ⟨_, rfl⟩
    rw [hn] at hbn
    have HN := Lib.hid hn
    by_cases h24 : n > 24
    · have HV := Lib.hid (sym_long HS.out hl' (by rw [hn]; exact h24))
      have HR : Hid (nmRet s i = .returned (.tuple #[.string ⟨#[]⟩, .int .i64 12])) := by show _ = _; unfold nmRet; rw [hn, if_pos h24]
      clear hl' hn
      go_enter Try.func30, Try.ntmps30
      go_wp2_with (first | (go_at_call 16; (with_reducible refine (inmk_any _ _).mono ?_); rintro e w1 ⟨rfl, rfl⟩) | (go_at_call 15; (with_reducible refine R.mono ?_); rintro e w2 ⟨rfl, hW⟩) | (go_at_call 23; (with_reducible refine (next0 hW.at_ hs hi).mono ?_); rintro e w3 ⟨rfl, n3, rfl⟩) | (go_at_call 24; (with_reducible refine (let_any _ _).mono ?_); rw [hl]; rintro e w4 ⟨rfl, rfl⟩) | (go_at_call 25; (with_reducible refine (name_any (hW.at_.drewN _) hs hi).mono ?_); rw [HR.out, HN.out]; rintro e w5 ⟨rfl, hW5⟩))
      go_ret2
      left
      exact ⟨12, HV.out, .inr rfl, rfl, i + n, hbn, (hW.drewN _).trans hW5⟩
    · have HR : Hid (nmRet s i = .returned (.tuple #[.string (s.extract i (i + n)), .int .i64 0])) := by show _ = _; unfold nmRet; rw [hn, if_neg h24]
      have hx := ext_list s i n
      have hz := size_ext s i n hbn
      obtain ⟨t, ht⟩ : ∃ t, s.extract i (i + n) = t := ⟨_, rfl⟩
      rw [ht] at hx hz HR
      have HX := Lib.hid hx
      have HZ := Lib.hid hz
      have hzz : t.size ≤ 100000 := by omega
      clear ht hx hz
      cases hc : colonB (s.data.toList.drop (i + n))
      · have HV := Lib.hid (sym_name HS.out hl' (by rw [hn]; exact h24) (by rw [hn, List.drop_drop]; exact hc))
        have HC := Lib.hid hc
        clear hl' hn hc
        go_enter Try.func30, Try.ntmps30
        go_wp2_with (first | (go_at_call 16; (with_reducible refine (inmk_any _ _).mono ?_); rintro e w1 ⟨rfl, rfl⟩) | (go_at_call 15; (with_reducible refine R.mono ?_); rintro e w2 ⟨rfl, hW⟩) | (go_at_call 23; (with_reducible refine (next0 hW.at_ hs hi).mono ?_); rintro e w3 ⟨rfl, n3, rfl⟩) | (go_at_call 24; (with_reducible refine (let_any _ _).mono ?_); rw [hl]; rintro e w4 ⟨rfl, rfl⟩) | (go_at_call 25; (with_reducible refine (name_any (hW.at_.drewN _) hs hi).mono ?_); rw [HR.out, HN.out]; rintro e w5 ⟨rfl, hW5⟩) | (go_at_call 26; (with_reducible refine (colon_any hW5.at_ hs hbn).mono ?_); rw [HC.out, colEnd_f HC.out]; rintro e w6 ⟨rfl, hW6⟩))
        go_ret2
        right
        exact ⟨_, _, t, HV.out, by rw [HX.out, HN.out], rfl, by rw [HN.out]; exact ((hW.drewN _).trans hW5).trans hW6⟩
      · have hV := sym_kw HS.out hl' (by rw [hn]; exact h24) (by rw [hn, List.drop_drop]; exact hc)
        have hclt := colonB_lt hc
        simp only [List.length_drop] at hclt
        have hsz : s.data.toList.length = s.size := rfl
        rw [hn, List.drop_drop, kws_fuel _ (s.size + 1) _ (by simp; omega) (by simp; omega)] at hV
        have HV := Lib.hid hV
        have HC := Lib.hid hc
        have hbn1 : i + n + 1 ≤ s.size := by omega
        clear hl' hn hc hV hclt
        go_enter Try.func30, Try.ntmps30
        go_wp2_with (first | (go_at_call 16; (with_reducible refine (inmk_any _ _).mono ?_); rintro e w1 ⟨rfl, rfl⟩) | (go_at_call 15; (with_reducible refine R.mono ?_); rintro e w2 ⟨rfl, hW⟩) | (go_at_call 23; (with_reducible refine (next0 hW.at_ hs hi).mono ?_); rintro e w3 ⟨rfl, n3, rfl⟩) | (go_at_call 24; (with_reducible refine (let_any _ _).mono ?_); rw [hl]; rintro e w4 ⟨rfl, rfl⟩) | (go_at_call 25; (with_reducible refine (name_any (hW.at_.drewN _) hs hi).mono ?_); rw [HR.out, HN.out]; rintro e w5 ⟨rfl, hW5⟩) | (go_at_call 26; (with_reducible refine (colon_any hW5.at_ hs hbn).mono ?_); rw [HC.out, colEnd_t HC.out]; rintro e w6 ⟨rfl, hW6⟩))
        have hW0 : Went w w6 b s (i + n + 1) := ((hW.drewN _).trans hW5).trans hW6
        clear hW hW5 hW6 R
        go_loopg [5] (s.size - (i + n + 1)) (fun g o wr => ∃ O, o = .string O ∧ SymRel w b s i g O wr)
        case atStart =>
          have h5 : (⟨#[58]⟩ : ByteArray).size = 1 := rfl
          refine ⟨_, rfl, i + n + 1, by omega, by omega, ?_, ?_, ?_, hW0⟩
          · have := take_more (l := s.data.toList.drop i) (a := 0) (n := n) (c := 58) (by rw [List.drop_drop, Nat.zero_add]; exact colon_hd HC.out)
            simp only [List.take_zero, List.nil_append, List.drop_zero, Nat.zero_add] at this
            rw [app_list, HX.out, show i + n + 1 - i = n + 1 by omega, ← this]
          · simp; have := HZ.out; omega
          · rw [HV.out, show i + n + 1 - i = n + 1 by omega]
            cases kws (s.size + 1) (s.data.toList.drop (i + (n + 1))) <;> rfl
        case round =>
          obtain ⟨O, rfl, j, hg, hij, hOl, hOs, hsv, hW⟩ := hrel
          have HG := Lib.hid hg
          have HO := Lib.hid hOl
          have HSV := Lib.hid hsv
          have hj : j ≤ s.size := by omega
          clear hg hOl hsv
          have HL2 := Lib.hid (hd_byte (p := letB) rfl s j)
          have hbj := nm_bd s j hj
          clear HV HC HX HZ HR HN
          cases hl2 : letB (byteU s j)
          · have HK := Lib.hid (kws_some (f := s.size) (l := s.data.toList.drop j) (fun q => by rw [HL2.out, hl2] at q; cases q.1))
            go_wp2_with (first | (go_at_call 23; (with_reducible refine (next0 hW.at_ hs hj).mono ?_); rintro e w3 ⟨rfl, n3, rfl⟩) | (go_at_call 24; (with_reducible refine (let_any _ _).mono ?_); rw [hl2]; rintro e w4 ⟨rfl, rfl⟩))
            go_ret2
            right
            refine ⟨_, _, O, by rw [HSV.out, HK.out], by rw [HO.out]; rfl, rfl, ?_⟩
            rw [show i + (j - i + 0) = j by omega]
            exact hW.drewN _
          · obtain ⟨m, hm⟩ : ∃ m, nmLen (s.data.toList.drop j) = m := ⟨_, rfl⟩
            rw [hm] at hbj
            have HM := Lib.hid hm
            have hlt2 : hd letB (s.data.toList.drop j) = true := by rw [HL2.out]; exact hl2
            cases hc2 : colonB (s.data.toList.drop (j + m))
            · have HK := Lib.hid (kws_some (f := s.size) (l := s.data.toList.drop j) (fun q => by rw [hm, List.drop_drop, hc2] at q; cases q.2))
              have HC2 := Lib.hid hc2
              obtain ⟨T, E, hT⟩ : ∃ (T : ByteArray) (E : Int), nmRet s j = .returned (.tuple #[.string T, .int .i64 E]) := by
                unfold nmRet; split
                · exact ⟨_, _, rfl⟩
                · exact ⟨_, _, rfl⟩
              have HT := Lib.hid hT
              clear hm hc2 hlt2 hT
              go_wp2_with (first | (go_at_call 23; (with_reducible refine (next0 hW.at_ hs hj).mono ?_); rintro e w3 ⟨rfl, n3, rfl⟩; obtain ⟨c0, c1, f1⟩ := hW.at_.drewN n3) | (go_at_call 24; (with_reducible refine (let_any _ _).mono ?_); rw [hl2]; rintro e w4 ⟨rfl, rfl⟩) | (go_at_call 25; (with_reducible refine (name_any (hW.at_.drewN _) hs hj).mono ?_); rw [HT.out, HM.out]; rintro e w5 ⟨rfl, hW5⟩; clear c0 c1 f1) | (go_at_call 26; (with_reducible refine (colon_any hW5.at_ hs hbj).mono ?_); rw [HC2.out, colEnd_f HC2.out]; rintro e w6 ⟨rfl, hW6⟩; obtain ⟨c0, c1, f1⟩ := hW6.at_))
              go_ret2
              right
              refine ⟨_, _, O, by rw [HSV.out, HK.out], by rw [HO.out]; rfl, rfl, ?_⟩
              rw [show i + (j - i + 0) = j by omega]
              exact (((hW.drewN _).trans hW5).trans hW6).set j
            · have hclt := colonB_lt hc2
              simp only [List.length_drop] at hclt
              have HC2 := Lib.hid hc2
              by_cases h24' : m > 24
              · have HK := Lib.hid (kws_none (f := s.size) hlt2 (by rw [hm, List.drop_drop]; exact hc2) (by rw [hm]; exact h24'))
                have HT : Hid (nmRet s j = .returned (.tuple #[.string ⟨#[]⟩, .int .i64 12])) := by show _ = _; unfold nmRet; rw [hm, if_pos h24']
                have hk : j + m + 1 ≤ s.size := by omega
                clear hm hc2 hlt2 hclt
                go_wp2_with (first | (go_at_call 23; (with_reducible refine (next0 hW.at_ hs hj).mono ?_); rintro e w3 ⟨rfl, n3, rfl⟩; obtain ⟨c0, c1, f1⟩ := hW.at_.drewN n3) | (go_at_call 24; (with_reducible refine (let_any _ _).mono ?_); rw [hl2]; rintro e w4 ⟨rfl, rfl⟩) | (go_at_call 25; (with_reducible refine (name_any (hW.at_.drewN _) hs hj).mono ?_); rw [HT.out, HM.out]; rintro e w5 ⟨rfl, hW5⟩; clear c0 c1 f1) | (go_at_call 26; (with_reducible refine (colon_any hW5.at_ hs hbj).mono ?_); rw [HC2.out, colEnd_t HC2.out]; rintro e w6 ⟨rfl, hW6⟩))
                go_ret2
                left
                exact ⟨12, by rw [HSV.out, HK.out], .inr rfl, rfl, j + m + 1, hk, ((hW.drewN _).trans hW5).trans hW6⟩
              · have HK := Lib.hid (kws_more (f := s.size) hlt2 (by rw [hm, List.drop_drop]; exact hc2) (by rw [hm]; exact h24') (by simp))
                have HT : Hid (nmRet s j = .returned (.tuple #[.string (s.extract j (j + m)), .int .i64 0])) := by show _ = _; unfold nmRet; rw [hm, if_neg h24']
                have hx2 := ext_list s j m
                have hz2 := size_ext s j m hbj
                obtain ⟨t2, ht2⟩ : ∃ t2, s.extract j (j + m) = t2 := ⟨_, rfl⟩
                rw [ht2] at hx2 hz2 HT
                have HX2 := Lib.hid hx2
                have hzz2 : t2.size ≤ 100000 := by omega
                have hk : j + m + 1 ≤ s.size := by omega
                clear hm hc2 hlt2 hclt hx2 hz2 ht2
                go_wp2_with (first | (go_at_call 23; (with_reducible refine (next0 hW.at_ hs hj).mono ?_); rintro e w3 ⟨rfl, n3, rfl⟩; obtain ⟨c0, c1, f1⟩ := hW.at_.drewN n3) | (go_at_call 24; (with_reducible refine (let_any _ _).mono ?_); rw [hl2]; rintro e w4 ⟨rfl, rfl⟩) | (go_at_call 25; (with_reducible refine (name_any (hW.at_.drewN _) hs hj).mono ?_); rw [HT.out, HM.out]; rintro e w5 ⟨rfl, hW5⟩; clear c0 c1 f1) | (go_at_call 26; (with_reducible refine (colon_any hW5.at_ hs hbj).mono ?_); rw [HC2.out, colEnd_t HC2.out]; rintro e w6 ⟨rfl, hW6⟩))
                go_roundg (gk - (m + 1))
                case measure => have h2 := HG.out; omega
                case rel =>
                  have h2 := HG.out
                  have hlist : (O ++ (t2 ++ ⟨#[58]⟩)).data.toList = (s.data.toList.drop i).take (j + m + 1 - i) := by
                    have := take_more (l := s.data.toList.drop i) (a := j - i) (n := m) (c := 58) (by rw [List.drop_drop, show i + (j - i + m) = j + m by omega]; exact colon_hd HC2.out)
                    rw [List.drop_drop, show i + (j - i) = j by omega] at this
                    rw [app_list, app_list, HO.out, HX2.out, show j + m + 1 - i = j - i + m + 1 by omega, ← this]
                  refine ⟨_, rfl, j + m + 1, by omega, by omega, hlist, ?_, ?_, ((hW.drewN _).trans hW5).trans hW6⟩
                  · have : (O ++ (t2 ++ ⟨#[58]⟩)).size = (O ++ (t2 ++ ⟨#[58]⟩)).data.toList.length := rfl
                    rw [this, hlist]
                    have h3 : s.data.size = s.size := rfl
                    simp; omega
                  · rw [HSV.out, HK.out, HM.out, List.drop_drop, show j + (m + 1) = j + m + 1 by omega]
                    cases kws (s.size + 1) (s.data.toList.drop (j + m + 1)) with
                    | none => rfl
                    | some k => simp only [Option.map]; rw [show j - i + (k + (m + 1)) = j + m + 1 - i + k by omega]
end Go.Proofs.Ytdcibeagljeioaa
