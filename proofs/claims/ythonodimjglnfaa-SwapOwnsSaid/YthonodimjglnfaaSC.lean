/- Chapter 04: what the program's swaps come to. -/
import Derived.Test.YthonodimjglnfaaSB
import Derived.Deep.RegionLaw
import Derived.Deep.RegionHeld3
import Derived.Deep.RegionWith
namespace Go.Proofs.Ythonodimjglnfaa
open Go.ChangeShapes Go.WideShapes Go.ChangeAt Go.RowKit Go.Deep Go.Joins Go.Maps
set_option linter.unusedVariables false
set_option linter.unusedSimpArgs false
/-- what a turn comes to: the memory, the roots, the error -/
def swV (m : Hp) (fr tl rs : List Int) : Hp × List Int × Int := if rs.all (mayV m.L) then ((turnV m fr tl).1, (if (turnV m fr tl).2 = 0 then rs.map (sbV fr tl) else []), (turnV m fr tl).2) else (m, [], 1)
def bothV (m : Hp) (a b rs : List Int) : Hp × List Int × Int := if a.length = b.length ∧ a.length ≤ 64 ∧ keepOk m.L (a ++ b) = true then swV m (a ++ b) (b ++ a) rs else (m, [], 1)
def oneV (m : Hp) (fr tl rs : List Int) : Hp × List Int × Int := if fr.length = tl.length ∧ fr.length ≤ 64 ∧ keepOk m.L fr = true ∧ tl.any (fun o => !isV m.L o || fr.contains o) = false then swV m fr tl rs else (m, [], 1)
theorem turn_zero {m : Hp} {fr tl : List Int} (h : (turnV m fr tl).2 = 0) : fr.length = tl.length := by
  unfold turnV at h
  split at h
  · rename_i hok
    unfold turnOk at hok
    simp only [Bool.and_eq_true, decide_eq_true_eq] at hok
    exact hok.1.1.1
  · cases h
theorem any_all {L : List Ob} (rs : List Int) : rs.any (fun a => !mayV L a) = !rs.all (mayV L) := by
  induction rs with
  | nil => rfl
  | cons x r ih => simp only [List.any_cons, List.all_cons, ih, Bool.not_and]
theorem Ints.set {w : World} {base g n c : Nat} {l : List Int} (h : Ints w base (.slice (some ⟨g, 0, none⟩) n c) l) (hn : l.length = n) {j : Nat} (hj : j < n) (x : Int) : Ints (w.setCell ⟨g, j, none⟩ (.int .i64 x)) base (.slice (some ⟨g, 0, none⟩) n c) (l.set j x) := by
  refine ⟨by simp, ?_⟩
  rcases h.2 with ⟨hv, h0⟩ | ⟨g', cap, cur, hv, hg, hh, h1, h2, h3, h4⟩
  · cases hv
  · cases hv
    refine .inr ⟨g, c, cur.setIfInBounds j (.int .i64 x), by rw [List.length_set, hn], hg, heap_setCell_same w g j cur _ _ hh, by rw [List.length_set]; exact h1, h2, by rw [Array.size_setIfInBounds]; exact h3, ?_⟩
    rw [List.length_set, Array.toList_setIfInBounds, List.take_set, h4, List.map_set]
theorem Ints.at_ {w : World} {base n c : Nat} {A : Option Addr} {l : List Int} (h : Ints w base (.slice A n c) l) (hn : l.length = n) {j : Nat} (hj : j < n) : ∃ g, A = some ⟨g, 0, none⟩ ∧ base ≤ g ∧ w.cell? ⟨g, j, none⟩ = some (.int .i64 (l.getD j 0)) ∧ w.frozen? ⟨g, j, none⟩ = false := by
  have h' := h
  rcases h.2 with ⟨hv, h0⟩ | ⟨g, cap, cur, hv, hg, hh, h1, h2, h3, h4⟩
  · omega
  · cases hv
    refine ⟨g, rfl, hg, ?_, by simp [World.frozen?, hh]⟩
    rw [World.ownsRow.cellAt h' j (by omega), List.getElem?_map, List.getElem?_eq_getElem (by omega), List.getD_eq_getElem?_getD, List.getElem?_eq_getElem (by omega)]
    rfl
/-- behind k places -/
def curV (fr tl rs : List Int) (k : Nat) : List Int := (rs.take k).map (sbV fr tl) ++ rs.drop k
theorem cur_zero (fr tl rs : List Int) : curV fr tl rs 0 = rs := by simp [curV]
theorem cur_end (fr tl rs : List Int) : curV fr tl rs rs.length = rs.map (sbV fr tl) := by simp [curV]
theorem cur_len (fr tl rs : List Int) (k : Nat) : (curV fr tl rs k).length = rs.length := by unfold curV; simp; omega
theorem cur_at {fr tl rs : List Int} {k : Nat} (hk : k < rs.length) : (curV fr tl rs k).getD k 0 = rs[k] := by
  unfold curV
  rw [List.getD_eq_getElem?_getD, List.getElem?_append_right (by simp; omega)]
  simp [Nat.min_eq_left (Nat.le_of_lt hk), hk]
theorem cur_succ {fr tl rs : List Int} {k : Nat} (hk : k < rs.length) : (curV fr tl rs k).set k (sbV fr tl rs[k]) = curV fr tl rs (k + 1) := by
  unfold curV
  have hl : ((rs.take k).map (sbV fr tl)).length = k := by simp; omega
  rw [List.set_append_right _ _ (by omega), hl, Nat.sub_self, List.drop_eq_getElem_cons hk, List.set_cons_zero, List.take_succ_eq_append_getElem hk, List.map_append]
  simp
theorem cur_same {fr tl rs : List Int} {k : Nat} (hk : k < rs.length) (h : rs[k] ∉ fr) : curV fr tl rs (k + 1) = curV fr tl rs k := by
  rw [← cur_succ hk, sbV_none h]
  have : (curV fr tl rs k).set k rs[k] = curV fr tl rs k := by
    conv => lhs; rw [← cur_at (fr := fr) (tl := tl) hk]
    apply List.ext_getElem
    · simp
    · intro i h1 h2
      rw [List.getElem_set]
      split
      · next e => subst e; simp [List.getD_eq_getElem?_getD, List.getElem?_eq_getElem h2]
      · rfl
  exact this
theorem turn_any' {w : World} {s bw bm : Nat} {m : Hp} (h : PM w s bw bm m) {A B : Option Addr} {fr tl : List Int} {nf nt c d : Nat} (hnf : fr.length = nf) (hnt : tl.length = nt) (hA : Nums w A fr) (hB : Nums w B tl) (hfI : ∀ x, x ∈ fr → InI x) (hla : nf ≤ c) (hca : c ≤ maxLen) (hlb : nt ≤ d) (hcb : d ≤ maxLen) :
    Calls Try.prog 68 #[.pointer (some ⟨s, 0, none⟩), .slice A nf c, .slice B nt d] w fun e w' => e = .returned (.int .i64 (turnV m fr tl).2) ∧ PM w' s bw bm (turnV m fr tl).1 ∧ Turns (pset s bw bm) w w' := by
  subst hnf; subst hnt; exact turn_any h hA hB hfI hla hca hlb hcb
def Fm (A : Option Addr) (n c : Nat) : Prop := (A = none ∧ n = 0 ∧ c = 0) ∨ 0 < n
theorem Fm.or {A : Option Addr} {n c : Nat} (h : Fm A n c) : A = none ∨ 0 < n := Or.imp (fun q => q.1) id h
/-- a list that is handed in: off the memory -/
structure Off (w : World) (T : Nat → Prop) (A : Option Addr) (n c : Nat) (l : List Int) : Prop where
  len : l.length = n
  le : n ≤ c
  cap : c ≤ maxLen
  nums : Nums w A l
  int : ∀ x, x ∈ l → InI x
  off : ∀ b off, A = some ⟨b, off, none⟩ → ¬ T b
theorem Off.below {w w' : World} {T : Nat → Prop} {A : Option Addr} {n c : Nat} {l : List Int} (h : Off w T A n c l) (hb : Below w.heap.size w w') : Off w' T A n c l := ⟨h.len, h.le, h.cap, h.nums.below hb, h.int, h.off⟩
theorem Off.turns {w w' : World} {T : Nat → Prop} {A : Option Addr} {n c : Nat} {l : List Int} (h : Off w T A n c l) (ht : Turns T w w') : Off w' T A n c l := ⟨h.len, h.le, h.cap, h.nums.turns ht h.off, h.int, h.off⟩
/-- what a swap comes to, of the program -/
def SwPost (w : World) (s bw bm : Nat) (r : Hp × List Int × Int) (e : Ending) (w' : World) : Prop := ∃ v, e = .returned (.tuple #[v, .int .i64 r.2.2]) ∧ (r.2.1 = [] → v = .slice none 0 0) ∧ Ints w' w.heap.size v r.2.1 ∧ PM w' s bw bm r.1 ∧ Turns (pset s bw bm) w w'
set_option maxRecDepth 100000 in
set_option maxHeartbeats 16000000 in
theorem sturn_any {w : World} {s bw bm : Nat} {m : Hp} (h : PM w s bw bm m) {C D E : Option Addr} {fr tl rs : List Int} {nf nt nr cc cd ce : Nat} (hF : Off w (pset s bw bm) C nf cc fr) (hT : Off w (pset s bw bm) D nt cd tl) (hR : Off w (pset s bw bm) E nr ce rs) (fR : Fm E nr ce) (bf : nf ≤ 1000000) (bt : nt ≤ 1000000) (br : nr ≤ 1000000) :
    Calls Try.prog 48 #[.pointer (some ⟨s, 0, none⟩), .slice C nf cc, .slice D nt cd, .slice E nr ce] w (SwPost w s bw bm (swV m fr tl rs)) := by
  obtain ⟨w1, hw1⟩ : ∃ w1, w.alloc (.cells #[.pointer (some ⟨s, 0, none⟩)] 23) = w1 := ⟨_, rfl⟩
  have hb1 : Below w.heap.size w w1 := by rw [← hw1]; exact (Below.refl _ _).alloc (Nat.le_refl _) _
  have hbx : w1.heap[w.heap.size]? = some (.cells #[.pointer (some ⟨s, 0, none⟩)] 23 (0, 0)) := by rw [← hw1]; exact heap_alloc_new w _
  have hmb : w1.cell? ⟨w.heap.size, 0, none⟩ = some (.pointer (some ⟨s, 0, none⟩)) := by simp [World.cell?, hbx]
  have hc := contains_may1 (c := ce) (may1_tells (h.below hb1) w.heap.size hmb) (hR.nums.below hb1) hR.len (by omega)
  have HP := Lib.hid h
  have HF := Lib.hid hF
  have HT := Lib.hid hT
  have HR := Lib.hid hR
  have HFR := Lib.hid fR
  have HB02 : Hid (∀ {n2 : Nat} {w2 : World}, w2 = w1.drewN n2 → Below w.heap.size w w2) := Lib.hid (fun e => by rw [e]; exact below_drewN hb1 _)
  have HMB := Lib.hid hmb
  obtain ⟨bb, hbb⟩ : ∃ bb, rs.any (fun a => !mayV m.L a) = bb := ⟨_, rfl⟩
  have HB := Lib.hid hbb
  have HC := Lib.hid hc
  obtain ⟨mm, er, hm⟩ : ∃ mm er, turnV m fr tl = (mm, er) := ⟨_, _, rfl⟩
  have HM := Lib.hid hm
  cases bb
  · have hall : rs.all (mayV m.L) = true := by rw [any_all] at hbb; simpa using hbb
    by_cases he : er = 0
    · have HLEN : Hid (nf = nt) := Lib.hid (by have := turn_zero (m := m) (fr := fr) (tl := tl) (by rw [hm]; exact he); rw [hF.len, hT.len] at this; exact this)
      have HV : Hid (swV m fr tl rs = (mm, rs.map (sbV fr tl), 0)) := Lib.hid (by unfold swV; rw [hall, if_pos rfl, hm, if_pos he, he])
      subst he
      rw [HV.out]
      clear hc hbb hm hb1 hbx hF hT hR fR h hall hmb
      subst hw1
      go_enter Try.func48, Try.ntmps48
      go_wp2_with (first | (go_at_call 49; (with_reducible refine HC.out.mono ?_); rw [HB.out]; rintro e w2 ⟨rfl, n2, hw2⟩; have HB2 : Hid (Below w.heap.size w w2) := Lib.hid (HB02.out hw2); have hmb2 : w2.cell? ⟨w.heap.size, 0, none⟩ = some (.pointer (some ⟨s, 0, none⟩)) := (by rw [hw2]; exact HMB.out); clear hw2) | (go_at_call 68; (with_reducible refine (turn_any' (HP.out.below HB2.out) HF.out.len HT.out.len (HF.out.below HB2.out).nums (HT.out.below HB2.out).nums HF.out.int HF.out.le HF.out.cap HT.out.le HT.out.cap).mono ?_); rw [HM.out]; rintro e w3 ⟨rfl, hP3, ht3⟩; have HP3 := Lib.hid hP3; have HT3 := Lib.hid ht3; clear hP3 ht3) | (go_at_call 69; (with_reducible refine (clone_any ((HR.out.below HB2.out).turns HT3.out).nums HR.out.len (Nat.le_trans br (by decide)) HFR.out.or).mono ?_); rintro e w4 ⟨v4, rfl, hni4, hv4, hb4⟩; obtain ⟨A4, c4, rfl, hc4, hn4, hl4, hm4, hob4⟩ := hv4.nums; rw [HR.out.len] at hv4 hni4 ⊢; have HNI4 := Lib.hid hni4; have HV4 := Lib.hid hv4; have HB4 := Lib.hid hb4; clear hv4 hb4 hc4 hn4 hl4 hm4 hob4))
      have HTW : Hid (Turns (pset s bw bm) w w3) := Lib.hid ((Turns.of_below HB2.out).trans HT3.out)
      have HF3 := Lib.hid ((HF.out.below HB2.out).turns HT3.out)
      have HT3' := Lib.hid ((HT.out.below HB2.out).turns HT3.out)
      clear hmb2 HC HB02 HMB
      go_loopw [29] (fun i wr => ∃ k : Nat, k ≤ nr ∧ i = .int .i64 k ∧ Ints wr w3.heap.size (.slice A4 nr c4) (curV fr tl rs k) ∧ Below w3.heap.size w3 wr) (fun i _ => nr - (intOf i).toNat)
      case atStart => exact ⟨0, Nat.zero_le _, rfl, by rw [cur_zero]; exact HV4.out, HB4.out⟩
      case round =>
        obtain ⟨k, hk, rfl, hin, hbw⟩ := hrel
        have HIN := Lib.hid hin
        have HBW := Lib.hid hbw
        by_cases hlt : k < nr
        · have d0 : decide (k < nr) = true := decide_eq_true hlt
          have hkl : k < rs.length := by rw [HR.out.len]; exact hlt
          obtain ⟨g, rfl, hgb, hgc, hgf⟩ := hin.at_ (by rw [cur_len, HR.out.len]) hlt
          rw [cur_at hkl] at hgc
          obtain ⟨x, hx⟩ : ∃ x, rs[k] = x := ⟨_, rfl⟩
          rw [hx] at hgc
          have HX := Lib.hid hx
          have HGB := Lib.hid hgb
          have g0 : (0 : Int) ≤ (k : Int) := by omega
          have g1 : (k : Int) < (nr : Int) := by omega
          have hix := index_of (c := cc) (HF3.out.below HBW.out).nums HF3.out.len (Nat.le_trans bf (by decide)) x
          cases hf : findN fr x with
          | none =>
            have HNO : Hid (x ∉ fr) := Lib.hid (findN_none.1 hf)
            rw [show findV fr x = -1 by unfold findV; rw [hf]] at hix
            have HIX := Lib.hid hix
            clear hx hix hf hin hbw hgb
            go_wp2_with (go_at_call 70; (with_reducible refine HIX.out.mono ?_); rintro e w6 ⟨rfl, hw6⟩; replace hw6 := hw6.symm; subst hw6)
            go_roundw
            case rel => exact ⟨k + 1, by omega, by go_num, by rw [cur_same hkl (by rw [HX.out]; exact HNO.out)]; exact HIN.out, HBW.out⟩
            case measure => simp [intOf]; omega
          | some j =>
            obtain ⟨hjl, hje, -⟩ := findN_some hf
            have hjt : j < tl.length := by rw [HT.out.len, ← HLEN.out, ← HF.out.len]; exact hjl
            obtain ⟨tg, toff, rfl, _, htc⟩ := (HT3'.out.below HBW.out).nums j hjt
            obtain ⟨y, hy⟩ : ∃ y, tl[j] = y := ⟨_, rfl⟩
            rw [hy] at htc
            have HY : Hid (sbV fr tl x = y) := Lib.hid (by rw [sbV_some hf, List.getD_eq_getElem?_getD, List.getElem?_eq_getElem hjt]; exact hy)
            rw [show findV fr x = (j : Int) by unfold findV; rw [hf]] at hix
            have HIX := Lib.hid hix
            have hjn : j < nt := by rw [← HT.out.len]; exact hjt
            have g2 : (0 : Int) ≤ (j : Int) := by omega
            have g3 : (j : Int) < (nt : Int) := by omega
            clear hx hix hf hin hbw hgb hjl hje hjt hy
            go_wp2_with (go_at_call 70; (with_reducible refine HIX.out.mono ?_); rintro e w6 ⟨rfl, hw6⟩; replace hw6 := hw6.symm; subst hw6)
            go_roundw
            case rel => exact ⟨k + 1, by omega, by go_num, by rw [← cur_succ hkl, HX.out, HY.out]; exact HIN.out.set (by rw [cur_len, HR.out.len]) hlt y, HBW.out.setCell HGB.out _⟩
            case measure => simp [intOf]; omega
        · have hkn : k = nr := by omega
          have d0 : decide (k < nr) = false := decide_eq_false hlt
          clear hlt hin hbw
          subst hkn
          go_wp2_with fail
          go_returns
          refine ⟨_, rfl, fun e => HNI4.out (by simpa using e), ?_, HP3.out.below HBW.out, HTW.out.trans (Turns.of_below HBW.out)⟩
          have hi := HIN.out
          rw [← HR.out.len, cur_end] at hi
          rw [← HR.out.len]
          exact ownsRow_mono hi HTW.out.size
    · have HV : Hid (swV m fr tl rs = (mm, [], er)) := Lib.hid (by unfold swV; rw [hall, if_pos rfl, hm, if_neg he])
      have d0 : (er == 0) = false := by simpa using he
      rw [HV.out]
      clear hc hbb hm hb1 hbx hF hT hR fR h hall hmb
      subst hw1
      go_enter Try.func48, Try.ntmps48
      go_wp2_with (first | (go_at_call 49; (with_reducible refine HC.out.mono ?_); rw [HB.out]; rintro e w2 ⟨rfl, n2, hw2⟩; have HB2 : Hid (Below w.heap.size w w2) := Lib.hid (HB02.out hw2); have hmb2 : w2.cell? ⟨w.heap.size, 0, none⟩ = some (.pointer (some ⟨s, 0, none⟩)) := (by rw [hw2]; exact HMB.out); clear hw2) | (go_at_call 68; (with_reducible refine (turn_any' (HP.out.below HB2.out) HF.out.len HT.out.len (HF.out.below HB2.out).nums (HT.out.below HB2.out).nums HF.out.int HF.out.le HF.out.cap HT.out.le HT.out.cap).mono ?_); rw [HM.out]; rintro e w3 ⟨rfl, hP3, ht3⟩; have HP3 := Lib.hid hP3; have HT3 := Lib.hid ht3; clear hP3 ht3))
      go_returns
      exact ⟨_, rfl, fun _ => rfl, World.ownsRow_nil _ _ _ _, HP3.out, (Turns.of_below HB2.out).trans HT3.out⟩
  · have HV : Hid (swV m fr tl rs = (m, [], 1)) := Lib.hid (by
      have : rs.all (mayV m.L) = false := by rw [any_all] at hbb; simpa using hbb
      unfold swV; rw [this]; rfl)
    rw [HV.out]
    clear hc hbb hm hb1 hbx hF hT hR fR h hmb
    subst hw1
    go_enter Try.func48, Try.ntmps48
    go_wp2_with (go_at_call 49; (with_reducible refine HC.out.mono ?_); rw [HB.out]; rintro e w2 ⟨rfl, n2, hw2⟩; have HB2 : Hid (Below w.heap.size w w2) := Lib.hid (HB02.out hw2); have hmb2 : w2.cell? ⟨w.heap.size, 0, none⟩ = some (.pointer (some ⟨s, 0, none⟩)) := (by rw [hw2]; exact HMB.out); clear hw2)
    go_returns
    exact ⟨_, rfl, fun _ => rfl, World.ownsRow_nil _ _ _ _, HP.out.below HB2.out, Turns.of_below HB2.out⟩
theorem concat_lit {w : World} {T : Nat → Prop} {A B : Option Addr} {a b : List Int} {na nb ca cb : Nat} (hA : Off w T A na ca a) (hB : Off w T B nb cb b) (fA : Fm A na ca) (fB : Fm B nb cb) (ha : na ≤ 64) (hb : nb ≤ 64) (hT : ∀ k, T k → k < w.heap.size) :
    Calls Try.prog 47 #[.slice (some ⟨w.heap.size, 0, none⟩) 2 2] (w.alloc (.cells #[.slice A na ca, .slice B nb cb] 28)) fun e w' => ∃ C cc, e = .returned (.slice C (na + nb) cc) ∧ Off w' T C (na + nb) cc (a ++ b) ∧ Below w.heap.size w w' := by
  have hb1 : Below w.heap.size w (w.alloc (.cells #[.slice A na ca, .slice B nb cb] 28)) := (Below.refl _ _).alloc (Nat.le_refl _) _
  have hs1 : w.heap.size ≤ (w.alloc (.cells #[.slice A na ca, .slice B nb cb] 28)).heap.size := by simp
  have hbk : (w.alloc (.cells #[.slice A na ca, .slice B nb cb] 28)).heap[w.heap.size]? = some (.cells #[.slice A na ca, .slice B nb cb] 28 (0, 0)) := heap_alloc_new w _
  refine (concat_any (by unfold World.cell?; rw [hbk]; rfl) (by unfold World.cell?; rw [hbk]; rfl) (hA.nums.below hb1) (hB.nums.below hb1) hA.len hB.len (by omega) (by omega) fA fB).mono ?_
  rintro e w' ⟨v, rfl, hv, hb'⟩
  obtain ⟨C, cc, rfl, hc, hn, hl, hm, _⟩ := hv.nums
  have hlen : (a ++ b).length = na + nb := by rw [List.length_append, hA.len, hB.len]
  rw [hlen] at hc ⊢
  refine ⟨C, cc, rfl, ⟨hlen, hc, hm, hn, fun x hx => ?_, fun bb off e t => ?_⟩, hb1.trans (hb'.mono hs1)⟩
  · rcases List.mem_append.1 hx with q | q
    · exact hA.int x q
    · exact hB.int x q
  · have := (hl bb off e).1
    have := hT bb t
    omega
theorem SwPost.later {w w1 : World} {s bw bm : Nat} {r : Hp × List Int × Int} {e : Ending} {w' : World} (hb : Below w.heap.size w w1) (h : SwPost w1 s bw bm r e w') : SwPost w s bw bm r e w' := by
  obtain ⟨v, e1, hni, hi, hP, ht⟩ := h
  exact ⟨v, e1, hni, ownsRow_mono hi hb.size, hP, (Turns.of_below hb).trans ht⟩
theorem sw_no {w w' : World} {s bw bm : Nat} {m : Hp} (h : PM w s bw bm m) (hb : Below w.heap.size w w') : SwPost w s bw bm (m, [], 1) (.returned (.tuple #[.slice none 0 0, .int .i64 1])) w' := ⟨_, rfl, fun _ => rfl, World.ownsRow_nil _ _ _ _, h.below hb, Turns.of_below hb⟩
set_option maxRecDepth 100000 in
set_option maxHeartbeats 16000000 in
theorem both_any {w : World} {s bw bm : Nat} {m : Hp} (h : PM w s bw bm m) {A B E : Option Addr} {a b rs : List Int} {na nb nr ca cb ce : Nat} (hA : Off w (pset s bw bm) A na ca a) (hB : Off w (pset s bw bm) B nb cb b) (hR : Off w (pset s bw bm) E nr ce rs) (fA : Fm A na ca) (fB : Fm B nb cb) (fR : Fm E nr ce) (ba : na ≤ 1000000) (bb : nb ≤ 1000000) (br : nr ≤ 1000000) :
    Calls Try.prog 20 #[.pointer (some ⟨s, 0, none⟩), .slice A na ca, .slice B nb cb, .slice E nr ce] w (SwPost w s bw bm (bothV m a b rs)) := by
  have HP := Lib.hid h
  have HA := Lib.hid hA
  have HB := Lib.hid hB
  have HR := Lib.hid hR
  have HFA := Lib.hid fA
  have HFB := Lib.hid fB
  have HFR := Lib.hid fR
  have HLT : Hid (∀ {w' : World}, Below w.heap.size w w' → ∀ k, pset s bw bm k → k < w'.heap.size) := Lib.hid (fun hb k hk => Nat.lt_of_lt_of_le (h.lt k hk) hb.size)
  clear h hA hB hR fA fB fR
  by_cases e1 : na = nb
  · subst e1
    by_cases e2 : na ≤ 64
    · have d2 : decide (64 < na) = false := decide_eq_false (by omega)
      have d3 : decide ((64 : Int) < (na : Int)) = false := decide_eq_false (by omega)
      have bA := e2
      have bB := e2
      cases hk : keepOk m.L (a ++ b)
      · have HK := Lib.hid hk
        have HV : Hid (bothV m a b rs = (m, [], 1)) := Lib.hid (by unfold bothV; rw [if_neg (fun q => by rw [hk] at q; exact absurd q.2.2 (by simp))])
        rw [HV.out]
        clear hk
        go_enter Try.func20, Try.ntmps20
        go_wp2_with (first | (go_at_call 47; (with_reducible refine (concat_lit (HA.out.below (Below.refl w.heap.size w)) (HB.out.below (Below.refl w.heap.size w)) HFA.out HFB.out bA bB (HLT.out (Below.refl w.heap.size w))).mono ?_); rintro e w1 ⟨C1, cc1, rfl, hof1, hbl1⟩; have HOF1 := Lib.hid hof1; have HL1 := Lib.hid hbl1; have HB1 : Hid (Below w.heap.size w w1) := Lib.hid (((Below.refl w.heap.size w)).trans (hbl1.mono ((Below.refl w.heap.size w)).size)); clear hof1 hbl1) | (go_at_call 46; (with_reducible refine (apart_any (HP.out.below HB1.out) HOF1.out.nums HOF1.out.len HOF1.out.int (by omega)).mono ?_); rw [HK.out]; rintro e w2 ⟨rfl, hb2⟩; have HB2 : Hid (Below w.heap.size w w2) := Lib.hid (HB1.out.trans (hb2.mono HB1.out.size)); clear hb2))
        go_returns
        exact sw_no HP.out HB2.out
      · have HK := Lib.hid hk
        have HV : Hid (bothV m a b rs = swV m (a ++ b) (b ++ a) rs) := Lib.hid (by unfold bothV; rw [if_pos ⟨by rw [HA.out.len, HB.out.len], by rw [HA.out.len]; exact e2, hk⟩])
        rw [HV.out]
        clear hk
        obtain ⟨rr, hrr⟩ : ∃ rr, swV m (a ++ b) (b ++ a) rs = rr := ⟨_, rfl⟩
        have HRR := Lib.hid hrr
        rw [hrr]
        clear hrr
        go_enter Try.func20, Try.ntmps20
        go_upto_region 3 with (first | (go_at_call 47; (with_reducible refine (concat_lit (HA.out.below (Below.refl w.heap.size w)) (HB.out.below (Below.refl w.heap.size w)) HFA.out HFB.out bA bB (HLT.out (Below.refl w.heap.size w))).mono ?_); rintro e w1 ⟨C1, cc1, rfl, hof1, hbl1⟩; have HOF1 := Lib.hid hof1; have HL1 := Lib.hid hbl1; have HB1 : Hid (Below w.heap.size w w1) := Lib.hid (((Below.refl w.heap.size w)).trans (hbl1.mono ((Below.refl w.heap.size w)).size)); clear hof1 hbl1) | (go_at_call 46; (with_reducible refine (apart_any (HP.out.below HB1.out) HOF1.out.nums HOF1.out.len HOF1.out.int (by omega)).mono ?_); rw [HK.out]; rintro e w2 ⟨rfl, hb2⟩; have HB2 : Hid (Below w.heap.size w w2) := Lib.hid (HB1.out.trans (hb2.mono HB1.out.size)); clear hb2))
        go_wp2_with (first | (go_at_call 47; (with_reducible refine (concat_lit (HA.out.below HB2.out) (HB.out.below HB2.out) HFA.out HFB.out bA bB (HLT.out HB2.out)).mono ?_); rintro e w3 ⟨C3, cc3, rfl, hof3, hbl3⟩; have HOF3 := Lib.hid hof3; have HL3 := Lib.hid hbl3; have HB3 : Hid (Below w.heap.size w w3) := Lib.hid ((HB2.out).trans (hbl3.mono (HB2.out).size)); clear hof3 hbl3) | (go_at_call 47; (with_reducible refine (concat_lit (HB.out.below HB3.out) (HA.out.below HB3.out) HFB.out HFA.out bB bA (HLT.out HB3.out)).mono ?_); rintro e w4 ⟨C4, cc4, rfl, hof4, hbl4⟩; have HOF4 := Lib.hid hof4; have HL4 := Lib.hid hbl4; have HB4 : Hid (Below w.heap.size w w4) := Lib.hid ((HB3.out).trans (hbl4.mono (HB3.out).size)); clear hof4 hbl4) | (go_at_call 48; (with_reducible refine (sturn_any (HP.out.below HB4.out) (HOF3.out.below HL4.out) HOF4.out (HR.out.below HB4.out) HFR.out (by omega) (by omega) br).mono ?_); rw [HRR.out]; rintro e w5 ⟨v5, rfl, hni5, hi5, hp5, ht5⟩; have HNI5 := Lib.hid hni5; have HI5 := Lib.hid hi5; have HP5 := Lib.hid hp5; have HT5 := Lib.hid ht5; clear hni5 hi5 hp5 ht5))
        go_returns
        exact SwPost.later HB4.out ⟨_, rfl, HNI5.out, HI5.out, HP5.out, HT5.out⟩
    · have d2 : decide (64 < na) = true := decide_eq_true (by omega)
      have d3 : decide ((64 : Int) < (na : Int)) = true := decide_eq_true (by omega)
      have HV : Hid (bothV m a b rs = (m, [], 1)) := Lib.hid (by unfold bothV; rw [if_neg (fun q => e2 (by rw [← HA.out.len]; exact q.2.1))])
      rw [HV.out]
      go_enter Try.func20, Try.ntmps20
      go_wp2_with fail
      go_returns
      exact sw_no HP.out (Below.refl _ _)
  · have d1 : (na == nb) = false := by simpa using e1
    have e1' : ¬ ((na : Int) = (nb : Int)) := by omega
    have d1' : ((na : Int) == (nb : Int)) = false := by simpa using e1'
    have HV : Hid (bothV m a b rs = (m, [], 1)) := Lib.hid (by unfold bothV; rw [if_neg (fun q => e1 (by rw [← HA.out.len, ← HB.out.len]; exact q.1))])
    rw [HV.out]
    go_enter Try.func20, Try.ntmps20
    go_wp2_with fail
    go_returns
    exact sw_no HP.out (Below.refl _ _)
set_option maxRecDepth 100000 in
set_option maxHeartbeats 16000000 in
theorem one_any {w : World} {s bw bm : Nat} {m : Hp} (h : PM w s bw bm m) {C D E : Option Addr} {fr tl rs : List Int} {nf nt nr cc cd ce : Nat} (hF : Off w (pset s bw bm) C nf cc fr) (hT : Off w (pset s bw bm) D nt cd tl) (hR : Off w (pset s bw bm) E nr ce rs) (fR : Fm E nr ce) (bf : nf ≤ 1000000) (bt : nt ≤ 1000000) (br : nr ≤ 1000000) :
    Calls Try.prog 21 #[.pointer (some ⟨s, 0, none⟩), .slice C nf cc, .slice D nt cd, .slice E nr ce] w (SwPost w s bw bm (oneV m fr tl rs)) := by
  obtain ⟨w1, hw1⟩ : ∃ w1, (w.alloc (.cells #[.pointer (some ⟨s, 0, none⟩)] 23)).alloc (.cells #[.slice C nf cc] 28) = w1 := ⟨_, rfl⟩
  have hx1 : (w.alloc (.cells #[.pointer (some ⟨s, 0, none⟩)] 23)).heap.size = w.heap.size + 1 := by simp
  have hb1 : Below w.heap.size w w1 := by rw [← hw1]; exact ((Below.refl _ _).alloc (Nat.le_refl _) _).alloc (by simp) _
  have hbx : w1.heap[w.heap.size]? = some (.cells #[.pointer (some ⟨s, 0, none⟩)] 23 (0, 0)) := by
    rw [← hw1, Below.heap_alloc _ _ _ (by rw [hx1]; omega)]
    exact heap_alloc_new w _
  have hfx : w1.heap[w.heap.size + 1]? = some (.cells #[.slice C nf cc] 28 (0, 0)) := by
    rw [← hw1, ← hx1]; exact heap_alloc_new _ _
  have HMB : Hid (w1.cell? ⟨w.heap.size, 0, none⟩ = some (.pointer (some ⟨s, 0, none⟩))) := Lib.hid (by simp [World.cell?, hbx])
  have HFB : Hid (w1.cell? ⟨w.heap.size + 1, 0, none⟩ = some (.slice C nf cc)) := Lib.hid (by simp [World.cell?, hfx])
  have HP := Lib.hid h
  have HF := Lib.hid hF
  have HT := Lib.hid hT
  have HR := Lib.hid hR
  have HFR := Lib.hid fR
  have HB1 := Lib.hid hb1
  clear h hF hT hR fR hb1 hbx hfx hx1
  subst hw1
  by_cases e1 : nf = nt
  · subst e1
    by_cases e2 : nf ≤ 64
    · have d2 : decide (64 < nf) = false := decide_eq_false (by omega)
      have d3 : decide ((64 : Int) < (nf : Int)) = false := decide_eq_false (by omega)
      cases hk : keepOk m.L fr
      · have HK := Lib.hid hk
        have HV : Hid (oneV m fr tl rs = (m, [], 1)) := Lib.hid (by unfold oneV; rw [if_neg (fun q => by rw [hk] at q; exact absurd q.2.2.1 (by simp))])
        rw [HV.out]
        clear hk
        go_enter Try.func21, Try.ntmps21
        go_wp2_with (go_at_call 46; (with_reducible refine (apart_any (HP.out.below HB1.out) (HF.out.below HB1.out).nums HF.out.len HF.out.int (by omega)).mono ?_); rw [HK.out]; rintro e w2 ⟨rfl, hb2⟩; have HB2 : Hid (Below w.heap.size w w2) := Lib.hid (HB1.out.trans (hb2.mono HB1.out.size)); have m2 : w2.cell? ⟨w.heap.size, 0, none⟩ = some (.pointer (some ⟨s, 0, none⟩)) := ((hb2.cell (cell_lt HMB.out)).trans HMB.out); have f2 : w2.cell? ⟨w.heap.size + 1, 0, none⟩ = some (.slice C nf cc) := ((hb2.cell (cell_lt HFB.out)).trans HFB.out); clear hb2)
        go_returns
        exact sw_no HP.out HB2.out
      · have HK := Lib.hid hk
        cases ha : tl.any (fun o => !isV m.L o || fr.contains o)
        · have HAN := Lib.hid ha
          have HV : Hid (oneV m fr tl rs = swV m fr tl rs) := Lib.hid (by unfold oneV; rw [if_pos ⟨by rw [HF.out.len, HT.out.len], by rw [HF.out.len]; exact e2, hk, ha⟩])
          rw [HV.out]
          clear hk ha
          obtain ⟨rr, hrr⟩ : ∃ rr, swV m fr tl rs = rr := ⟨_, rfl⟩
          have HRR := Lib.hid hrr
          rw [hrr]
          clear hrr
          go_enter Try.func21, Try.ntmps21
          go_wp2_with (first | (go_at_call 46; (with_reducible refine (apart_any (HP.out.below HB1.out) (HF.out.below HB1.out).nums HF.out.len HF.out.int (by omega)).mono ?_); rw [HK.out]; rintro e w2 ⟨rfl, hb2⟩; have HB2 : Hid (Below w.heap.size w w2) := Lib.hid (HB1.out.trans (hb2.mono HB1.out.size)); have m2 : w2.cell? ⟨w.heap.size, 0, none⟩ = some (.pointer (some ⟨s, 0, none⟩)) := ((hb2.cell (cell_lt HMB.out)).trans HMB.out); have f2 : w2.cell? ⟨w.heap.size + 1, 0, none⟩ = some (.slice C nf cc) := ((hb2.cell (cell_lt HFB.out)).trans HFB.out); clear hb2) | (go_at_call 49; (with_reducible refine (contains_one1 (one1_tells (HP.out.below HB2.out) w.heap.size (w.heap.size + 1) m2 f2 (HF.out.below HB2.out).nums HF.out.len (by omega)) (HT.out.below HB2.out).nums HT.out.len (by omega)).mono ?_); rw [HAN.out]; rintro e w3 ⟨rfl, n3, hw3⟩; have HB3 : Hid (Below w.heap.size w w3) := Lib.hid (by rw [hw3]; exact below_drewN HB2.out _); have m3 : w3.cell? ⟨w.heap.size, 0, none⟩ = some (.pointer (some ⟨s, 0, none⟩)) := (by rw [hw3]; exact m2); have f3 : w3.cell? ⟨w.heap.size + 1, 0, none⟩ = some (.slice C nf cc) := (by rw [hw3]; exact f2); clear hw3) | (go_at_call 48; (with_reducible refine (sturn_any (HP.out.below HB3.out) (HF.out.below HB3.out) (HT.out.below HB3.out) (HR.out.below HB3.out) HFR.out (by omega) (by omega) br).mono ?_); rw [HRR.out]; rintro e w5 ⟨v5, rfl, hni5, hi5, hp5, ht5⟩; have HNI5 := Lib.hid hni5; have HI5 := Lib.hid hi5; have HP5 := Lib.hid hp5; have HT5 := Lib.hid ht5; clear hni5 hi5 hp5 ht5))
          go_returns
          exact SwPost.later HB3.out ⟨_, rfl, HNI5.out, HI5.out, HP5.out, HT5.out⟩
        · have HAN := Lib.hid ha
          have HV : Hid (oneV m fr tl rs = (m, [], 1)) := Lib.hid (by unfold oneV; rw [if_neg (fun q => by rw [ha] at q; exact absurd q.2.2.2 (by simp))])
          rw [HV.out]
          clear hk ha
          go_enter Try.func21, Try.ntmps21
          go_wp2_with (first | (go_at_call 46; (with_reducible refine (apart_any (HP.out.below HB1.out) (HF.out.below HB1.out).nums HF.out.len HF.out.int (by omega)).mono ?_); rw [HK.out]; rintro e w2 ⟨rfl, hb2⟩; have HB2 : Hid (Below w.heap.size w w2) := Lib.hid (HB1.out.trans (hb2.mono HB1.out.size)); have m2 : w2.cell? ⟨w.heap.size, 0, none⟩ = some (.pointer (some ⟨s, 0, none⟩)) := ((hb2.cell (cell_lt HMB.out)).trans HMB.out); have f2 : w2.cell? ⟨w.heap.size + 1, 0, none⟩ = some (.slice C nf cc) := ((hb2.cell (cell_lt HFB.out)).trans HFB.out); clear hb2) | (go_at_call 49; (with_reducible refine (contains_one1 (one1_tells (HP.out.below HB2.out) w.heap.size (w.heap.size + 1) m2 f2 (HF.out.below HB2.out).nums HF.out.len (by omega)) (HT.out.below HB2.out).nums HT.out.len (by omega)).mono ?_); rw [HAN.out]; rintro e w3 ⟨rfl, n3, hw3⟩; have HB3 : Hid (Below w.heap.size w w3) := Lib.hid (by rw [hw3]; exact below_drewN HB2.out _); have m3 : w3.cell? ⟨w.heap.size, 0, none⟩ = some (.pointer (some ⟨s, 0, none⟩)) := (by rw [hw3]; exact m2); have f3 : w3.cell? ⟨w.heap.size + 1, 0, none⟩ = some (.slice C nf cc) := (by rw [hw3]; exact f2); clear hw3))
          go_returns
          exact sw_no HP.out HB3.out
    · have d2 : decide (64 < nf) = true := decide_eq_true (by omega)
      have d3 : decide ((64 : Int) < (nf : Int)) = true := decide_eq_true (by omega)
      have HV : Hid (oneV m fr tl rs = (m, [], 1)) := Lib.hid (by unfold oneV; rw [if_neg (fun q => e2 (by rw [← HF.out.len]; exact q.2.1))])
      rw [HV.out]
      go_enter Try.func21, Try.ntmps21
      go_wp2_with fail
      go_returns
      exact sw_no HP.out HB1.out
  · have d1 : (nf == nt) = false := by simpa using e1
    have e1' : ¬ ((nf : Int) = (nt : Int)) := by omega
    have d1' : ((nf : Int) == (nt : Int)) = false := by simpa using e1'
    have HV : Hid (oneV m fr tl rs = (m, [], 1)) := Lib.hid (by unfold oneV; rw [if_neg (fun q => e1 (by rw [← HF.out.len, ← HT.out.len]; exact q.1))])
    rw [HV.out]
    go_enter Try.func21, Try.ntmps21
    go_wp2_with fail
    go_returns
    exact sw_no HP.out HB1.out
end Go.Proofs.Ythonodimjglnfaa
