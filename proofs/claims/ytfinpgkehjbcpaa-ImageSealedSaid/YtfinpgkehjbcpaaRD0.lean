/- Chapter 02: stores into the reference's memory. -/
import Derived.Test.YtfinpgkehjbcpaaHD0
import Derived.Test.YtfinpgkehjbcpaaRR1
namespace Go.Proofs.Ytfinpgkehjbcpaa
open Go.ChangeShapes Go.WideShapes Go.ChangeAt Go.RowKit Go.Deep Go.Joins Go.Maps
set_option linter.unusedVariables false
set_option linter.unusedSimpArgs false

theorem rowsL_set {n size : Nat} {F : Nat → Nat → Value} {i j : Nat} {v : Value} (hi : i < n) (hj : j < size) : (rowsL n size F).set (i * size + j) v = rowsL n size (fun a b => if a = i ∧ b = j then v else F a b) := by
  apply List.ext_getElem?
  intro idx
  by_cases hx : idx < n * size
  · have ha : idx / size < n := Nat.div_lt_of_lt_mul (by rw [Nat.mul_comm]; exact hx)
    have hb : idx % size < size := Nat.mod_lt _ (by omega)
    have e : idx / size * size + idx % size = idx := Nat.div_add_mod' idx size
    have h1 := rowsL_at (F := F) ha hb
    have h2 := rowsL_at (F := fun a b => if a = i ∧ b = j then v else F a b) ha hb
    rw [e] at h1 h2
    rw [h2]
    by_cases hc : i * size + j = idx
    · have e1 : idx / size = i := by
        rw [← hc, Nat.add_comm, Nat.add_mul_div_right _ _ (by omega), Nat.div_eq_of_lt hj, Nat.zero_add]
      have e2 : idx % size = j := by
        rw [← hc, Nat.add_comm, Nat.add_mul_mod_self_right, Nat.mod_eq_of_lt hj]
      rw [← hc, List.getElem?_set_self (by rw [rowsL_len, hc]; exact hx)]
      rw [hc, e1, e2, if_pos ⟨rfl, rfl⟩]
    · rw [List.getElem?_set_ne hc, h1, if_neg]
      rintro ⟨e1, e2⟩
      rw [e1, e2] at e
      exact hc e
  · rw [List.getElem?_eq_none (by rw [List.length_set, rowsL_len]; omega), List.getElem?_eq_none (by rw [rowsL_len]; omega)]
theorem own_block_of {w : World} {base n size : Nat} {e : TypeId} {v : Value} {xs : List Value} (h : w.ownsRow base e size v n xs) {k : Nat} (hk : v.ownBlock = some k) : ∃ cur, w.heap[k]? = some (.cells cur e (0, 0)) := by
  rcases h.2 with ⟨rfl, _⟩ | ⟨g, cap, cur, rfl, hg, hh, _⟩
  · cases hk
  · cases hk; exact ⟨cur, hh⟩
section
variable {w : World} {R : Nat → Prop} {r : Nat} {m : Hp} {lv : Value} {fv : Nat → Value}
/-- the box, the list and the fields lie apart -/
theorem RM.apart1 (h : RM w R r m lv fv) : lv.ownBlock ≠ some r ∧ ∀ (i : Nat) (hi : i < m.L.length), (fv i).ownBlock ≠ some r ∧ ((fv i).ownBlock ≠ none → (fv i).ownBlock ≠ lv.ownBlock) := by
  refine ⟨fun e => ?_, fun i hi => ⟨fun e => ?_, fun hn e => ?_⟩⟩
  · obtain ⟨cur, hh⟩ := own_block_of h.own e
    rw [h.box] at hh; simp at hh
  · obtain ⟨cur, hh⟩ := own_block_of (h.fields i hi) e
    rw [h.box] at hh; simp at hh
  · obtain ⟨k, hk⟩ := Option.ne_none_iff_exists'.1 hn
    obtain ⟨cur, hh⟩ := own_block_of (h.fields i hi) hk
    obtain ⟨cur2, hh2⟩ := own_block_of h.own (by rw [← e]; exact hk)
    rw [hh] at hh2; simp at hh2
/-- a cell of the list is stored -/
theorem RM.store (h : RM w R r m lv fv) {i k g c : Nat} (hlv : lv = .slice (some ⟨g, 0, none⟩) m.L.length c) (hi : i < m.L.length) (hk : k < 3) {o' : Ob} {x : Int} (ho : ∀ j, j < 4 → (if j = k then Value.int .i64 x else objF m.L fv i j) = (match j with | 0 => .int .i64 o'.cls | 1 => .int .i64 o'.fmt | 2 => .int .i64 o'.hash | _ => fv i)) (hF : o'.F = m.L[i].F) (hg : Good { m with L := m.L.set i o' }) :
    RM (w.setCell ⟨g, i * 4 + k, none⟩ (.int .i64 x)) R r { m with L := m.L.set i o' } lv fv := by
  obtain ⟨a1, a2⟩ := h.apart1
  have hlb : lv.ownBlock = some g := by rw [hlv]; rfl
  have hset : (m.L.set i o').length = m.L.length := List.length_set
  refine ⟨hg, ?_, ?_, ?_, ?_, ?_, ?_⟩
  · rw [Below.heap_setCell _ _ _ _ (fun e => a1 (by rw [hlb]; exact congrArg some e.symm))]; exact h.box
  · have hown := h.own
    rw [hlv] at hown
    have h1 := (World.ownsRow.stored hown (i * 4 + k) (.int .i64 x)).1
    rw [rowsL_set hi (by omega)] at h1
    rw [hlv]
    show World.ownsRow _ 0 75 4 (.slice (some ⟨g, 0, none⟩) m.L.length c) (m.L.set i o').length (rowsL (m.L.set i o').length 4 (objF (m.L.set i o') fv))
    rw [hset]
    rw [rowsL_congr (G := objF (m.L.set i o') fv)] at h1
    · exact h1
    · intro a ha b hb
      by_cases e : a = i
      · subst e
        have := ho b hb
        simp only [true_and]
        rw [this]
        unfold objF
        rw [List.getD_eq_getElem?_getD, List.getElem?_set_self hi]
        rfl
      · rw [if_neg (fun q => e q.1)]
        unfold objF
        rw [List.getD_eq_getElem?_getD, List.getD_eq_getElem?_getD, List.getElem?_set_ne (fun q => e q.symm)]
  · intro j hj
    have hj' : j < m.L.length := by rw [← hset]; exact hj
    have hFj : (m.L.set i o')[j].F = m.L[j].F := by
      rw [List.getElem_set]
      split
      · next e => subst e; exact hF
      · rfl
    rw [hFj]
    have hne := (a2 j hj').2
    refine ownsRow_setCell_other (h.fields j hj') (fun e => ?_) _
    rw [hlb] at hne
    exact hne (by rw [e]; simp) e
  · intro a b hab hb
    exact h.apart a b hab (by rw [← hset]; exact hb)
  · refine ⟨h.inR.1, h.inR.2.1, fun j hj => h.inR.2.2 j (by rw [← hset]; exact hj)⟩
  · intro k hk; have := h.lt k hk; simpa using this
theorem RM.setMade (h : RM w R r m lv fv) (n : Nat) (hn : n ≤ 1099511627776) : RM (w.setCell ⟨r, 1, none⟩ (.int .i64 (n : Int))) R r { m with made := n } lv fv := by
  obtain ⟨a1, a2⟩ := h.apart1
  have g := h.good
  refine ⟨⟨g.lo, g.hi, hn, g.fits, g.fmt, g.len, g.word⟩, ?_, ?_, ?_, h.apart, h.inR, fun k hk => by have := h.lt k hk; simpa using this⟩
  · rw [heap_setCell_same w r 1 _ _ _ h.box]; rfl
  · exact ownsRow_setCell_other h.own a1 _
  · intro i hi; exact ownsRow_setCell_other (h.fields i hi) (a2 i hi).1 _
/-- a field of an object is stored -/
theorem RM.storeF (h : RM w R r m lv fv) {i j g c : Nat} (hi : i < m.L.length) (hj : j < m.L[i].F.length) (hfv : fv i = .slice (some ⟨g, 0, none⟩) m.L[i].F.length c) {x : Int} (hg : Good { m with L := m.L.set i ⟨m.L[i].cls, m.L[i].fmt, m.L[i].hash, m.L[i].F.set j x⟩ }) :
    RM (w.setCell ⟨g, j, none⟩ (.int .i64 x)) R r { m with L := m.L.set i ⟨m.L[i].cls, m.L[i].fmt, m.L[i].hash, m.L[i].F.set j x⟩ } lv fv := by
  obtain ⟨a1, a2⟩ := h.apart1
  have hfb : (fv i).ownBlock = some g := by rw [hfv]; rfl
  have hset : (m.L.set i ⟨m.L[i].cls, m.L[i].fmt, m.L[i].hash, m.L[i].F.set j x⟩).length = m.L.length := List.length_set
  refine ⟨hg, ?_, ?_, ?_, ?_, ?_, ?_⟩
  · rw [Below.heap_setCell _ _ _ _ (fun e => (a2 i hi).1 (by rw [hfb]; exact congrArg some e.symm))]; exact h.box
  · have h1 := ownsRow_setCell_other h.own (a := ⟨g, j, none⟩) (fun e => (a2 i hi).2 (by rw [hfb]; simp) (by rw [hfb, e])) (.int .i64 x)
    show World.ownsRow _ 0 75 4 lv (m.L.set i _).length (rowsL (m.L.set i _).length 4 (objF (m.L.set i _) fv))
    rw [hset]
    rw [rowsL_congr (G := objF (m.L.set i ⟨m.L[i].cls, m.L[i].fmt, m.L[i].hash, m.L[i].F.set j x⟩) fv)] at h1
    · exact h1
    · intro a ha b hb
      by_cases e : a = i
      · subst e
        unfold objF
        rw [List.getD_eq_getElem?_getD, List.getD_eq_getElem?_getD, List.getElem?_set_self hi, List.getElem?_eq_getElem hi]
        rfl
      · unfold objF
        rw [List.getD_eq_getElem?_getD, List.getD_eq_getElem?_getD, List.getElem?_set_ne (fun q => e q.symm)]
  · intro a ha
    have ha' : a < m.L.length := by rw [← hset]; exact ha
    by_cases e : a = i
    · subst e
      have hf := h.fields a hi
      rw [hfv] at hf
      have h1 := (World.ownsRow.stored hf j (.int .i64 x)).1
      have e2 : (m.L.set a ⟨m.L[a].cls, m.L[a].fmt, m.L[a].hash, m.L[a].F.set j x⟩)[a].F = m.L[a].F.set j x := by rw [List.getElem_set_self]
      show World.ownsRow _ 0 3 1 (fv a) ((m.L.set a _)[a].F).length (((m.L.set a _)[a].F).map (Value.int .i64))
      rw [e2, List.length_set, List.map_set, hfv]
      exact h1
    · have e2 : (m.L.set i ⟨m.L[i].cls, m.L[i].fmt, m.L[i].hash, m.L[i].F.set j x⟩)[a].F = m.L[a].F := by rw [List.getElem_set_ne (fun q => e q.symm)]
      show World.ownsRow _ 0 3 1 (fv a) ((m.L.set i _)[a].F).length (((m.L.set i _)[a].F).map (Value.int .i64))
      rw [e2]
      refine ownsRow_setCell_other (h.fields a ha') (fun q => ?_) _
      rcases Nat.lt_or_ge a i with h1 | h1
      · exact h.apart a i h1 hi (by rw [q]; simp) (by rw [q, hfb])
      · exact h.apart i a (by omega) ha' (by rw [hfb]; simp) (by rw [q, hfb])
  · intro a b hab hb
    exact h.apart a b hab (by rw [← hset]; exact hb)
  · refine ⟨h.inR.1, h.inR.2.1, fun a ha => h.inR.2.2 a (by rw [← hset]; exact ha)⟩
  · intro k hk; have := h.lt k hk; simpa using this
end
end Go.Proofs.Ytfinpgkehjbcpaa
/- Chapter 02: contracts of the reference's setters. -/
namespace Go.Proofs.Ytfinpgkehjbcpaa
open Go.ChangeShapes Go.WideShapes Go.ChangeAt Go.RowKit Go.Deep Go.Joins Go.Maps
set_option linter.unusedVariables false
set_option linter.unusedSimpArgs false

set_option maxRecDepth 100000 in
set_option maxHeartbeats 8000000 in
theorem rsetClass_any {w : World} {R : Nat → Prop} {r : Nat} {m : Hp} {lv : Value} {fv : Nat → Value} (h : RM w R r m lv fv) (a c : Int) (hc : InI c) : Calls Try.prog 29 #[.pointer (some ⟨r, 0, none⟩), .int .i64 a, .int .i64 c] w (fun e w' => e = .returned (.int .i64 (setClassV m a c).2) ∧ RM w' R r (setClassV m a c).1 lv fv ∧ Turns R w w') := by
  obtain ⟨v, hv⟩ : ∃ v, plcV m.L a = v := ⟨_, rfl⟩
  have HPL := Lib.hid hv
  have H := Lib.hid h
  cases his : isV m.L a
  · have d0 : decide (v < 0) = true := decide_eq_true (by rw [← hv]; exact plcV_neg.2 his)
    have HV : Hid (setClassV m a c = (m, 1)) := by show _ = _; unfold setClassV; rw [his]; rfl
    rw [HV.out]
    clear his hv h hc
    go_enter Try.func29, Try.ntmps29
    go_wp2_with (go_at_call 65; (with_reducible refine (rplace_any H.out a).mono ?_); rw [HPL.out]; rintro e w1 ⟨rfl, hw1⟩; replace hw1 := hw1.symm; subst hw1)
    go_ret
    exact ⟨rfl, H.out, Turns.refl _ _⟩
  · obtain ⟨vc, hvc⟩ : ∃ vc, plcV m.L c = vc := ⟨_, rfl⟩
    have HPC := Lib.hid hvc
    obtain ⟨k, hk, hp, hae, hat0, hlo⟩ := atN_yes his
    clear hae hat0
    obtain rfl : v = (k : Int) := by rw [← hv]; unfold plcV; rw [hp]
    have c2 := h.c2
    obtain ⟨A, ca, hlv, hca, hobj⟩ := h.list
    obtain ⟨g, hA, o0, o1, o2, o3⟩ := hobj k hk
    subst hA
    have hlen := len_bd h.good
    obtain ⟨nl, hnl⟩ : ∃ nl, m.L.length = nl := ⟨_, rfl⟩
    have hkl : k < nl := by rw [← hnl]; exact hk
    have HLV := Lib.hid hlv
    rw [hlv, hnl] at c2
    rw [hnl] at hlen hca
    have g0 : (0 : Int) ≤ (k : Int) := by omega
    have g1 : (k : Int) < (nl : Int) := by omega
    have d0 : decide ((k : Int) < 0) = false := decide_eq_false (by omega)
    have hfr : ∀ q, w.frozen? ⟨g, q, none⟩ = false := fun q => by
      obtain ⟨cur, hh⟩ := own_block_of h.own (k := g) (by rw [hlv]; rfl)
      simp [World.frozen?, hh]
    have hRg : R g := h.inR.2.1 g (by rw [hlv]; rfl)
    by_cases c00 : c = 0
    · have f0 : (c != 0) = false := by simpa using c00
      have f1 : (c == 0) = true := by simpa using c00
      have HV : Hid (setClassV m a c = ({ m with L := m.L.set k ⟨c, m.L[k].fmt, m.L[k].hash, m.L[k].F⟩ }, 0)) := by show _ = _; unfold setClassV; rw [his, if_pos rfl, if_pos (.inl c00), updL_yes hp hk]
      rw [HV.out]
      have hg : Good { m with L := m.L.set k ⟨c, m.L[k].fmt, m.L[k].hash, m.L[k].F⟩ } := h.good.set hk rfl (show 0 ≤ m.L[k].fmt ∧ m.L[k].fmt ≤ 2 from h.good.fmt _ (List.getElem_mem hk)) (by have := h.good.word _ (List.getElem_mem hk); exact ⟨hc, this.2.1, this.2.2⟩)
      have HST := Lib.hid (h.store (k := 0) (x := c) hlv hk (by omega) (o' := ⟨c, m.L[k].fmt, m.L[k].hash, m.L[k].F⟩) (fun j hj => by
        match j, hj with
        | 0, _ => rfl
        | 1, _ => simp [objF, List.getD_eq_getElem?_getD, List.getElem?_eq_getElem hk]
        | 2, _ => simp [objF, List.getD_eq_getElem?_getD, List.getElem?_eq_getElem hk]
        | 3, _ => rfl) rfl hg)
      have fq := hfr (k * 4 + 0)
      rw [Nat.add_zero] at fq
      clear h his hv hp hlo hobj hlv hnl hfr hg hvc hc
      (try clear hic)
      (try clear c00)
      go_enter Try.func29, Try.ntmps29
      go_wp2_with (go_at_call 65; first | ((with_reducible refine (rplace_any H.out a).mono ?_); rw [HPL.out]; rintro e w1 ⟨rfl, hw1⟩; replace hw1 := hw1.symm; subst hw1) | ((with_reducible refine (rplace_any H.out c).mono ?_); rw [HPC.out]; rintro e w1 ⟨rfl, hw1⟩; replace hw1 := hw1.symm; subst hw1))
      go_ret
      exact ⟨rfl, HST.out, (Turns.refl _ _).setCell _ _ hRg⟩
    · have f0 : (c != 0) = true := by simpa using c00
      have f1 : (c == 0) = false := by simpa using c00
      cases hic : isV m.L c
      · have d3 : decide (vc < 0) = true := decide_eq_true (by rw [← hvc]; exact plcV_neg.2 hic)
        have HV : Hid (setClassV m a c = (m, 1)) := by
          show _ = _; unfold setClassV; rw [his, if_pos rfl, if_neg]
          rintro (h1 | h1)
          · exact c00 h1
          · rw [hic] at h1; cases h1
        rw [HV.out]
        have hca' : ((k : Int) == vc) = false ∨ True := .inr trivial
        clear h his hv hp hlo hobj hlv hnl hfr hic hvc c00 hc hca'
        go_enter Try.func29, Try.ntmps29
        go_wp2_with (go_at_call 65; first | ((with_reducible refine (rplace_any H.out a).mono ?_); rw [HPL.out]; rintro e w1 ⟨rfl, hw1⟩; replace hw1 := hw1.symm; subst hw1) | ((with_reducible refine (rplace_any H.out c).mono ?_); rw [HPC.out]; rintro e w1 ⟨rfl, hw1⟩; replace hw1 := hw1.symm; subst hw1))
        go_ret
        exact ⟨rfl, H.out, Turns.refl _ _⟩
      · have d3 : decide (vc < 0) = false := decide_eq_false (by
          rcases Int.lt_or_le vc 0 with h1 | h1
          · rw [← hvc] at h1; rw [plcV_neg.1 h1] at hic; cases hic
          · omega)
        have HV : Hid (setClassV m a c = ({ m with L := m.L.set k ⟨c, m.L[k].fmt, m.L[k].hash, m.L[k].F⟩ }, 0)) := by show _ = _; unfold setClassV; rw [his, if_pos rfl, if_pos (.inr hic), updL_yes hp hk]
        rw [HV.out]
        have hg : Good { m with L := m.L.set k ⟨c, m.L[k].fmt, m.L[k].hash, m.L[k].F⟩ } := h.good.set hk rfl (show 0 ≤ m.L[k].fmt ∧ m.L[k].fmt ≤ 2 from h.good.fmt _ (List.getElem_mem hk)) (by have := h.good.word _ (List.getElem_mem hk); exact ⟨hc, this.2.1, this.2.2⟩)
        have HST := Lib.hid (h.store (k := 0) (x := c) hlv hk (by omega) (o' := ⟨c, m.L[k].fmt, m.L[k].hash, m.L[k].F⟩) (fun j hj => by
          match j, hj with
          | 0, _ => rfl
          | 1, _ => simp [objF, List.getD_eq_getElem?_getD, List.getElem?_eq_getElem hk]
          | 2, _ => simp [objF, List.getD_eq_getElem?_getD, List.getElem?_eq_getElem hk]
          | 3, _ => rfl) rfl hg)
        have fq := hfr (k * 4 + 0)
        rw [Nat.add_zero] at fq
        clear h his hv hp hlo hobj hlv hnl hfr hg hvc hc
        (try clear hic)
        (try clear c00)
        go_enter Try.func29, Try.ntmps29
        go_wp2_with (go_at_call 65; first | ((with_reducible refine (rplace_any H.out a).mono ?_); rw [HPL.out]; rintro e w1 ⟨rfl, hw1⟩; replace hw1 := hw1.symm; subst hw1) | ((with_reducible refine (rplace_any H.out c).mono ?_); rw [HPC.out]; rintro e w1 ⟨rfl, hw1⟩; replace hw1 := hw1.symm; subst hw1))
        go_ret
        exact ⟨rfl, HST.out, (Turns.refl _ _).setCell _ _ hRg⟩

set_option maxRecDepth 100000 in
set_option maxHeartbeats 8000000 in
theorem rput_any {w : World} {R : Nat → Prop} {r : Nat} {m : Hp} {lv : Value} {fv : Nat → Value} (h : RM w R r m lv fv) (a i x : Int) (hi : InI i) (hx : InI x) : Calls Try.prog 31 #[.pointer (some ⟨r, 0, none⟩), .int .i64 a, .int .i64 i, .int .i64 x] w (fun e w' => e = .returned (.int .i64 (putV m a i x).2) ∧ RM w' R r (putV m a i x).1 lv fv ∧ Turns R w w') := by
  obtain ⟨v, hv⟩ : ∃ v, plcV m.L a = v := ⟨_, rfl⟩
  have HPL := Lib.hid hv
  have H := Lib.hid h
  cases his : isV m.L a
  · have d0 : decide (v < 0) = true := decide_eq_true (by rw [← hv]; exact plcV_neg.2 his)
    have HV : Hid (putV m a i x = (m, 1)) := by show _ = _; unfold putV; rw [his]; rfl
    rw [HV.out]
    clear his hv h hx hi
    go_enter Try.func31, Try.ntmps31
    go_wp2_with (go_at_call 65; (with_reducible refine (rplace_any H.out a).mono ?_); rw [HPL.out]; rintro e w1 ⟨rfl, hw1⟩; replace hw1 := hw1.symm; subst hw1)
    go_ret
    exact ⟨rfl, H.out, Turns.refl _ _⟩
  obtain ⟨k, hk, hp, hae, hat0, hlo⟩ := atN_yes his
  clear hae hat0
  obtain rfl : v = (k : Int) := by rw [← hv]; unfold plcV; rw [hp]
  have c2 := h.c2
  obtain ⟨A, ca, hlv, hca, hobj⟩ := h.list
  obtain ⟨g, hA, o0, o1, o2, o3⟩ := hobj k hk
  subst hA
  have hlen := len_bd h.good
  obtain ⟨nl, hnl⟩ : ∃ nl, m.L.length = nl := ⟨_, rfl⟩
  have hkl : k < nl := by rw [← hnl]; exact hk
  have HLV := Lib.hid hlv
  rw [hlv, hnl] at c2
  rw [hnl] at hlen hca
  have g0 : (0 : Int) ≤ (k : Int) := by omega
  have g1 : (k : Int) < (nl : Int) := by omega
  have d0 : decide ((k : Int) < 0) = false := decide_eq_false (by omega)
  have hfr : ∀ q, w.frozen? ⟨g, q, none⟩ = false := fun q => by
    obtain ⟨cur, hh⟩ := own_block_of h.own (k := g) (by rw [hlv]; rfl)
    simp [World.frozen?, hh]
  have hRg : R g := h.inR.2.1 g (by rw [hlv]; rfl)
  obtain ⟨FA, fc, hfv, hfc, hfj⟩ := h.field hk
  have hfl := h.good.len _ (List.getElem_mem hk)
  obtain ⟨nf, hnf⟩ : ∃ nf, m.L[k].F.length = nf := ⟨_, rfl⟩
  rw [hfv, hnf] at o3
  by_cases c1 : i < 0
  · have d1 : decide (i < 0) = true := decide_eq_true c1
    have HV : Hid (putV m a i x = (m, 5)) := by show _ = _; unfold putV; rw [his, if_pos rfl, if_pos (.inl c1)]
    rw [HV.out]
    clear h hfv hfc hfj his hv hp hlo hobj hlv hnl hfr hi hx hnf hfl
    go_enter Try.func31, Try.ntmps31
    go_wp2_with (go_at_call 65; (with_reducible refine (rplace_any H.out a).mono ?_); rw [HPL.out]; rintro e w1 ⟨rfl, hw1⟩; replace hw1 := hw1.symm; subst hw1)
    go_ret
    exact ⟨rfl, H.out, Turns.refl _ _⟩
  have d1 : decide (i < 0) = false := decide_eq_false c1
  by_cases c4 : (nf : Int) ≤ i
  · have d4 : decide ((nf : Int) ≤ i) = true := decide_eq_true c4
    have HV : Hid (putV m a i x = (m, 5)) := by show _ = _; unfold putV; rw [his, if_pos rfl, if_pos (.inr (by rw [hlo, hnf]; exact c4))]
    rw [HV.out]
    rw [hnf] at hfl
    clear h hfv hfc hfj his hv hp hlo hobj hlv hnl hfr hi hx hnf
    go_enter Try.func31, Try.ntmps31
    go_wp2_with (go_at_call 65; (with_reducible refine (rplace_any H.out a).mono ?_); rw [HPL.out]; rintro e w1 ⟨rfl, hw1⟩; replace hw1 := hw1.symm; subst hw1)
    go_ret
    exact ⟨rfl, H.out, Turns.refl _ _⟩
  obtain ⟨j, rfl⟩ : ∃ j : Nat, i = (j : Int) := ⟨i.toNat, by omega⟩
  have d4 : decide ((nf : Int) ≤ (j : Int)) = false := decide_eq_false c4
  have d5 : decide (nf ≤ j) = false := decide_eq_false (by omega)
  have hj : j < m.L[k].F.length := by omega
  obtain ⟨gf, hFA, cf, hff⟩ := hfj j hj
  subst hFA
  have hRf : R gf := h.inR.2.2 k hk gf (by rw [hfv]; rfl)
  obtain ⟨f, hf⟩ : ∃ f, m.L[k].fmt = f := ⟨_, rfl⟩
  obtain ⟨b, hb⟩ : ∃ b, badW m.L m.L[k] x = b := ⟨_, rfl⟩
  have HB : Hid (((f == 0) && !mayV m.L x || (f == 2) && (decide (x < 0) || decide (255 < x))) = b) := by show _ = _; rw [← hb, ← hf]; rfl
  have hno : ¬ ((j : Int) < 0 ∨ ((lookO m.L a).F.length : Int) ≤ (j : Int)) := by rw [hlo, hnf]; omega
  have HBAD : Hid (b = true → putV m a (j : Int) x = (m, 6)) := fun e => by unfold putV; rw [his, if_pos rfl, if_neg hno, hlo, hb, e]; rfl
  have HGOOD : Hid (b = false → ∃ m', putV m a (j : Int) x = (m', 0) ∧ RM (w.setCell ⟨gf, j, none⟩ (.int .i64 x)) R r m' lv fv) := fun e => by
    refine ⟨{ m with L := m.L.set k ⟨m.L[k].cls, m.L[k].fmt, m.L[k].hash, m.L[k].F.set j x⟩ }, ?_, ?_⟩
    · unfold putV; rw [his, if_pos rfl, if_neg hno, hlo, hb, e, if_neg (by simp), updL_yes hp hk, Int.toNat_natCast]
    · have hg : Good { m with L := m.L.set k ⟨m.L[k].cls, m.L[k].fmt, m.L[k].hash, m.L[k].F.set j x⟩ } := h.good.set hk (by simp) (show 0 ≤ m.L[k].fmt ∧ m.L[k].fmt ≤ 2 from h.good.fmt _ (List.getElem_mem hk)) (by
        have := h.good.word _ (List.getElem_mem hk)
        refine ⟨this.1, this.2.1, fun y hy => ?_⟩
        rcases List.mem_or_eq_of_mem_set hy with h1 | rfl
        · exact this.2.2 y h1
        · exact hx)
      exact h.storeF hk hj hfv hg
  rw [hf] at o1
  rw [hnf] at hfl
  have g2 : (0 : Int) ≤ (j : Int) := by omega
  have g3 : (j : Int) < (nf : Int) := by omega
  obtain ⟨y, hy⟩ : ∃ y, m.L[k].F.getD j 0 = y := ⟨_, rfl⟩
  rw [hy] at cf
  have hmy : ∃ my, mayV m.L x = my := ⟨_, rfl⟩
  obtain ⟨my, hmy⟩ := hmy
  have HMY := Lib.hid hmy
  have HB2 : Hid (((f == 0) && !my || (f == 2) && (decide (x < 0) || decide (255 < x))) = b) := by show _ = _; rw [← hmy]; exact HB.out
  clear h hfv hfc hfj his hv hp hlo hobj hlv hnl hfr hi hx hnf hf hb hno hy hmy HB hj c1 c4
  by_cases f0 : f = 0
  · subst f0
    cases my
    · have hbt : b = true := by rw [← HB2.out]; rfl
      rw [HBAD.out hbt]
      clear hbt
      go_enter Try.func31, Try.ntmps31
      go_wp2_with (first | (go_at_call 65; (with_reducible refine (rplace_any H.out a).mono ?_); rw [HPL.out]; rintro e w1 ⟨rfl, hw1⟩; replace hw1 := hw1.symm; subst hw1) | (go_at_call 45; (with_reducible refine (rmay_any H.out x).mono ?_); rw [HMY.out]; rintro e w1 ⟨rfl, hw1⟩; replace hw1 := hw1.symm; subst hw1))
      go_ret
      exact ⟨rfl, H.out, Turns.refl _ _⟩
    · have hbt : b = false := by rw [← HB2.out]; rfl
      obtain ⟨m', hpv, hst⟩ := HGOOD.out hbt
      have HST := Lib.hid hst
      rw [hpv]
      clear hpv hst
      clear hbt
      go_enter Try.func31, Try.ntmps31
      go_wp2_with (first | (go_at_call 65; (with_reducible refine (rplace_any H.out a).mono ?_); rw [HPL.out]; rintro e w1 ⟨rfl, hw1⟩; replace hw1 := hw1.symm; subst hw1) | (go_at_call 45; (with_reducible refine (rmay_any H.out x).mono ?_); rw [HMY.out]; rintro e w1 ⟨rfl, hw1⟩; replace hw1 := hw1.symm; subst hw1))
      go_ret
      exact ⟨rfl, HST.out, (Turns.refl _ _).setCell _ _ hRf⟩
  have n0 : (f == 0) = false := by simpa using f0
  by_cases f2 : f = 2
  · subst f2
    by_cases x1 : x < 0
    · have e1 : decide (x < 0) = true := decide_eq_true x1
      have hbt : b = true := by rw [← HB2.out, e1]; rfl
      rw [HBAD.out hbt]
      clear hbt
      go_enter Try.func31, Try.ntmps31
      go_wp2_with (first | (go_at_call 65; (with_reducible refine (rplace_any H.out a).mono ?_); rw [HPL.out]; rintro e w1 ⟨rfl, hw1⟩; replace hw1 := hw1.symm; subst hw1) | (go_at_call 45; (with_reducible refine (rmay_any H.out x).mono ?_); rw [HMY.out]; rintro e w1 ⟨rfl, hw1⟩; replace hw1 := hw1.symm; subst hw1))
      go_ret
      exact ⟨rfl, H.out, Turns.refl _ _⟩
    · have e1 : decide (x < 0) = false := decide_eq_false x1
      by_cases x2 : 255 < x
      · have e2 : decide (255 < x) = true := decide_eq_true x2
        have hbt : b = true := by rw [← HB2.out, e1, e2]; rfl
        rw [HBAD.out hbt]
        clear hbt
        go_enter Try.func31, Try.ntmps31
        go_wp2_with (first | (go_at_call 65; (with_reducible refine (rplace_any H.out a).mono ?_); rw [HPL.out]; rintro e w1 ⟨rfl, hw1⟩; replace hw1 := hw1.symm; subst hw1) | (go_at_call 45; (with_reducible refine (rmay_any H.out x).mono ?_); rw [HMY.out]; rintro e w1 ⟨rfl, hw1⟩; replace hw1 := hw1.symm; subst hw1))
        go_ret
        exact ⟨rfl, H.out, Turns.refl _ _⟩
      · have e2 : decide (255 < x) = false := decide_eq_false x2
        have hbt : b = false := by rw [← HB2.out, e1, e2]; rfl
        obtain ⟨m', hpv, hst⟩ := HGOOD.out hbt
        have HST := Lib.hid hst
        rw [hpv]
        clear hpv hst
        clear hbt
        go_enter Try.func31, Try.ntmps31
        go_wp2_with (first | (go_at_call 65; (with_reducible refine (rplace_any H.out a).mono ?_); rw [HPL.out]; rintro e w1 ⟨rfl, hw1⟩; replace hw1 := hw1.symm; subst hw1) | (go_at_call 45; (with_reducible refine (rmay_any H.out x).mono ?_); rw [HMY.out]; rintro e w1 ⟨rfl, hw1⟩; replace hw1 := hw1.symm; subst hw1))
        go_ret
        exact ⟨rfl, HST.out, (Turns.refl _ _).setCell _ _ hRf⟩
  · have n2 : (f == 2) = false := by simpa using f2
    have hbt : b = false := by rw [← HB2.out, n0, n2]; rfl
    obtain ⟨m', hpv, hst⟩ := HGOOD.out hbt
    have HST := Lib.hid hst
    rw [hpv]
    clear hpv hst
    clear hbt
    go_enter Try.func31, Try.ntmps31
    go_wp2_with (first | (go_at_call 65; (with_reducible refine (rplace_any H.out a).mono ?_); rw [HPL.out]; rintro e w1 ⟨rfl, hw1⟩; replace hw1 := hw1.symm; subst hw1) | (go_at_call 45; (with_reducible refine (rmay_any H.out x).mono ?_); rw [HMY.out]; rintro e w1 ⟨rfl, hw1⟩; replace hw1 := hw1.symm; subst hw1))
    go_ret
    exact ⟨rfl, HST.out, (Turns.refl _ _).setCell _ _ hRf⟩
end Go.Proofs.Ytfinpgkehjbcpaa
