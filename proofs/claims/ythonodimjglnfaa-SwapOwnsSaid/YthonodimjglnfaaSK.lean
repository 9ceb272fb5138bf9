/- Chapter 04: plain halves of the laws. -/
import Derived.Test.YthonodimjglnfaaSG
import Derived.Test.YthonodimjglnfaaSF
namespace Go.Proofs.Ythonodimjglnfaa
set_option linter.unusedVariables false
set_option linter.unusedSimpArgs false
theorem isV_congr {L K : List Ob} (h : L.map (fun o => o.F.length) = K.map (fun o => o.F.length)) (x : Int) : isV L x = isV K x := by
  have hl : L.length = K.length := by have := congrArg List.length h; simpa using this
  have hp : ∀ i, ptr L i = ptr K i := fun i => by unfold ptr; rw [adr_congr h i]
  cases hk : isV K x
  · cases hx : isV L x
    · rfl
    · obtain ⟨i, hi, e⟩ := isV_iff.1 hx
      rw [isV_iff.2 ⟨i, by omega, by rw [← hp i]; exact e⟩] at hk; cases hk
  · obtain ⟨i, hi, e⟩ := isV_iff.1 hk
    exact isV_iff.2 ⟨i, by omega, by rw [hp i]; exact e⟩
theorem lens_turn (f : Int → Int) (L : List Ob) : (L.map (turnO f)).map (fun o => o.F.length) = L.map (fun o => o.F.length) := by
  rw [List.map_map]
  exact List.map_congr_left (fun o _ => turnO_len _ o)
theorem isV_turn (f : Int → Int) (L : List Ob) (x : Int) : isV (L.map (turnO f)) x = isV L x := isV_congr (lens_turn f L) x
theorem mayV_turn (f : Int → Int) (L : List Ob) (x : Int) : mayV (L.map (turnO f)) x = mayV L x := by unfold mayV; rw [isV_turn]
theorem ptrs_turn (f : Int → Int) (L : List Ob) : ptrs (L.map (turnO f)) = ptrs L := by
  unfold ptrs
  rw [List.length_map]
  refine List.map_congr_left (fun i _ => ?_)
  unfold ptr; rw [adr_congr (lens_turn f L) i]
theorem keepOk_turn (f : Int → Int) (L : List Ob) (l : List Int) : keepOk (L.map (turnO f)) l = keepOk L l := by
  unfold keepOk
  have : isV (L.map (turnO f)) = isV L := funext (isV_turn f L)
  rw [this]
theorem turn_ok {m : Hp} {fr tl : List Int} (hl : fr.length = tl.length) (hk : keepOk m.L fr = true) (ht : tl.all (isV m.L) = true) : turnV m fr tl = ({ m with L := m.L.map (turnO (sbV fr tl)) }, 0) := by
  unfold keepOk at hk
  simp only [Bool.and_eq_true] at hk
  unfold turnV turnOk
  rw [if_pos (by simp [hl, hk.1, hk.2, ht])]
theorem sw_in {m : Hp} {fr tl rs : List Int} (ht : ∀ x, x ∈ tl → InI x) (hr : ∀ x, x ∈ rs → InI x) : ∀ x, x ∈ (swV m fr tl rs).2.1 → InI x := by
  intro x hx
  unfold swV at hx
  split at hx
  · dsimp only at hx
    split at hx
    · obtain ⟨z, hz, rfl⟩ := List.mem_map.1 hx
      unfold sbV
      cases hf : findN fr z with
      | none => exact hr z hz
      | some k =>
        dsimp only
        rw [List.getD_eq_getElem?_getD]
        cases hk : tl[k]? with
        | none => exact inI_of (by decide) (by decide)
        | some y => exact ht y (List.mem_of_getElem? hk)
    · cases hx
  · cases hx
theorem both_in {m : Hp} {a b rs : List Int} (ha : ∀ x, x ∈ a → InI x) (hb : ∀ x, x ∈ b → InI x) (hr : ∀ x, x ∈ rs → InI x) : ∀ x, x ∈ (bothV m a b rs).2.1 → InI x := by
  intro x hx
  unfold bothV at hx
  split at hx
  · exact sw_in (fun y hy => (List.mem_append.1 hy).elim (hb y) (ha y)) hr x hx
  · cases hx
theorem one_in {m : Hp} {fr tl rs : List Int} (ht : ∀ x, x ∈ tl → InI x) (hr : ∀ x, x ∈ rs → InI x) : ∀ x, x ∈ (oneV m fr tl rs).2.1 → InI x := by
  intro x hx
  unfold oneV at hx
  split at hx
  · exact sw_in ht hr x hx
  · cases hx
theorem nodup_ne {l : List Int} (h : l.Nodup) {i j : Nat} (hi : i < l.length) (hj : j < l.length) (hij : i ≠ j) : l[i] ≠ l[j] := by
  have hp := List.pairwise_iff_getElem.1 h
  rcases Nat.lt_or_ge i j with q | q
  · exact hp i j hi hj q
  · exact fun e => hp j i hj hi (by omega) e.symm
theorem find_nodup {l : List Int} (h : l.Nodup) {k : Nat} (hk : k < l.length) : findN l l[k] = some k :=
  findN_first hk rfl (fun j hj => nodup_ne h (by omega) hk (by omega))
theorem sb_at {fr tl : List Int} (h : fr.Nodup) (hl : fr.length = tl.length) {k : Nat} (hk : k < fr.length) : sbV fr tl fr[k] = tl[k]'(by omega) := by
  rw [sbV_some (find_nodup h hk), List.getD_eq_getElem?_getD, List.getElem?_eq_getElem (by omega)]
  rfl
/-- what became one another twice is as it was -/
theorem sb_back {a b : List Int} (hl : a.length = b.length) (hd : (a ++ b).Nodup) (z : Int) : sbV (a ++ b) (b ++ a) (sbV (a ++ b) (b ++ a) z) = z := by
  have hll : (a ++ b).length = (b ++ a).length := by simp; omega
  by_cases hz : z ∈ a ++ b
  · obtain ⟨k, hk, rfl⟩ := List.mem_iff_getElem.1 hz
    rw [sb_at hd hll hk]
    have hkn : k < a.length + b.length := by simpa using hk
    rcases Nat.lt_or_ge k a.length with q | q
    · have e1 : (b ++ a)[k]'(by omega) = (a ++ b)[k + a.length]'(by simp; omega) := by
        rw [List.getElem_append_left (by omega), List.getElem_append_right (by omega)]
        simp
      rw [e1, sb_at hd hll (by simp; omega)]
      rw [List.getElem_append_right (by omega), List.getElem_append_left q]
      simp [← hl]
    · have e1 : (b ++ a)[k]'(by omega) = (a ++ b)[k - a.length]'(by simp; omega) := by
        rw [List.getElem_append_right (by omega), List.getElem_append_left (by omega)]
        simp [← hl]
      rw [e1, sb_at hd hll (by simp; omega)]
      rw [List.getElem_append_left (by omega), List.getElem_append_right q]
  · rw [sbV_none hz, sbV_none hz]
theorem turnO_back {f : Int → Int} (hf : ∀ z, f (f z) = z) (o : Ob) : turnO f (turnO f o) = o := by
  unfold turnO
  by_cases h : o.fmt = 0
  · simp only [h, if_pos, hf, List.map_map]
    have : (f ∘ f) = id := funext hf
    rw [this, List.map_id]
    obtain ⟨a, b, c, d⟩ := o
    simp at h
    subst h; rfl
  · simp only [if_neg h, hf]
theorem sw_len (m : Hp) (fr tl rs : List Int) : (swV m fr tl rs).2.1.length ≤ rs.length := by
  unfold swV
  split
  · dsimp only
    split
    · simp
    · simp
  · simp
theorem both_len (m : Hp) (a b rs : List Int) : (bothV m a b rs).2.1.length ≤ rs.length := by
  unfold bothV
  split
  · exact sw_len _ _ _ _
  · simp
theorem one_len (m : Hp) (a b rs : List Int) : (oneV m a b rs).2.1.length ≤ rs.length := by
  unfold oneV
  split
  · exact sw_len _ _ _ _
  · simp
/-- a swap that is not refused -/
theorem both_yes {m : Hp} {a b rs : List Int} (h : (bothV m a b rs).2.2 = 0) : a.length = b.length ∧ a.length ≤ 64 ∧ keepOk m.L (a ++ b) = true ∧ rs.all (mayV m.L) = true ∧ bothV m a b rs = ({ m with L := m.L.map (turnO (sbV (a ++ b) (b ++ a))) }, rs.map (sbV (a ++ b) (b ++ a)), 0) := by
  unfold bothV at h ⊢
  by_cases hc : a.length = b.length ∧ a.length ≤ 64 ∧ keepOk m.L (a ++ b) = true
  · rw [if_pos hc] at h ⊢
    have ht : (b ++ a).all (isV m.L) = true := by
      have := hc.2.2
      unfold keepOk at this
      simp only [Bool.and_eq_true, List.all_append] at this
      rw [List.all_append, this.1.1, this.1.2]; rfl
    have hT := turn_ok (m := m) (fr := a ++ b) (tl := b ++ a) (by simp; omega) hc.2.2 ht
    unfold swV at h ⊢
    by_cases hm : rs.all (mayV m.L) = true
    · rw [if_pos hm] at h ⊢
      rw [hT] at h ⊢
      exact ⟨hc.1, hc.2.1, hc.2.2, hm, by simp⟩
    · rw [if_neg hm] at h; cases h
  · rw [if_neg hc] at h; cases h
theorem both_err {m : Hp} {a b rs : List Int} (h : (bothV m a b rs).2.2 ≠ 0) : (bothV m a b rs).1 = m := by
  unfold bothV at h ⊢
  by_cases hc : a.length = b.length ∧ a.length ≤ 64 ∧ keepOk m.L (a ++ b) = true
  · rw [if_pos hc] at h ⊢
    unfold swV at h ⊢
    by_cases hm : rs.all (mayV m.L) = true
    · rw [if_pos hm] at h ⊢
      dsimp only at h ⊢
      unfold turnV at h ⊢
      split
      · rename_i hk
        rw [if_pos hk] at h
        exact absurd rfl h
      · rfl
    · rw [if_neg hm]
  · rw [if_neg hc]
theorem both_twice {m : Hp} {a b rs : List Int} (h : (bothV m a b rs).2.2 = 0) : bothV (bothV m a b rs).1 a b (bothV m a b rs).2.1 = (m, rs, 0) := by
  obtain ⟨h1, h2, h3, h4, h5⟩ := both_yes h
  rw [h5]
  dsimp only
  have hd : (a ++ b).Nodup := by
    have := h3
    unfold keepOk at this
    simp only [Bool.and_eq_true] at this
    exact distinct_iff.1 this.2
  have hval : ∀ x, x ∈ b ++ a → isV m.L x = true := by
    have := h3
    unfold keepOk at this
    simp only [Bool.and_eq_true, List.all_append] at this
    intro x hx
    rcases List.mem_append.1 hx with q | q
    · exact List.all_eq_true.1 this.1.2 x q
    · exact List.all_eq_true.1 this.1.1 x q
  have hb := sb_back h1 hd
  have hmay : (rs.map (sbV (a ++ b) (b ++ a))).all (mayV (m.L.map (turnO (sbV (a ++ b) (b ++ a))))) = true := by
    refine List.all_eq_true.2 (fun y hy => ?_)
    obtain ⟨x, hx, rfl⟩ := List.mem_map.1 hy
    rw [mayV_turn]
    by_cases hz : x ∈ a ++ b
    · obtain ⟨k, hk, rfl⟩ := List.mem_iff_getElem.1 hz
      rw [sb_at hd (by simp; omega) hk]
      have := hval _ (List.getElem_mem (show k < (b ++ a).length by simp at hk ⊢; omega))
      unfold mayV
      rw [this]; simp
    · rw [sbV_none hz]; exact List.all_eq_true.1 h4 x hx
  have hT := turn_ok (m := { m with L := m.L.map (turnO (sbV (a ++ b) (b ++ a))) }) (fr := a ++ b) (tl := b ++ a) (by simp; omega) (by rw [keepOk_turn]; exact h3) (List.all_eq_true.2 (fun x hx => by rw [isV_turn]; exact hval x hx))
  have hL : (m.L.map (turnO (sbV (a ++ b) (b ++ a)))).map (turnO (sbV (a ++ b) (b ++ a))) = m.L := by
    rw [List.map_map]
    conv => rhs; rw [← List.map_id m.L]
    exact List.map_congr_left (fun o _ => turnO_back hb o)
  have hR : (rs.map (sbV (a ++ b) (b ++ a))).map (sbV (a ++ b) (b ++ a)) = rs := by
    rw [List.map_map]
    conv => rhs; rw [← List.map_id rs]
    exact List.map_congr_left (fun x _ => hb x)
  unfold bothV
  rw [if_pos ⟨h1, h2, by rw [keepOk_turn]; exact h3⟩]
  unfold swV
  rw [if_pos hmay, hT]
  dsimp only
  rw [hL, hR]
  rfl
/-- one object, turned -/
theorem look_turn (f : Int → Int) {L : List Ob} {x : Int} (h : isV L x = true) : lookO (L.map (turnO f)) x = turnO f (lookO L x) := by
  obtain ⟨i, hi, hp, e0, _, e⟩ := atN_yes h
  have hpt : ptr (L.map (turnO f)) i = x := by unfold ptr; rw [adr_congr (lens_turn f L) i, e0]; rfl
  have hi' : i < (L.map (turnO f)).length := by simpa using hi
  have hq : plc (L.map (turnO f)) x = some i := by rw [← hpt]; exact plc_at hi'
  rw [e]
  unfold lookO
  rw [hq]
  simp [List.getD_eq_getElem?_getD, hi]
theorem mem_ptrs {L : List Ob} {x : Int} : x ∈ ptrs L ↔ isV L x = true := by
  unfold ptrs
  constructor
  · intro h
    obtain ⟨i, hi, rfl⟩ := List.mem_map.1 h
    exact isV_iff.2 ⟨i, List.mem_range.1 hi, rfl⟩
  · intro h
    obtain ⟨i, hi, rfl⟩ := isV_iff.1 h
    exact List.mem_map.2 ⟨i, List.mem_range.2 hi, rfl⟩
/-- what points to x behind a turn pointed to y ahead, where f z is x just where z is y -/
theorem pt_turn {m : Hp} {f : Int → Int} {x y : Int} (hf : ∀ z, f z = x ↔ z = y) {o : Int} (ho : isV m.L o = true) : ptP { m with L := m.L.map (turnO f) } x o = ptP m y o := by
  unfold ptP
  dsimp only
  rw [look_turn f ho]
  obtain ⟨c, fm, h, F⟩ := lookO m.L o
  unfold turnO
  dsimp only
  have hc : (f c == x) = (c == y) := by rw [Bool.eq_iff_iff]; simp [hf]
  rw [hc]
  by_cases h0 : fm = 0
  · rw [if_pos h0]
    have : (F.map f).contains x = F.contains y := by
      rw [Bool.eq_iff_iff, List.contains_iff_mem, List.contains_iff_mem, List.mem_map]
      constructor
      · rintro ⟨z, hz, e⟩
        rw [(hf z).1 e] at hz; exact hz
      · intro hz
        exact ⟨y, hz, (hf y).2 rfl⟩
    rw [this]
  · have : (fm == 0) = false := by simpa using h0
    rw [this]; simp
end Go.Proofs.Ythonodimjglnfaa
