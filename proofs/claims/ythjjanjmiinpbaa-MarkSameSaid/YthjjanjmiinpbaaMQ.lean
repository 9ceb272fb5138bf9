/- Chapter 03: what a Collect leaves: plain mathematics. -/
import Derived.Test.YthjjanjmiinpbaaMG
namespace Go.Proofs.Ythjjanjmiinpbaa
set_option linter.unusedVariables false
set_option linter.unusedSimpArgs false
theorem kp_all {L : List Ob} {i : Nat} (hi : i < L.length) : kp L (ptrs L) i = true := by
  unfold kp ptrs
  exact List.contains_iff_mem.2 (List.mem_map.2 ⟨i, List.mem_range.2 hi, rfl⟩)
theorem kept_all (L : List Ob) : ∀ k, k ≤ L.length → keptTo L (ptrs L) k = L.take k
  | 0, _ => by simp [keptTo_zero]
  | k + 1, h => by rw [keptTo_succ (show k < L.length by omega), if_pos (kp_all (by omega)), kept_all L k (by omega), List.take_succ_eq_append_getElem (by omega)]
theorem toAt_all {L : List Ob} {i : Nat} (hi : i ≤ L.length) : toAt L (ptrs L) i = ptr L i := by
  unfold toAt ptr adr
  rw [kept_all L i hi]
theorem toV_all {L : List Ob} {x : Int} (h : isV L x = true) : toV L (ptrs L) x = x := by
  obtain ⟨i, hi, rfl⟩ := isV_iff.1 h
  rw [toV_at hi, if_pos (kp_all hi), toAt_all (by omega)]
theorem mayV_iff {L : List Ob} {x : Int} : mayV L x = true ↔ (x = 0 ∨ x = 2 ∨ x = 4 ∨ isSmallV x = true) ∨ isV L x = true := by
  unfold mayV
  simp only [Bool.or_eq_true, beq_iff_eq, or_assoc]
theorem not_pointer {x : Int} (h : x = 0 ∨ x = 2 ∨ x = 4 ∨ isSmallV x = true) : isPointerV x = false := by
  unfold isPointerV
  refine decide_eq_false (fun q => ?_)
  rcases h with h | h | h | h
  · omega
  · omega
  · omega
  · unfold isSmallV at h
    have := of_decide_eq_true h
    omega
theorem isV_lens {L K : List Ob} (h : L.map (fun o => o.F.length) = K.map (fun o => o.F.length)) (x : Int) : isV L x = isV K x := by
  have hl : L.length = K.length := by have := congrArg List.length h; simpa using this
  have hp : ∀ i, ptr L i = ptr K i := fun i => by unfold ptr; rw [adr_congr h i]
  cases hk : isV K x
  · cases hx : isV L x
    · rfl
    · obtain ⟨i, hi, e⟩ := isV_iff.1 hx
      rw [isV_iff.2 ⟨i, by omega, by rw [← hp i]; exact e⟩] at hk; cases hk
  · obtain ⟨i, hi, e⟩ := isV_iff.1 hk
    exact isV_iff.2 ⟨i, by omega, by rw [hp i]; exact e⟩
theorem turn_lens (f : Int → Int) (L : List Ob) : (L.map (turnO f)).map (fun o => o.F.length) = L.map (fun o => o.F.length) := by
  rw [List.map_map]
  exact List.map_congr_left (fun o _ => turnO_len _ o)
theorem ptr_turn (f : Int → Int) (L : List Ob) (i : Nat) : ptr (L.map (turnO f)) i = ptr L i := by unfold ptr; rw [adr_congr (turn_lens f L) i]
theorem words_turn (f : Int → Int) (o : Ob) : wordsO (turnO f o) = (wordsO o).map f := by
  unfold wordsO turnO
  by_cases h : o.fmt = 0
  · simp [h]
  · simp [h]
/-- each place of what is kept comes from an object that is kept -/
theorem kept_from {L : List Ob} {l : List Int} : ∀ k, k ≤ L.length → ∀ j, j < (keptTo L l k).length → ∃ i, i < k ∧ kp L l i = true ∧ (keptTo L l i).length = j
  | 0, _, j, hj => by rw [keptTo_zero] at hj; exact absurd hj (by simp)
  | k + 1, hk, j, hj => by
    rw [keptTo_succ (show k < L.length by omega)] at hj
    split at hj
    · rename_i hy
      rcases Nat.lt_or_ge j (keptTo L l k).length with q | q
      · obtain ⟨i, h1, h2, h3⟩ := kept_from k (by omega) j q
        exact ⟨i, by omega, h2, h3⟩
      · rw [List.length_append, List.length_singleton] at hj
        exact ⟨k, by omega, hy, by omega⟩
    · obtain ⟨i, h1, h2, h3⟩ := kept_from k (by omega) j hj
      exact ⟨i, by omega, h2, h3⟩
theorem kept_at {L : List Ob} {l : List Int} {i : Nat} (hi : i < L.length) (hy : kp L l i = true) : (keptTo L l L.length)[(keptTo L l i).length]'(now_at hi hy).1 = L[i] := by
  obtain ⟨r, hr⟩ := keptTo_pre (L := L) (l := l) L.length (Nat.le_refl _) (i + 1) (by omega)
  rw [keptTo_succ hi, hy, if_pos rfl] at hr
  have : (keptTo L l L.length)[(keptTo L l i).length]? = some L[i] := by
    rw [hr, List.append_assoc, List.getElem?_append_right (Nat.le_refl _), Nat.sub_self]
    rfl
  rw [List.getElem?_eq_getElem (now_at hi hy).1] at this
  exact Option.some.inj this
/-- a Collect that went well -/
structure Coll (m : Hp) (rs : List Int) (m2 : Hp) (ys : List Int) : Prop where
  may : rs.all (mayV m.L) = true
  fits : fitsTo m.L (reachL m.L rs) m.L.length = true
  mem : m2 = { m with L := (keptTo m.L (reachL m.L rs) m.L.length).map (turnO (sgm m.L (reachL m.L rs))) }
  roots : ys = rs.map (colW m.L (reachL m.L rs))
theorem coll_of {m m2 : Hp} {rs ys : List Int} (h : collectV m rs = (m2, ys, 0)) : Coll m rs m2 ys := by
  unfold collectV at h
  split at h
  · rename_i hm
    split at h
    · rename_i hk
      have hm2 := congrArg Prod.fst h
      have hys := congrArg (fun p : Hp × List Int × Int => p.2.1) h
      dsimp only at hm2 hys
      unfold keepV at hk hm2
      split at hk
      · rename_i hc
        rw [if_pos hc] at hm2
        rw [Bool.and_eq_true] at hc
        exact ⟨hm, hc.2, hm2.symm, hys.symm⟩
      · cases hk
    · exact absurd (show (1 : Int) = 0 from congrArg (fun p : Hp × List Int × Int => p.2.2) h) (by decide)
  · exact absurd (show (1 : Int) = 0 from congrArg (fun p : Hp × List Int × Int => p.2.2) h) (by decide)
section
variable {m m2 : Hp} {rs ys : List Int}
/-- a word that the walk may meet -/
def OkA (L : List Ob) (rs : List Int) (x : Int) : Prop := Rch L rs x ∨ isPointerV x = false
theorem Coll.word (c : Coll m rs m2 ys) (hg : Good m) {a x : Int} (ha : Rch m.L rs a) (hx : x ∈ kids m.L a) : OkA m.L rs x := by
  obtain ⟨i, hi, hp, e, -, hlk⟩ := atN_yes ha.valid
  have hy : kp m.L (reachL m.L rs) i = true := by unfold kp; rw [← e]; exact List.contains_iff_mem.2 (mem_reach.2 ha)
  have hmem : m.L[i] ∈ keptTo m.L (reachL m.L rs) m.L.length := by rw [← kept_at hi hy]; exact List.getElem_mem _
  have hf := List.all_eq_true.1 (List.all_eq_true.1 c.fits _ hmem) x (by unfold kids at hx; rw [hlk] at hx; exact hx)
  cases hp : isPointerV x
  · exact .inr hp
  · rw [hp] at hf
    exact .inl (mem_reach.1 (List.contains_iff_mem.1 (by simpa using hf)))
theorem Coll.root (c : Coll m rs m2 ys) {x : Int} (hx : x ∈ rs) : OkA m.L rs x := by
  rcases mayV_iff.1 (List.all_eq_true.1 c.may x hx) with q | q
  · exact .inr (not_pointer q)
  · exact .inl (.root hx q)
/-- where a word is, behind the Collect -/
theorem Coll.at_ (c : Coll m rs m2 ys) (hg : Good m) {x : Int} (h : OkA m.L rs x) : colW m.L (reachL m.L rs) x = sgm m.L (reachL m.L rs) x := by
  unfold colW
  rcases h with h | h
  · rw [List.contains_iff_mem.2 (mem_reach.2 h), if_pos rfl, sgm_yes (isV_pointer hg h.valid)]
  · have : (reachL m.L rs).contains x = false := by
      cases hc : (reachL m.L rs).contains x
      · rfl
      · rw [isV_pointer hg (mem_reach.1 (List.contains_iff_mem.1 hc)).valid] at h; cases h
    rw [this, sgm_no h]
    rfl
theorem Coll.good (c : Coll m rs m2 ys) (hg : Good m) : Good m2 := by rw [c.mem]; exact keptM_good hg _
/-- what is reached is there again, its words where they are now -/
theorem Coll.moved (c : Coll m rs m2 ys) (hg : Good m) {a : Int} (ha : Rch m.L rs a) : isV m2.L (sgm m.L (reachL m.L rs) a) = true ∧ lookO m2.L (sgm m.L (reachL m.L rs) a) = turnO (sgm m.L (reachL m.L rs)) (lookO m.L a) := by
  obtain ⟨i, hi, hp, e, -, hlk⟩ := atN_yes ha.valid
  have hy : kp m.L (reachL m.L rs) i = true := by unfold kp; rw [← e]; exact List.contains_iff_mem.2 (mem_reach.2 ha)
  obtain ⟨h1, h2⟩ := now_at hi hy
  have hs : sgm m.L (reachL m.L rs) a = ptr m2.L (keptTo m.L (reachL m.L rs) i).length := by
    rw [sgm_yes (isV_pointer hg ha.valid), e, toV_at hi, if_pos hy, c.mem]
    show _ = ptr (List.map _ _) _
    rw [ptr_turn]
    exact h2.symm
  have hlen : (keptTo m.L (reachL m.L rs) i).length < m2.L.length := by rw [c.mem]; show _ < (List.map _ _).length; rw [List.length_map]; exact h1
  have hv : isV m2.L (sgm m.L (reachL m.L rs) a) = true := isV_iff.2 ⟨_, hlen, hs.symm⟩
  refine ⟨hv, ?_⟩
  have hpl : plc m2.L (sgm m.L (reachL m.L rs) a) = some (keptTo m.L (reachL m.L rs) i).length := by rw [hs]; exact plc_at hlen
  unfold lookO
  rw [hpl, hp]
  dsimp only
  rw [List.getD_eq_getElem?_getD, List.getD_eq_getElem?_getD, List.getElem?_eq_getElem hi, Option.getD_some, c.mem]
  show (List.map _ _)[_]?.getD _ = _
  rw [List.getElem?_map, List.getElem?_eq_getElem h1, kept_at hi hy]
  rfl
theorem Coll.inj (c : Coll m rs m2 ys) (hg : Good m) {a b : Int} (ha : Rch m.L rs a) (hb : OkA m.L rs b) (h : sgm m.L (reachL m.L rs) a = sgm m.L (reachL m.L rs) b) : a = b := by
  have hpa := isV_pointer (c.good hg) (c.moved hg ha).1
  rcases hb with hb | hb
  · obtain ⟨i, hi, hp, e, -, hlk⟩ := atN_yes ha.valid
    obtain ⟨j, hj, hq, e2, -, hlk2⟩ := atN_yes hb.valid
    have hy : kp m.L (reachL m.L rs) i = true := by unfold kp; rw [← e]; exact List.contains_iff_mem.2 (mem_reach.2 ha)
    have hz : kp m.L (reachL m.L rs) j = true := by unfold kp; rw [← e2]; exact List.contains_iff_mem.2 (mem_reach.2 hb)
    rw [sgm_yes (isV_pointer hg ha.valid), sgm_yes (isV_pointer hg hb.valid), e, e2, toV_at hi, toV_at hj, if_pos hy, if_pos hz] at h
    obtain ⟨h1, h2⟩ := now_at hi hy
    obtain ⟨h3, h4⟩ := now_at hj hz
    have hl := ptr_inj (by omega) (by omega) (h2.trans (h.trans h4.symm))
    have f1 := find_kptr (L := m.L) (l := reachL m.L rs) m.L.length (Nat.le_refl _) i hi hy
    have f2 := find_kptr (L := m.L) (l := reachL m.L rs) m.L.length (Nat.le_refl _) j hj hz
    rw [hl] at f1
    obtain ⟨q1, g1, -⟩ := findN_some f1
    obtain ⟨q2, g2, -⟩ := findN_some f2
    rw [e, e2, ← g1, ← g2]
  · rw [sgm_no hb] at h
    rw [h, hb] at hpa
    cases hpa
theorem Coll.reach (c : Coll m rs m2 ys) (hg : Good m) {a : Int} (ha : Rch m.L rs a) : Rch m2.L ys (sgm m.L (reachL m.L rs) a) := by
  induction ha with
  | root hx v =>
    refine .root ?_ (c.moved hg (.root hx v)).1
    rw [c.roots, ← c.at_ hg (.inl (.root hx v))]
    exact List.mem_map.2 ⟨_, hx, rfl⟩
  | step ho hk v ih =>
    refine .step ih ?_ (c.moved hg (.step ho hk v)).1
    unfold kids
    rw [(c.moved hg ho).2, words_turn]
    exact List.mem_map.2 ⟨_, hk, rfl⟩
/-- each object that is left was reached -/
theorem Coll.from_ (c : Coll m rs m2 ys) (hg : Good m) {z : Int} (hz : isV m2.L z = true) : ∃ a, Rch m.L rs a ∧ z = sgm m.L (reachL m.L rs) a := by
  obtain ⟨j, hj, e⟩ := isV_iff.1 hz
  have hj2 : j < (keptTo m.L (reachL m.L rs) m.L.length).length := by rw [c.mem] at hj; simpa using hj
  obtain ⟨i, hi, hy, hl⟩ := kept_from m.L.length (Nat.le_refl _) j hj2
  have hr : Rch m.L rs (ptr m.L i) := mem_reach.1 (List.contains_iff_mem.1 hy)
  refine ⟨ptr m.L i, hr, ?_⟩
  rw [sgm_yes (isV_pointer hg hr.valid), toV_at hi, if_pos hy, ← (now_at hi hy).2, hl, ← e, c.mem]
  exact ptr_turn _ _ _
theorem Coll.all (c : Coll m rs m2 ys) (hg : Good m) : reachL m2.L ys = ptrs m2.L := by
  unfold reachL
  rw [List.filter_eq_self]
  intro z hz
  obtain ⟨a, ha, rfl⟩ := c.from_ hg (isV_ptrs.1 hz)
  exact decide_eq_true (c.reach hg ha)
theorem Coll.mayY (c : Coll m rs m2 ys) (hg : Good m) : ys.all (mayV m2.L) = true := by
  refine List.all_eq_true.2 (fun y hy => ?_)
  rw [c.roots] at hy
  obtain ⟨x, hx, rfl⟩ := List.mem_map.1 hy
  have hok := c.root hx
  rw [c.at_ hg hok]
  rcases mayV_iff.1 (List.all_eq_true.1 c.may x hx) with q | q
  · rw [sgm_no (not_pointer q)]
    exact mayV_iff.2 (.inl q)
  · exact mayV_iff.2 (.inr (c.moved hg (.root hx q)).1)
theorem Coll.keep (c : Coll m rs m2 ys) (hg : Good m) : keepV m2 (ptrs m2.L) = (m2, ptrs m2.L, 0) := by
  have hg2 := c.good hg
  have h1 : keepOk m2.L (ptrs m2.L) = true := by
    unfold keepOk
    rw [Bool.and_eq_true]
    exact ⟨List.all_eq_true.2 (fun x hx => isV_ptrs.1 hx), distinct_iff.2 (ptrs_nodup _)⟩
  have hx : ∀ o, o ∈ m2.L → ∀ x, x ∈ wordsO o → (isPointerV x = false) ∨ isV m2.L x = true := fun o ho x hx => by
    obtain ⟨j, hj, e⟩ := List.mem_iff_getElem.1 ho
    obtain ⟨a, ha, hz⟩ := c.from_ hg (isV_iff.2 ⟨j, hj, rfl⟩)
    have hlk : lookO m2.L (ptr m2.L j) = o := by
      unfold lookO
      rw [plc_at hj]
      dsimp only
      rw [List.getD_eq_getElem?_getD, List.getElem?_eq_getElem hj, Option.getD_some, e]
    rw [← hlk, hz, (c.moved hg ha).2, words_turn] at hx
    obtain ⟨y, hy, rfl⟩ := List.mem_map.1 hx
    rcases c.word hg ha hy with q | q
    · exact .inr (c.moved hg q).1
    · rw [sgm_no q]; exact .inl q
  have h2 : fitsTo m2.L (ptrs m2.L) m2.L.length = true := by
    unfold fitsTo
    rw [kept_all _ _ (Nat.le_refl _), List.take_length]
    refine List.all_eq_true.2 (fun o ho => List.all_eq_true.2 (fun x hx' => ?_))
    rcases hx o ho x hx' with q | q
    · rw [q]; rfl
    · rw [List.contains_iff_mem.2 (isV_ptrs.2 q)]; simp
  have hs : ∀ o, o ∈ m2.L → ∀ x, x ∈ wordsO o → sgm m2.L (ptrs m2.L) x = x := fun o ho x hx' => by
    rcases hx o ho x hx' with q | q
    · exact sgm_no q
    · rw [sgm_yes (isV_pointer hg2 q), toV_all q]
  have h3 : m2.L.map (turnO (sgm m2.L (ptrs m2.L))) = m2.L := by
    conv => rhs; rw [← List.map_id m2.L]
    refine List.map_congr_left (fun o ho => ?_)
    show turnO _ o = o
    have e0 : turnO (sgm m2.L (ptrs m2.L)) o = turnO id o := turnO_congr (hs o ho o.cls (by simp [wordsO])) (fun h0 x hx => hs o ho x (by unfold wordsO; rw [if_pos h0]; exact List.mem_cons_of_mem _ hx))
    rw [e0]
    unfold turnO
    simp
  have h4 : (ptrs m2.L).map (toV m2.L (ptrs m2.L)) = ptrs m2.L := by
    conv => rhs; rw [← List.map_id (ptrs m2.L)]
    exact List.map_congr_left (fun x hx => toV_all (isV_ptrs.1 hx))
  unfold keepV
  rw [h1, h2, kept_all _ _ (Nat.le_refl _), List.take_length, h3, h4]
  rfl
theorem Coll.reached (c : Coll m rs m2 ys) (hg : Good m) : reachedV m2 ys = (ptrs m2.L, 0) := by
  unfold reachedV
  rw [c.mayY hg, if_pos rfl, c.all hg]
/-- a second one changes nothing -/
theorem Coll.again (c : Coll m rs m2 ys) (hg : Good m) : collectV m2 ys = (m2, ys, 0) := by
  unfold collectV
  rw [c.mayY hg, if_pos rfl, c.all hg, c.keep hg, if_pos rfl]
  have : ys.map (colW m2.L (ptrs m2.L)) = ys := by
    conv => rhs; rw [← List.map_id ys]
    refine List.map_congr_left (fun y _ => ?_)
    unfold colW
    split
    · rename_i hc
      exact toV_all (isV_ptrs.1 (List.contains_iff_mem.1 hc))
    · rfl
  rw [this]
end
end Go.Proofs.Ythjjanjmiinpbaa
