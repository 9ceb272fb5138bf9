/- Chapter 02: what stays true of a memory, whatever is done: plain mathematics. -/
import Derived.Test.YtpifodfckjphiaaLS
namespace Go.Proofs.Ytpifodfckjphiaa
set_option linter.unusedVariables false
set_option linter.unusedSimpArgs false
theorem isV_congr {L K : List Ob} (h : L.map (fun o => o.F.length) = K.map (fun o => o.F.length)) (x : Int) : isV L x = isV K x := by
  have hl : L.length = K.length := by have := congrArg List.length h; simpa using this
  have hp : ∀ i, ptr L i = ptr K i := fun i => by unfold ptr; rw [adr_congr h i]
  cases hk : isV K x
  · cases hx : isV L x
    · rfl
    · obtain ⟨i, hi, e⟩ := isV_iff.1 hx
      rw [isV_iff.2 ⟨i, by omega, by rw [← hp i]; exact e⟩] at hk; cases hk
  · obtain ⟨i, hi, e⟩ := isV_iff.1 hk
    exact isV_iff.2 ⟨i, by omega, by rw [hp i]; exact e⟩
theorem mayV_iff {L : List Ob} {x : Int} : mayV L x = true ↔ (x = 0 ∨ x = 2 ∨ x = 4 ∨ isSmallV x = true) ∨ isV L x = true := by
  unfold mayV
  simp only [Bool.or_eq_true, beq_iff_eq, or_assoc]
theorem not_pointer {x : Int} (h : x = 0 ∨ x = 2 ∨ x = 4 ∨ isSmallV x = true) : isPointerV x = false := by
  unfold isPointerV
  refine decide_eq_false (fun q => ?_)
  rcases h with h | h | h | h
  · omega
  · omega
  · omega
  · unfold isSmallV at h
    have := of_decide_eq_true h
    omega
/-- what stays true of the objects -/
structure Sound (L : List Ob) : Prop where
  cls : ∀ o, o ∈ L → o.cls = 0 ∨ isV L o.cls = true
  words : ∀ o, o ∈ L → o.fmt = 0 → ∀ x, x ∈ o.F → mayV L x = true
  bytes : ∀ o, o ∈ L → o.fmt = 2 → ∀ x, x ∈ o.F → 0 ≤ x ∧ x ≤ 255
theorem sound_nil : Sound [] := ⟨fun o h => absurd h (by simp), fun o h => absurd h (by simp), fun o h => absurd h (by simp)⟩
theorem may_mono {L K : List Ob} (hv : ∀ x, isV L x = true → isV K x = true) {x : Int} (h : mayV L x = true) : mayV K x = true := mayV_iff.2 ((mayV_iff.1 h).imp id (hv x))
/-- one object is another of the same length -/
theorem Sound.set {L : List Ob} (h : Sound L) {i : Nat} (hi : i < L.length) {o' : Ob} (hl : o'.F.length = L[i].F.length) (h1 : o'.cls = 0 ∨ isV L o'.cls = true) (h2 : o'.fmt = 0 → ∀ x, x ∈ o'.F → mayV L x = true) (h3 : o'.fmt = 2 → ∀ x, x ∈ o'.F → 0 ≤ x ∧ x ≤ 255) : Sound (L.set i o') := by
  have hv : ∀ x, isV (L.set i o') x = isV L x := fun x => isV_congr (set_lens hi hl) x
  have hm : ∀ x, mayV L x = true → mayV (L.set i o') x = true := fun x => may_mono (fun x q => by rw [hv]; exact q)
  refine ⟨fun o ho => ?_, fun o ho hf x hx => ?_, fun o ho hf x hx => ?_⟩
  · rw [hv]
    rcases List.mem_or_eq_of_mem_set ho with q | rfl
    · exact h.cls o q
    · exact h1
  · rcases List.mem_or_eq_of_mem_set ho with q | rfl
    · exact hm x (h.words o q hf x hx)
    · exact hm x (h2 hf x hx)
  · rcases List.mem_or_eq_of_mem_set ho with q | rfl
    · exact h.bytes o q hf x hx
    · exact h3 hf x hx
theorem isV_app {L : List Ob} {o : Ob} {x : Int} (h : isV L x = true) : isV (L ++ [o]) x = true := by
  obtain ⟨i, hi, e⟩ := isV_iff.1 h
  refine isV_iff.2 ⟨i, by simp; omega, ?_⟩
  unfold ptr at e ⊢
  rw [adr_app _ _ _ (by omega)]; exact e
theorem sound_make {m : Hp} (h : Sound m.L) (c f n : Int) : Sound (makeV m c f n).1.L := by
  unfold makeV
  split
  · exact h
  · rename_i hb
    split
    · exact h
    · have hc : c = 0 ∨ isV m.L c = true := by
        unfold badM at hb
        simp only [Bool.or_eq_true, not_or, Bool.not_eq_true', Bool.not_eq_false, decide_eq_true_eq] at hb
        exact hb.1.1.1.1
      refine ⟨fun o ho => ?_, fun o ho hf x hx => ?_, fun o ho hf x hx => ?_⟩
      · rcases List.mem_append.1 ho with q | q
        · exact (h.cls o q).imp id isV_app
        · rw [List.mem_singleton.1 q]; exact hc.imp id isV_app
      · rcases List.mem_append.1 ho with q | q
        · exact may_mono (fun x => isV_app) (h.words o q hf x hx)
        · rw [List.mem_singleton.1 q] at hx
          have := (List.mem_replicate.1 hx).2
          rw [this]; exact mayV_iff.2 (.inl (.inl rfl))
      · rcases List.mem_append.1 ho with q | q
        · exact h.bytes o q hf x hx
        · rw [List.mem_singleton.1 q] at hx
          have := (List.mem_replicate.1 hx).2
          omega
theorem sound_upd {L : List Ob} (h : Sound L) {a : Int} (ha : isV L a = true) {f : Ob → Ob} (hl : ∀ o, (f o).F.length = o.F.length)
    (h1 : ∀ o, o ∈ L → (f o).cls = 0 ∨ isV L (f o).cls = true) (h2 : (f (lookO L a)).fmt = 0 → ∀ x, x ∈ (f (lookO L a)).F → mayV L x = true) (h3 : (f (lookO L a)).fmt = 2 → ∀ x, x ∈ (f (lookO L a)).F → 0 ≤ x ∧ x ≤ 255) : Sound (updL L a f) := by
  obtain ⟨i, hi, hp, _, _, e⟩ := atN_yes ha
  rw [updL_yes hp hi]
  rw [e] at h2 h3
  exact h.set hi (hl _) (h1 _ (List.getElem_mem hi)) h2 h3
theorem look_mem {L : List Ob} {a : Int} (ha : isV L a = true) : lookO L a ∈ L := by
  obtain ⟨i, hi, hp, _, _, e⟩ := atN_yes ha
  rw [e]; exact List.getElem_mem hi
theorem sound_put {m : Hp} (h : Sound m.L) (a i x : Int) : Sound (putV m a i x).1.L := by
  unfold putV
  split
  · rename_i ha
    split
    · exact h
    · split
      · exact h
      · rename_i hb
        have hb' : badW m.L (lookO m.L a) x = false := by simpa using hb
        unfold badW at hb'
        simp only [Bool.or_eq_false_iff, Bool.and_eq_false_iff] at hb'
        refine sound_upd (f := fun o => ⟨o.cls, o.fmt, o.hash, o.F.set i.toNat x⟩) h ha (fun o => by simp) (fun o ho => h.cls o ho) (fun hf y hy => ?_) (fun hf y hy => ?_)
        · rcases List.mem_or_eq_of_mem_set hy with q | rfl
          · exact h.words _ (look_mem ha) hf y q
          · rcases hb'.1 with q | q
            · simp at q; exact absurd hf q
            · simpa using q
        · rcases List.mem_or_eq_of_mem_set hy with q | rfl
          · exact h.bytes _ (look_mem ha) hf y q
          · rcases hb'.2 with q | q
            · simp at q; exact absurd hf q
            · simp at q; omega
  · exact h
theorem sound_class {m : Hp} (h : Sound m.L) (a c : Int) : Sound (setClassV m a c).1.L := by
  unfold setClassV
  split
  · rename_i ha
    split
    · rename_i hc
      exact sound_upd (f := fun o => ⟨c, o.fmt, o.hash, o.F⟩) h ha (fun o => rfl) (fun o ho => hc) (fun hf y hy => h.words _ (look_mem ha) hf y hy) (fun hf y hy => h.bytes _ (look_mem ha) hf y hy)
    · exact h
  · exact h
theorem sound_hash {m : Hp} (h : Sound m.L) (a x : Int) : Sound (setHashV m a x).1.L := by
  unfold setHashV
  split
  · rename_i ha
    split
    · exact h
    · exact sound_upd (f := fun o => ⟨o.cls, o.fmt, x, o.F⟩) h ha (fun o => rfl) (fun o ho => h.cls o ho) (fun hf y hy => h.words _ (look_mem ha) hf y hy) (fun hf y hy => h.bytes _ (look_mem ha) hf y hy)
  · exact h
theorem sound_made {m : Hp} (h : Sound m.L) (n : Int) : Sound (setMadeV m n).1.L := by
  unfold setMadeV
  split <;> exact h
/-- the objects whose words are turned by f -/
theorem sound_map {L K : List Ob} {f : Int → Int} (hm : ∀ o, o ∈ K → ∀ x, x ∈ wordsO o → (f x = x ∧ (x = 0 ∨ x = 2 ∨ x = 4 ∨ isSmallV x = true)) ∨ isV (K.map (turnO f)) (f x) = true)
    (hc : ∀ o, o ∈ K → f o.cls = 0 ∨ isV (K.map (turnO f)) (f o.cls) = true) (hb : ∀ o, o ∈ K → o.fmt = 2 → ∀ x, x ∈ o.F → 0 ≤ x ∧ x ≤ 255) : Sound (K.map (turnO f)) := by
  refine ⟨fun o' ho => ?_, fun o' ho hf x hx => ?_, fun o' ho hf x hx => ?_⟩
  · obtain ⟨o, h1, rfl⟩ := List.mem_map.1 ho
    exact hc o h1
  · obtain ⟨o, h1, rfl⟩ := List.mem_map.1 ho
    have hf' : o.fmt = 0 := hf
    have hx' : x ∈ o.F.map f := by
      have : x ∈ (if o.fmt = 0 then o.F.map f else o.F) := hx
      rwa [if_pos hf'] at this
    obtain ⟨y, hy, rfl⟩ := List.mem_map.1 hx'
    rcases hm o h1 y (by unfold wordsO; rw [if_pos hf']; exact List.mem_cons_of_mem _ hy) with ⟨e, q⟩ | q
    · rw [e]; exact mayV_iff.2 (.inl q)
    · exact mayV_iff.2 (.inr q)
  · obtain ⟨o, h1, rfl⟩ := List.mem_map.1 ho
    have hf' : o.fmt = 2 := hf
    have hx' : x ∈ o.F := by
      have : x ∈ (if o.fmt = 0 then o.F.map f else o.F) := hx
      rwa [if_neg (by omega)] at this
    exact hb o h1 hf' x hx'
theorem sound_words {L : List Ob} (h : Sound L) {o : Ob} (ho : o ∈ L) {x : Int} (hx : x ∈ wordsO o) : (x = 0 ∨ x = 2 ∨ x = 4 ∨ isSmallV x = true) ∨ isV L x = true := by
  unfold wordsO at hx
  rcases List.mem_cons.1 hx with rfl | hx
  · exact (h.cls o ho).imp .inl id
  · by_cases hf : o.fmt = 0
    · rw [if_pos hf] at hx
      exact mayV_iff.1 (h.words o ho hf x hx)
    · rw [if_neg hf] at hx; cases hx
theorem sound_turn {m : Hp} (hg : Good m) (h : Sound m.L) (fr tl : List Int) : Sound (turnV m fr tl).1.L := by
  unfold turnV
  split
  · rename_i hok
    unfold turnOk at hok
    simp only [Bool.and_eq_true, decide_eq_true_eq] at hok
    obtain ⟨⟨⟨hlen, hfr⟩, htl⟩, _⟩ := hok
    have hlens : (m.L.map (turnO (sbV fr tl))).map (fun o => o.F.length) = m.L.map (fun o => o.F.length) := by
      rw [List.map_map]
      exact List.map_congr_left (fun o _ => turnO_len _ o)
    have hv : ∀ x, isV (m.L.map (turnO (sbV fr tl))) x = isV m.L x := fun x => isV_congr hlens x
    have key : ∀ x, isV m.L x = true → isV m.L (sbV fr tl x) = true := fun x hx => by
      unfold sbV
      cases hf : findN fr x with
      | none => exact hx
      | some k =>
        obtain ⟨h1, _⟩ := findN_some hf
        have hk : k < tl.length := by omega
        simp only [List.getD_eq_getElem?_getD, List.getElem?_eq_getElem hk, Option.getD_some]
        exact List.all_eq_true.1 htl _ (List.getElem_mem hk)
    have key2 : ∀ x, isV m.L x = false → sbV fr tl x = x := fun x hx => sbV_none (fun q => by rw [List.all_eq_true.1 hfr x q] at hx; cases hx)
    have hw : ∀ o, o ∈ m.L → ∀ x, x ∈ wordsO o → (sbV fr tl x = x ∧ (x = 0 ∨ x = 2 ∨ x = 4 ∨ isSmallV x = true)) ∨ isV (m.L.map (turnO (sbV fr tl))) (sbV fr tl x) = true := fun o ho x hx => by
      rw [hv]
      cases hx2 : isV m.L x
      · rcases sound_words h ho hx with q | q
        · exact .inl ⟨key2 x hx2, q⟩
        · rw [hx2] at q; cases q
      · exact .inr (key x hx2)
    refine sound_map (L := m.L) hw (fun o ho => ?_) (fun o ho => h.bytes o ho)
    rw [hv]
    rcases h.cls o ho with q | q
    · left
      rw [q]
      refine key2 0 ?_
      cases h0 : isV m.L 0
      · rfl
      · have := isV_pointer hg h0; cases this
    · exact .inr (key _ q)
  · exact h
theorem sound_keep {m : Hp} (hg : Good m) (h : Sound m.L) (l : List Int) : Sound (keepV m l).1.L := by
  unfold keepV
  split
  · rename_i hok
    simp only [Bool.and_eq_true] at hok
    obtain ⟨hk, hf⟩ := hok
    have hval : l.all (isV m.L) = true := by unfold keepOk at hk; simp only [Bool.and_eq_true] at hk; exact hk.1
    have hlens : ((keptTo m.L l m.L.length).map (turnO (sgm m.L l))).map (fun o => o.F.length) = (keptTo m.L l m.L.length).map (fun o => o.F.length) := by
      rw [List.map_map]
      exact List.map_congr_left (fun o _ => turnO_len _ o)
    have hv : ∀ x, isV ((keptTo m.L l m.L.length).map (turnO (sgm m.L l))) x = isV (keptTo m.L l m.L.length) x := fun x => isV_congr hlens x
    have hmem : ∀ o, o ∈ keptTo m.L l m.L.length → o ∈ m.L := fun o ho => by
      obtain ⟨i, hi, _, _, rfl⟩ := keptTo_mem (Nat.le_refl _) ho
      exact List.getElem_mem hi
    have key : ∀ x, isV m.L x = true → l.contains x = true → isV (keptTo m.L l m.L.length) (sgm m.L l x) = true := fun x hx hc => by
      obtain ⟨i, hi, rfl⟩ := isV_iff.1 hx
      rw [sgm_yes (isV_pointer hg hx), toV_at hi, if_pos (show kp m.L l i = true from hc)]
      obtain ⟨q1, q2⟩ := now_at hi hc
      exact isV_iff.2 ⟨_, q1, q2⟩
    have kx : ∀ o, o ∈ keptTo m.L l m.L.length → ∀ x, x ∈ wordsO o → (sgm m.L l x = x ∧ (x = 0 ∨ x = 2 ∨ x = 4 ∨ isSmallV x = true)) ∨ isV ((keptTo m.L l m.L.length).map (turnO (sgm m.L l))) (sgm m.L l x) = true := fun o ho x hx => by
      rw [hv]
      rcases sound_words h (hmem o ho) hx with q | q
      · exact .inl ⟨sgm_no (not_pointer q), q⟩
      · refine .inr (key x q ?_)
        have hfo := List.all_eq_true.1 (List.all_eq_true.1 hf o ho) x hx
        rw [isV_pointer hg q] at hfo
        simpa using hfo
    refine sound_map (L := m.L) kx (fun o ho => ?_) (fun o ho => h.bytes o (hmem o ho))
    rcases h.cls o (hmem o ho) with q | q
    · left; rw [q]; exact sgm_no (by decide)
    · rcases kx o ho o.cls (by simp [wordsO]) with ⟨e, z⟩ | z
      · exact absurd (isV_pointer hg q) (by rw [not_pointer z]; decide)
      · exact .inr z
  · exact h
theorem sound_step {m : Hp} (hg : Good m) (h : Sound m.L) (k0 k1 k2 k3 : Int) (la lb : List Int) : Sound (stepV m k0 k1 k2 k3 la lb).L := by
  unfold stepV
  repeat' split
  · exact sound_make h _ _ _
  · exact sound_put h _ _ _
  · exact sound_class h _ _
  · exact sound_hash h _ _
  · exact sound_made h _
  · exact sound_keep hg h _
  · exact sound_turn hg h _ _
  · exact h
/-! ### all are kept -/
theorem kp_all {L : List Ob} {i : Nat} (hi : i < L.length) : kp L (ptrs L) i = true := by
  unfold kp ptrs
  exact List.contains_iff_mem.2 (List.mem_map.2 ⟨i, List.mem_range.2 hi, rfl⟩)
theorem kept_all (L : List Ob) : ∀ k, k ≤ L.length → keptTo L (ptrs L) k = L.take k
  | 0, _ => by simp [keptTo_zero]
  | k + 1, h => by rw [keptTo_succ (show k < L.length by omega), if_pos (kp_all (by omega)), kept_all L k (by omega), List.take_succ_eq_append_getElem (by omega)]
theorem toAt_all {L : List Ob} {i : Nat} (hi : i ≤ L.length) : toAt L (ptrs L) i = ptr L i := by
  unfold toAt ptr adr
  rw [kept_all L i hi]
theorem mem_ptrs {L : List Ob} {x : Int} : x ∈ ptrs L ↔ isV L x = true := by
  unfold ptrs
  constructor
  · intro h
    obtain ⟨i, hi, rfl⟩ := List.mem_map.1 h
    exact isV_iff.2 ⟨i, List.mem_range.1 hi, rfl⟩
  · intro h
    obtain ⟨i, hi, rfl⟩ := isV_iff.1 h
    exact List.mem_map.2 ⟨i, List.mem_range.2 hi, rfl⟩
theorem toV_all {L : List Ob} {x : Int} (h : isV L x = true) : toV L (ptrs L) x = x := by
  obtain ⟨i, hi, rfl⟩ := isV_iff.1 h
  rw [toV_at hi, if_pos (kp_all hi), toAt_all (by omega)]
theorem ptrs_nodup (L : List Ob) : (ptrs L).Nodup := by
  unfold ptrs
  rw [List.nodup_iff_pairwise_ne, List.pairwise_map]
  refine (List.pairwise_lt_range).imp_of_mem ?_
  intro i j hi hj hij e
  have := ptr_inj (by have := List.mem_range.1 hi; omega) (by have := List.mem_range.1 hj; omega) e
  omega
theorem keep_all {m : Hp} (hg : Good m) (h : Sound m.L) : keepV m (ptrs m.L) = (m, ptrs m.L, 0) := by
  have h1 : keepOk m.L (ptrs m.L) = true := by
    unfold keepOk
    rw [Bool.and_eq_true]
    exact ⟨List.all_eq_true.2 (fun x hx => mem_ptrs.1 hx), distinct_iff.2 (ptrs_nodup _)⟩
  have hx : ∀ o, o ∈ m.L → ∀ x, x ∈ wordsO o → (isPointerV x = false) ∨ isV m.L x = true := fun o ho x hx => (sound_words h ho hx).imp not_pointer id
  have h2 : fitsTo m.L (ptrs m.L) m.L.length = true := by
    unfold fitsTo
    rw [kept_all _ _ (Nat.le_refl _), List.take_length]
    refine List.all_eq_true.2 (fun o ho => List.all_eq_true.2 (fun x hx' => ?_))
    rcases hx o ho x hx' with q | q
    · rw [q]; rfl
    · rw [List.contains_iff_mem.2 (mem_ptrs.2 q)]; simp
  have hs : ∀ o, o ∈ m.L → ∀ x, x ∈ wordsO o → sgm m.L (ptrs m.L) x = x := fun o ho x hx' => by
    rcases hx o ho x hx' with q | q
    · exact sgm_no q
    · rw [sgm_yes (isV_pointer hg q), toV_all q]
  have h3 : m.L.map (turnO (sgm m.L (ptrs m.L))) = m.L := by
    conv => rhs; rw [← List.map_id m.L]
    refine List.map_congr_left (fun o ho => ?_)
    show turnO _ o = o
    have e1 := hs o ho o.cls (by simp [wordsO])
    unfold turnO
    by_cases hf : o.fmt = 0
    · have e2 : o.F.map (sgm m.L (ptrs m.L)) = o.F := by
        conv => rhs; rw [← List.map_id o.F]
        exact List.map_congr_left (fun x hx' => hs o ho x (by unfold wordsO; rw [if_pos hf]; exact List.mem_cons_of_mem _ hx'))
      rw [if_pos hf, e1, e2]
    · rw [if_neg hf, e1]
  have h4 : (ptrs m.L).map (toV m.L (ptrs m.L)) = ptrs m.L := by
    conv => rhs; rw [← List.map_id (ptrs m.L)]
    exact List.map_congr_left (fun x hx' => toV_all (mem_ptrs.1 hx'))
  unfold keepV
  rw [h1, h2, kept_all _ _ (Nat.le_refl _), List.take_length, h3, h4]
  rfl
end Go.Proofs.Ytpifodfckjphiaa
