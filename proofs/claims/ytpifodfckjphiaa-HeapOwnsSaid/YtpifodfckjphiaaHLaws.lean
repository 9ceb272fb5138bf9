/- Chapter 02: plain halves of the laws. -/
import Derived.Test.YtpifodfckjphiaaHSound
namespace Go.Proofs.Ytpifodfckjphiaa
set_option linter.unusedVariables false
set_option linter.unusedSimpArgs false
theorem step_size (m : Hp) (k0 k1 k2 k3 : Int) (la lb : List Int) : (stepV m k0 k1 k2 k3 la lb).size = m.size := by
  unfold stepV makeV putV setClassV setHashV setMadeV keepV turnV
  repeat' split
  all_goals rfl
theorem look_upd {L : List Ob} {a : Int} (ha : isV L a = true) {f : Ob → Ob} (hl : ∀ o, (f o).F.length = o.F.length) : isV (updL L a f) a = true ∧ lookO (updL L a f) a = f (lookO L a) := by
  obtain ⟨i, hi, hp, e0, _, e⟩ := atN_yes ha
  rw [updL_yes hp hi, e]
  have hlen := set_lens hi (o' := f L[i]) (hl _)
  have hpt : ptr (L.set i (f L[i])) i = a := by unfold ptr; rw [adr_congr hlen, e0]; rfl
  have hi' : i < (L.set i (f L[i])).length := by simpa using hi
  have hq : plc (L.set i (f L[i])) a = some i := by rw [← hpt]; exact plc_at hi'
  constructor
  · unfold isV; rw [hq]; rfl
  · unfold lookO; rw [hq]; simp [List.getD_eq_getElem?_getD, hi]
theorem put_err {m : Hp} {a i x : Int} (h : (putV m a i x).2 ≠ 0) : (putV m a i x).1 = m := by
  unfold putV at h ⊢
  split
  · rename_i ha
    rw [if_pos ha] at h
    split
    · rfl
    · rename_i hb
      rw [if_neg hb] at h
      split
      · rfl
      · rename_i hc
        rw [if_neg hc] at h
        exact absurd rfl h
  · rfl
theorem put_get {m : Hp} {a i x : Int} (h : (putV m a i x).2 = 0) : getV (putV m a i x).1.L a i = (x, 0) := by
  unfold putV at h ⊢
  by_cases ha : isV m.L a = true
  · rw [if_pos ha] at h ⊢
    by_cases hb : i < 0 ∨ ((lookO m.L a).F.length : Int) ≤ i
    · rw [if_pos hb] at h; cases h
    · rw [if_neg hb] at h ⊢
      by_cases hc : badW m.L (lookO m.L a) x = true
      · rw [if_pos hc] at h; cases h
      · rw [if_neg hc]
        obtain ⟨q1, q2⟩ := look_upd (f := fun o => ⟨o.cls, o.fmt, o.hash, o.F.set i.toNat x⟩) ha (fun o => by simp)
        unfold getV
        dsimp only
        rw [if_pos q1, q2]
        dsimp only
        rw [if_neg (by simpa using hb)]
        have : i.toNat < (lookO m.L a).F.length := by omega
        simp [List.getD_eq_getElem?_getD, this]
  · rw [if_neg ha] at h; cases h
/-! ### turned and turned back -/
theorem turn_same {m : Hp} {x : Int} : turnV m [x, x] [x, x] = (m, 1) := by
  unfold turnV turnOk distinct
  simp
theorem swap_x (x y : Int) : sbV [x, y] [y, x] x = y := by simp [sbV, findN]
theorem swap_y {x y : Int} (h : x ≠ y) : sbV [x, y] [y, x] y = x := by simp [sbV, findN, h]
theorem swap_no {x y z : Int} (h1 : z ≠ x) (h2 : z ≠ y) : sbV [x, y] [y, x] z = z := sbV_none (by simp [h1, h2])
theorem swap_back {x y : Int} (h : x ≠ y) (z : Int) : sbV [x, y] [y, x] (sbV [x, y] [y, x] z) = z := by
  by_cases h1 : z = x
  · rw [h1, swap_x, swap_y h]
  · by_cases h2 : z = y
    · rw [h2, swap_y h, swap_x]
    · rw [swap_no h1 h2, swap_no h1 h2]
theorem turnO_back {f : Int → Int} (hf : ∀ z, f (f z) = z) (o : Ob) : turnO f (turnO f o) = o := by
  unfold turnO
  by_cases h : o.fmt = 0
  · simp only [h, if_pos, hf, List.map_map]
    have : (f ∘ f) = id := funext hf
    rw [this, List.map_id]
    obtain ⟨a, b, c, d⟩ := o
    simp at h
    subst h; rfl
  · simp only [if_neg h, hf]
theorem turn_one {m : Hp} {x y : Int} (hx : isV m.L x = true) (hy : isV m.L y = true) (h : x ≠ y) : turnV m [x, y] [y, x] = ({ m with L := m.L.map (turnO (sbV [x, y] [y, x])) }, 0) := by
  unfold turnV
  rw [if_pos]
  unfold turnOk
  simp [hx, hy, distinct, h]
theorem turn_back {m : Hp} {x y : Int} (hx : isV m.L x = true) (hy : isV m.L y = true) (h : x ≠ y) : (turnV m [x, y] [y, x]).2 = 0 ∧ turnV (turnV m [x, y] [y, x]).1 [x, y] [y, x] = (m, 0) := by
  rw [turn_one hx hy h]
  refine ⟨rfl, ?_⟩
  have hlens : (m.L.map (turnO (sbV [x, y] [y, x]))).map (fun o => o.F.length) = m.L.map (fun o => o.F.length) := by
    rw [List.map_map]
    exact List.map_congr_left (fun o _ => turnO_len _ o)
  rw [turn_one (by rw [show isV _ x = isV m.L x from isV_congr hlens x]; exact hx) (by rw [show isV _ y = isV m.L y from isV_congr hlens y]; exact hy) h]
  have : (m.L.map (turnO (sbV [x, y] [y, x]))).map (turnO (sbV [x, y] [y, x])) = m.L := by
    rw [List.map_map]
    conv => rhs; rw [← List.map_id m.L]
    exact List.map_congr_left (fun o _ => turnO_back (swap_back h) o)
  simp only [this]
/-! ### what is kept -/
theorem keep_err {m : Hp} {l : List Int} (h : (keepV m l).2.2 ≠ 0) : keepV m l = (m, [], 1) := by
  unfold keepV at h ⊢
  split
  · rename_i hk
    rw [if_pos hk] at h
    exact absurd rfl h
  · rfl
theorem adr_mono {L : List Ob} {a b : Nat} (ha : a < L.length) (hb : b < L.length) : ptr L a < ptr L b ↔ a < b := by
  unfold ptr
  constructor
  · intro h
    rcases Nat.lt_or_ge a b with q | q
    · exact q
    · rcases Nat.lt_or_ge b a with z | z
      · have := adr_lt L a b z (by omega); omega
      · obtain rfl : a = b := by omega
        omega
  · intro h
    have := adr_lt L b a h (by omega)
    omega
theorem toAt_lt {L : List Ob} {l : List Int} {a b : Nat} (ha : a < L.length) (hb : b ≤ L.length) (hy : kp L l a = true) (h : a < b) : toAt L l a < toAt L l b := by
  obtain ⟨r, hr⟩ := keptTo_pre (L := L) (l := l) b hb (a + 1) (by omega)
  rw [keptTo_succ ha, hy, if_pos rfl] at hr
  unfold toAt
  rw [hr, szs_app, szs_app]
  simp [szs]
  omega
theorem toAt_mono {L : List Ob} {l : List Int} {a b : Nat} (ha : a < L.length) (hb : b < L.length) (hya : kp L l a = true) (hyb : kp L l b = true) : toAt L l a < toAt L l b ↔ a < b := by
  constructor
  · intro h
    rcases Nat.lt_or_ge a b with q | q
    · exact q
    · rcases Nat.lt_or_ge b a with z | z
      · have := toAt_lt hb (by omega) hyb z; omega
      · obtain rfl : a = b := by omega
        omega
  · exact toAt_lt ha (by omega) hya
/-- what a Keep that is not refused comes to -/
theorem keep_yes {m : Hp} {l : List Int} (h : (keepV m l).2.2 = 0) : (keepV m l).1.made = m.made ∧ (keepV m l).2.1.length = l.length ∧ (keepV m l).1.L.length = l.length ∧
    ∀ i k (hi : i < l.length) (hk : k < l.length), (l[i] < l[k] ↔ (keepV m l).2.1.getD i 0 < (keepV m l).2.1.getD k 0) := by
  unfold keepV at h ⊢
  by_cases hok : (keepOk m.L l && fitsTo m.L l m.L.length) = true
  · rw [if_pos hok]
    simp only [Bool.and_eq_true] at hok
    obtain ⟨hk, _⟩ := hok
    unfold keepOk at hk
    simp only [Bool.and_eq_true] at hk
    obtain ⟨hv, hd⟩ := hk
    have hat : ∀ i (hi : i < l.length), ∃ a, a < m.L.length ∧ ptr m.L a = l[i] ∧ kp m.L l a = true := fun i hi => by
      obtain ⟨a, ha, e⟩ := isV_iff.1 (List.all_eq_true.1 hv _ (List.getElem_mem hi))
      exact ⟨a, ha, e, by unfold kp; rw [e]; exact List.contains_iff_mem.2 (List.getElem_mem hi)⟩
    refine ⟨rfl, by simp, ?_, fun i k hi hk => ?_⟩
    · show ((keptTo m.L l m.L.length).map _).length = _
      rw [List.length_map, ← kptr_len]
      refine List.Perm.length_eq ?_
      refine (List.perm_ext_iff_of_nodup ?_ (distinct_iff.1 hd)).2 (fun x => ⟨fun hx => ?_, fun hx => ?_⟩)
      · unfold kptr
        rw [List.nodup_iff_pairwise_ne, List.pairwise_map]
        refine ((List.pairwise_lt_range).filter _).imp_of_mem ?_
        intro i j hi hj hij e
        have h1 := List.mem_range.1 (List.mem_filter.1 hi).1
        have h2 := List.mem_range.1 (List.mem_filter.1 hj).1
        have := ptr_inj (by omega) (by omega) e
        omega
      · obtain ⟨i, _, hy, rfl⟩ := kptr_mem hx
        exact List.contains_iff_mem.1 hy
      · obtain ⟨i, hi, e⟩ := isV_iff.1 (List.all_eq_true.1 hv x hx)
        unfold kptr
        refine List.mem_map.2 ⟨i, List.mem_filter.2 ⟨List.mem_range.2 hi, ?_⟩, e⟩
        unfold kp
        rw [e]; exact List.contains_iff_mem.2 hx
    · obtain ⟨a, ha, ea, ya⟩ := hat i hi
      obtain ⟨b, hb, eb, yb⟩ := hat k hk
      have ti : (l.map (toV m.L l)).getD i 0 = toAt m.L l a := by
        simp only [List.getD_eq_getElem?_getD, List.getElem?_map, List.getElem?_eq_getElem hi, Option.map_some, Option.getD_some]
        rw [← ea, toV_at ha, if_pos ya]
      have tk : (l.map (toV m.L l)).getD k 0 = toAt m.L l b := by
        simp only [List.getD_eq_getElem?_getD, List.getElem?_map, List.getElem?_eq_getElem hk, Option.map_some, Option.getD_some]
        rw [← eb, toV_at hb, if_pos yb]
      show _ ↔ (l.map (toV m.L l)).getD i 0 < (l.map (toV m.L l)).getD k 0
      rw [ti, tk, ← ea, ← eb, adr_mono ha hb, toAt_mono ha hb ya yb]
  · rw [if_neg hok] at h; cases h
end Go.Proofs.Ytpifodfckjphiaa
