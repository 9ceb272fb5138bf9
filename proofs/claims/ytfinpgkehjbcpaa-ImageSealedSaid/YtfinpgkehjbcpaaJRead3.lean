/- Chapter 05, plain: what the reference reads, whole, comes to what the program reads. -/
import Derived.Test.YtfinpgkehjbcpaaJRead
import Derived.Test.YtfinpgkehjbcpaaIQ
import Derived.Test.YtfinpgkehjbcpaaIParse
namespace Go.Proofs.Ytfinpgkehjbcpaa
set_option linter.unusedVariables false
set_option linter.unusedSimpArgs false
theorem tObP_len (ps : List Int) (ts : List Tng) : LenT (ts.map (tObP ps)) ts := by
  unfold LenT; rw [List.map_map]; apply List.map_congr_left; intro t _
  show (if t.fmt = 0 then t.F.map (realP ps) else t.F).length = _
  split <;> simp
theorem ptrs_P (ps : List Int) (ts : List Tng) : ptrs (ts.map (tObP ps)) = ptsT ts := by
  unfold ptrs ptsT
  rw [List.length_map]
  apply List.map_congr_left
  intro i _
  exact ptr_T (tObP_len ps ts) i
theorem realP_T {ts : List Tng} {x : Int} (h : wOk ts.length x) : realP (ptsT ts) x = realI ts x := by
  unfold realP realI
  split
  · rfl
  · split
    · rfl
    · have hk := h.2.2.2 (by omega) (by omega)
      rw [List.getD_eq_getElem?_getD, List.getElem?_eq_getElem (by rw [ptsT_len]; exact hk)]
      exact ptsT_at (by rw [ptsT_len]; exact hk)
theorem tOb_P {ts : List Tng} {t : Tng} (h : TOk ts.length t) : tObP (ptsT ts) t = tOb ts t := by
  unfold tObP tOb tF
  rw [realP_T h.cls]
  congr 1
  split
  · rename_i e
    apply List.map_congr_left
    intro x hx
    exact realP_T (h.wrd e x hx)
  · rfl
theorem bld_P {ts : List Tng} (h : ∀ t, t ∈ ts → TOk ts.length t) : ts.map (tObP (ptsT ts)) = bldL ts := by
  unfold bldL
  apply List.map_congr_left
  intro t ht
  exact tOb_P (h t ht)
theorem ws_P {ts : List Tng} {ws : List Int} (h : ∀ y, y ∈ ws → wOk ts.length y) : ws.map (realP (ptsT ts)) = ws.map (realI ts) := by
  apply List.map_congr_left
  intro y hy
  exact realP_T (h y hy)
theorem fldN_fst (n f : Nat) (σ : RdS) : (fldN n f σ).1 = (fldR f σ).1 := by
  unfold fldN fldR
  split
  · rfl
  · split <;> rfl
theorem wrdN_fwd {n : Nat} {σ : RdS} {l' : List Int} (h : (wrdN n σ).2 = some l') : wrdR σ = wrdN n σ ∧ oddV n ((wrdR σ).1 : Int) = false := by
  have h1 := mustR_some (b := !oddV n ((wrdR σ).1 : Int)) (σ := (wrdR σ).2) h
  have h2 : oddV n ((wrdR σ).1 : Int) = false := by simpa using h1.1
  exact ⟨Prod.ext rfl (h1.2.trans h.symm), h2⟩
theorem wrdN_bwd {n : Nat} {σ : RdS} (h : oddV n ((wrdR σ).1 : Int) = false) : wrdN n σ = wrdR σ := by
  unfold wrdN
  rw [h]
  rfl
theorem fldN_fwd {n f : Nat} {σ : RdS} {l' : List Int} (h : (fldN n f σ).2 = some l') : fldR f σ = fldN n f σ ∧ (f = 0 → oddV n (fldR f σ).1 = false) := by
  unfold fldN at h ⊢
  unfold fldR
  by_cases h1 : f = 1
  · rw [if_pos h1] at h ⊢; rw [if_pos h1]; exact ⟨rfl, fun e => by omega⟩
  · rw [if_neg h1] at h ⊢; rw [if_neg h1]
    by_cases h2 : f = 2
    · rw [if_pos h2] at h ⊢; rw [if_pos h2]; exact ⟨rfl, fun e => by omega⟩
    · rw [if_neg h2] at h ⊢; rw [if_neg h2]
      obtain ⟨e1, e2⟩ := wrdN_fwd (n := n) (σ := σ) h
      exact ⟨by rw [← e1], fun _ => e2⟩
theorem fldN_bwd {n f : Nat} {σ : RdS} (hf : f ≤ 2) (h : f = 0 → oddV n (fldR f σ).1 = false) : fldN n f σ = fldR f σ := by
  unfold fldN
  by_cases h1 : f = 1
  · rw [if_pos h1]; unfold fldR; rw [if_pos h1]
  · by_cases h2 : f = 2
    · rw [if_neg h1, if_pos h2]; unfold fldR; rw [if_neg h1, if_pos h2]
    · have h0 := h (by omega)
      unfold fldR at h0
      rw [if_neg h1, if_neg h2] at h0
      rw [if_neg h1, if_neg h2]
      unfold fldR
      rw [if_neg h1, if_neg h2, wrdN_bwd h0]
theorem fldsN_fwd {n f : Nat} : ∀ (k : Nat) {σ : RdS} {l' : List Int}, (fldsN n f k σ).2 = some l' → fldsR f k σ = fldsN n f k σ ∧ (f = 0 → ∀ x, x ∈ (fldsR f k σ).1 → oddV n x = false)
  | 0, σ, l', h => ⟨rfl, fun _ x hx => absurd hx (by simp [fldsR])⟩
  | k + 1, none, l', h => by cases h
  | k + 1, some l, l', h => by
    have h' : (fldsN n f k (fldN n f (some l)).2).2 = some l' := h
    cases hs : (fldN n f (some l)).2 with
    | none => rw [hs] at h'; cases k <;> cases h'
    | some l1 =>
      obtain ⟨e1, o1⟩ := fldN_fwd hs
      have ih := fldsN_fwd k h'
      rw [hs] at h' ih
      have es : (fldR f (some l)).2 = some l1 := by rw [e1]; exact hs
      have eR : fldsR f (k + 1) (some l) = ((fldR f (some l)).1 :: (fldsR f k (some l1)).1, (fldsR f k (some l1)).2) := by
        show (_ :: (fldsR f k (fldR f (some l)).2).1, (fldsR f k (fldR f (some l)).2).2) = _
        rw [es]
      have eN : fldsN n f (k + 1) (some l) = ((fldN n f (some l)).1 :: (fldsN n f k (some l1)).1, (fldsN n f k (some l1)).2) := by
        show (_ :: (fldsN n f k (fldN n f (some l)).2).1, (fldsN n f k (fldN n f (some l)).2).2) = _
        rw [hs]
      refine ⟨by rw [eR, eN, ih.1, fldN_fst], fun e x hx => ?_⟩
      rw [eR] at hx
      rcases List.mem_cons.1 hx with rfl | q
      · exact o1 e
      · exact ih.2 e x q
theorem fldsN_bwd {n f : Nat} (hf : f ≤ 2) : ∀ (k : Nat) {σ : RdS}, (f = 0 → ∀ x, x ∈ (fldsR f k σ).1 → oddV n x = false) → fldsN n f k σ = fldsR f k σ
  | 0, σ, _ => rfl
  | k + 1, none, _ => rfl
  | k + 1, some l, h => by
    have eR : fldsR f (k + 1) (some l) = ((fldR f (some l)).1 :: (fldsR f k (fldR f (some l)).2).1, (fldsR f k (fldR f (some l)).2).2) := rfl
    have e1 := fldN_bwd (n := n) (σ := some l) hf (fun e => h e _ (by rw [eR]; exact List.mem_cons_self ..))
    have ih := fldsN_bwd hf k (σ := (fldR f (some l)).2) (fun e x hx => h e x (by rw [eR]; exact List.mem_cons_of_mem _ hx))
    show ((fldN n f (some l)).1 :: (fldsN n f k (fldN n f (some l)).2).1, (fldsN n f k (fldN n f (some l)).2).2) = _
    rw [eR, e1, ih]
theorem fit_iff {n : Nat} {t : Tng} : fitT n t = true ↔ oddV n (t.cls : Int) = false ∧ (t.fmt = 0 → ∀ x, x ∈ t.F → oddV n x = false) := by
  unfold fitT
  cases h1 : oddV n (t.cls : Int) with
  | true => simp
  | false =>
    by_cases h2 : t.fmt = 0
    · rw [decide_eq_true (show (t.fmt : Int) = 0 by omega)]
      simp only [Bool.false_or, Bool.true_and, Bool.not_eq_true', true_and, List.any_eq_false, h2, true_implies]
      exact ⟨fun h x hx => by simpa using h x hx, fun h x hx => by simpa using h x hx⟩
    · rw [decide_eq_false (show ¬ (t.fmt : Int) = 0 by omega)]
      simp [h2]
theorem objN_fwd {m : Nat} {σ : RdS} {l' : List Int} (h : (objN m σ).2 = some l') : objR σ = objN m σ ∧ fitT m (objR σ).1 = true := by
  unfold objN at h ⊢
  unfold objR
  simp only at h ⊢
  obtain ⟨e1, o1⟩ := fldsN_fwd _ h
  have h5 : (mustR (okC (wrdN m (numR (cntR 256 (cntR 2 σ).2).2).2).1) (mustR (okH (numR (cntR 256 (cntR 2 σ).2).2).1) (wrdN m (numR (cntR 256 (cntR 2 σ).2).2).2).2)) ≠ none ∨ (cntR 256 (cntR 2 σ).2).1 = 0 := by
    cases hq : (cntR 256 (cntR 2 σ).2).1 with
    | zero => exact .inr rfl
    | succ k =>
      refine .inl (fun e => ?_)
      rw [hq, e] at h
      cases h
  have hw : ∃ l4, (wrdN m (numR (cntR 256 (cntR 2 σ).2).2).2).2 = some l4 := by
    cases hx : (wrdN m (numR (cntR 256 (cntR 2 σ).2).2).2).2 with
    | some l4 => exact ⟨l4, rfl⟩
    | none =>
      rw [hx, show ∀ b, mustR b (none : RdS) = none from fun b => by cases b <;> rfl, show ∀ b, mustR b (none : RdS) = none from fun b => by cases b <;> rfl] at h
      cases hq : (cntR 256 (cntR 2 σ).2).1 with
      | zero => rw [hq] at h; cases h
      | succ k => rw [hq] at h; cases h
  obtain ⟨l4, hw⟩ := hw
  obtain ⟨w1, w2⟩ := wrdN_fwd hw
  rw [w1] at w2
  rw [w1, e1]
  refine ⟨rfl, fit_iff.2 ⟨w2, fun e x hx => ?_⟩⟩
  rw [e1] at o1
  exact o1 e x hx
theorem objN_bwd {m : Nat} {σ : RdS} (h : fitT m (objR σ).1 = true) : objN m σ = objR σ := by
  obtain ⟨h1, h2⟩ := fit_iff.1 h
  have h1' : oddV m ((wrdR (numR (cntR 256 (cntR 2 σ).2).2).2).1 : Int) = false := h1
  have e1 := wrdN_bwd h1'
  unfold objN objR
  simp only
  rw [e1, fldsN_bwd (cntR_le 2 σ) _ h2]
theorem objsN_fwd {m : Nat} : ∀ (k : Nat) {σ : RdS} {l' : List Int}, (objsN m k σ).2 = some l' → objsR k σ = objsN m k σ ∧ ∀ t, t ∈ (objsR k σ).1 → fitT m t = true
  | 0, σ, l', h => ⟨rfl, fun t ht => absurd ht (by simp [objsR])⟩
  | k + 1, none, l', h => by cases h
  | k + 1, some l, l', h => by
    have h' : (objsN m k (objN m (some l)).2).2 = some l' := h
    cases hs : (objN m (some l)).2 with
    | none => rw [hs] at h'; cases k <;> cases h'
    | some l1 =>
      obtain ⟨e1, o1⟩ := objN_fwd hs
      have ih := objsN_fwd k h'
      have eR : objsR (k + 1) (some l) = ((objR (some l)).1 :: (objsR k (objR (some l)).2).1, (objsR k (objR (some l)).2).2) := rfl
      have eN : objsN m (k + 1) (some l) = ((objN m (some l)).1 :: (objsN m k (objN m (some l)).2).1, (objsN m k (objN m (some l)).2).2) := rfl
      refine ⟨by rw [eR, eN, e1, ih.1], fun t ht => ?_⟩
      rw [eR, e1] at ht
      rcases List.mem_cons.1 ht with rfl | q
      · rw [← e1]; exact o1
      · exact ih.2 t q
theorem objsN_bwd {m : Nat} : ∀ (k : Nat) {σ : RdS}, (∀ t, t ∈ (objsR k σ).1 → fitT m t = true) → objsN m k σ = objsR k σ
  | 0, σ, _ => rfl
  | k + 1, none, _ => rfl
  | k + 1, some l, h => by
    have eR : objsR (k + 1) (some l) = ((objR (some l)).1 :: (objsR k (objR (some l)).2).1, (objsR k (objR (some l)).2).2) := rfl
    have e1 := objN_bwd (m := m) (σ := some l) (h _ (by rw [eR]; exact List.mem_cons_self ..))
    have ih := objsN_bwd (m := m) k (σ := (objR (some l)).2) (fun t ht => h t (by rw [eR]; exact List.mem_cons_of_mem _ ht))
    show ((objN m (some l)).1 :: (objsN m k (objN m (some l)).2).1, (objsN m k (objN m (some l)).2).2) = _
    rw [eR, e1, ih]
theorem wrdsN_fwd {m : Nat} : ∀ (k : Nat) {σ : RdS} {l' : List Int}, (wrdsN m k σ).2 = some l' → wrdsR k σ = wrdsN m k σ ∧ ∀ y, y ∈ (wrdsR k σ).1 → oddV m y = false
  | 0, σ, l', h => ⟨rfl, fun t ht => absurd ht (by simp [wrdsR])⟩
  | k + 1, none, l', h => by cases h
  | k + 1, some l, l', h => by
    have h' : (wrdsN m k (wrdN m (some l)).2).2 = some l' := h
    cases hs : (wrdN m (some l)).2 with
    | none => rw [hs] at h'; cases k <;> cases h'
    | some l1 =>
      obtain ⟨e1, o1⟩ := wrdN_fwd hs
      have ih := wrdsN_fwd k h'
      have eR : wrdsR (k + 1) (some l) = (((wrdR (some l)).1 : Int) :: (wrdsR k (wrdR (some l)).2).1, (wrdsR k (wrdR (some l)).2).2) := rfl
      have eN : wrdsN m (k + 1) (some l) = (((wrdN m (some l)).1 : Int) :: (wrdsN m k (wrdN m (some l)).2).1, (wrdsN m k (wrdN m (some l)).2).2) := rfl
      refine ⟨by rw [eR, eN, e1, ih.1], fun t ht => ?_⟩
      rw [eR, e1] at ht
      rcases List.mem_cons.1 ht with rfl | q
      · rw [← e1]; exact o1
      · exact ih.2 t q
theorem wrdsN_bwd {m : Nat} : ∀ (k : Nat) {σ : RdS}, (∀ y, y ∈ (wrdsR k σ).1 → oddV m y = false) → wrdsN m k σ = wrdsR k σ
  | 0, σ, _ => rfl
  | k + 1, none, _ => rfl
  | k + 1, some l, h => by
    have eR : wrdsR (k + 1) (some l) = (((wrdR (some l)).1 : Int) :: (wrdsR k (wrdR (some l)).2).1, (wrdsR k (wrdR (some l)).2).2) := rfl
    have e1 := wrdN_bwd (n := m) (σ := some l) (h _ (by rw [eR]; exact List.mem_cons_self ..))
    have ih := wrdsN_bwd (m := m) k (σ := (wrdR (some l)).2) (fun t ht => h t (by rw [eR]; exact List.mem_cons_of_mem _ ht))
    show (((wrdN m (some l)).1 : Int) :: (wrdsN m k (wrdN m (some l)).2).1, (wrdsN m k (wrdN m (some l)).2).2) = _
    rw [eR, e1, ih]
theorem wrdsN_none {m k : Nat} {σ : RdS} {l' : List Int} (h : (wrdsN m k σ).2 = some l') : σ ≠ none := fun e => by subst e; cases k <;> cases h
/-- what the reference reads, part by part -/
def rO (l : List Int) : List Tng × RdS := objsN (parseC l).1 (parseC l).1 (parseC l).2
def rK (l : List Int) : Nat × RdS := cntR 4000 (rO l).2
def rW (l : List Int) : List Int × RdS := wrdsN (parseC l).1 (rK l).1 (rK l).2
theorem must_le {a b : Nat} (h : a ≤ b) (σ : RdS) : mustR (decide (a ≤ b)) σ = σ := by rw [decide_eq_true h]; rfl
theorem rd_ok {l : List Int} (h1 : (parseC l).1 ≤ (parseA l).1) (h2 : (rW l).2 = some []) : parse l = some ⟨(parseA l).1, (rO l).1, (rW l).1⟩ ∧ (rO l).1.length = (parseC l).1 := by
  have h3 := wrdsN_none (m := (parseC l).1) (k := (rK l).1) (σ := (rK l).2) h2
  obtain ⟨w1, w2⟩ := wrdsN_fwd (m := (parseC l).1) (rK l).1 (σ := (rK l).2) h2
  cases ho : (rO l).2 with
  | none => exfalso; apply h3; unfold rK; rw [ho]; rfl
  | some lo =>
    obtain ⟨o1, o2⟩ := objsN_fwd (m := (parseC l).1) (parseC l).1 (σ := (parseC l).2) ho
    have eO : parseO l = rO l := by unfold parseO; rw [must_le h1, o1]; rfl
    have eK : parseK l = rK l := by unfold parseK rK; rw [eO]
    have eW : parseW l = rW l := by unfold parseW; rw [eK, w1]; rfl
    have ho' : (objsR (parseC l).1 (parseC l).2).2 = some lo := by rw [o1]; exact ho
    obtain ⟨_, _, hlen, _⟩ := objsR_some _ ho'
    have hl : (rO l).1.length = (parseC l).1 := by
      have : (rO l).1 = (objsR (parseC l).1 (parseC l).2).1 := by rw [o1]; rfl
      rw [this]; exact hlen
    refine ⟨?_, hl⟩
    have hfit : fitsV (rO l).1 (rW l).1 = true := by
      unfold fitsV
      rw [hl, Bool.and_eq_true]
      refine ⟨?_, ?_⟩
      · rw [List.all_eq_true]
        intro t ht
        exact o2 t (by rw [o1]; exact ht)
      · have : (rW l).1.any (oddV (parseC l).1) = false := by
          rw [List.any_eq_false]
          intro y hy
          have hy' : y ∈ (wrdsR (rK l).1 (rK l).2).1 := by rw [w1]; exact hy
          simp [w2 y hy']
        simp [this]
    unfold parse
    rw [eW, eO, if_pos ⟨h2, hfit⟩]
theorem rd_back {l : List Int} {x : Img} (h : parse l = some x) : (parseC l).2 ≠ none ∧ (parseC l).1 ≤ (parseA l).1 ∧ (parseC l).1 ≤ l.length ∧ (rW l).2 = some [] := by
  unfold parse at h
  split at h
  · rename_i hq
    obtain ⟨h1, h2⟩ := hq
    obtain ⟨lk, e1, k1, k2, ⟨p1, k3⟩, k4⟩ := wrdsR_some (parseK l).1 (σ := (parseK l).2) h1
    cases ho : (parseO l).2 with
    | none =>
      exfalso
      have : (cntR 4000 (parseO l).2).2 = some lk := e1
      rw [ho] at this; cases this
    | some lo =>
      obtain ⟨lc, e3, n1, n2, ⟨p3, n3⟩, n4⟩ := objsR_some (parseC l).1 (σ := mustR (decide ((parseC l).1 ≤ (parseA l).1)) (parseC l).2) ho
      obtain ⟨o1, o2⟩ := mustR_some e3
      have hle := of_decide_eq_true o1
      have hlen : (parseO l).1.length = (parseC l).1 := n1
      have hlc : lc.length ≤ l.length := by
        cases ha : (parseA l).2 with
        | none =>
          exfalso
          have : (cntR 1099511627776 (parseA l).2).2 = some lc := o2
          rw [ha] at this; cases this
        | some la =>
          have e4 : (cntR 1099511627776 (some la)).2 = some lc := by rw [← ha]; exact o2
          obtain ⟨⟨p4, r1⟩, r2, r3, _⟩ := cntR_isB e4
          have e5 : (cntR 1099511627776 (some l)).2 = some la := ha
          obtain ⟨⟨p5, t1⟩, t2, t3, _⟩ := cntR_isB e5
          omega
      unfold fitsV at h2
      rw [hlen, Bool.and_eq_true, List.all_eq_true] at h2
      have eP : parseO l = objsR (parseC l).1 (parseC l).2 := by unfold parseO; rw [must_le hle]
      have eO : rO l = parseO l := by
        unfold rO
        rw [eP]
        exact objsN_bwd _ (fun t ht => h2.1 t (by rw [eP]; exact ht))
      have eK : rK l = parseK l := by unfold parseK rK; rw [eO]
      have h3 : (parseW l).1.any (oddV (parseC l).1) = false := by simpa using h2.2
      rw [List.any_eq_false] at h3
      have eW : rW l = parseW l := by
        unfold rW
        rw [eK]
        exact wrdsN_bwd _ (fun y hy => by simpa using h3 y hy)
      exact ⟨by rw [o2]; simp, hle, by omega, by rw [eW]; exact h1⟩
  · cases h
/-- what is refused -/
theorem rd_no {l : List Int} {bl : Nat} (hb : l.length ≤ bl) (h : ¬ ((parseC l).2 ≠ none ∧ (parseC l).1 ≤ (parseA l).1 ∧ (parseC l).1 ≤ bl ∧ (rW l).2 = some [])) : parse l = none := by
  cases hp : parse l with
  | none => rfl
  | some x =>
    obtain ⟨a, b, c, d⟩ := rd_back hp
    exact absurd ⟨a, b, by omega, d⟩ h
theorem good_bld {ts : List Tng} {size : Int} {made : Nat} (ht : ∀ t, t ∈ ts → TOk ts.length t) (hm : made ≤ 1099511627776) (hs : okN size = true) (hf : ((3 + szT ts : Nat) : Int) ≤ size) : Good ⟨size.toNat, made, bldL ts⟩ := by
  obtain ⟨h1, h2⟩ := okN_iff.1 hs
  have hst : szT ts ≤ 131072 := by omega
  have key : ∀ x, wOk ts.length x → -9223372036854775808 ≤ realI ts x ∧ realI ts x ≤ 9223372036854775807 := fun x hx => by
    rcases real_cases hx with ⟨e, q⟩ | q | ⟨j, hj, e⟩
    · rw [e]; omega
    · unfold isSmallV at q
      have := of_decide_eq_true q
      omega
    · rw [e]
      unfold ptT
      have := szT_take_le ts j
      omega
  have hmem : ∀ o, o ∈ bldL ts → ∃ t, t ∈ ts ∧ tOb ts t = o := fun o ho => by
    unfold bldL at ho
    exact List.mem_map.1 ho
  refine ⟨by show 16 ≤ size.toNat; omega, by show size.toNat ≤ 131072; omega, hm, ?_, fun o ho => ?_, fun o ho => ?_, fun o ho => ?_⟩
  · show 3 + szs (bldL ts) ≤ size.toNat
    rw [szs_T (bld_len ts)]
    omega
  · obtain ⟨t, h3, rfl⟩ := hmem o ho
    have := (ht t h3).fmt
    show (0 : Int) ≤ (t.fmt : Int) ∧ (t.fmt : Int) ≤ 2
    omega
  · obtain ⟨t, h3, rfl⟩ := hmem o ho
    show (tF ts t).length ≤ 256
    rw [tF_len]
    exact (ht t h3).len
  · obtain ⟨t, h3, rfl⟩ := hmem o ho
    refine ⟨key _ (ht t h3).cls, (ht t h3).hash, fun x hx => ?_⟩
    have hx' : x ∈ tF ts t := hx
    unfold tF at hx'
    split at hx'
    · rename_i e
      obtain ⟨y, hy, rfl⟩ := List.mem_map.1 hx'
      exact key y ((ht t h3).wrd e y hy)
    · rename_i e
      have := (ht t h3).fmt
      rcases (show t.fmt = 1 ∨ t.fmt = 2 by omega) with q | q
      · have := of_decide_eq_true ((ht t h3).num q x hx'); omega
      · have := (ht t h3).byt q x hx'; omega
end Go.Proofs.Ytfinpgkehjbcpaa
