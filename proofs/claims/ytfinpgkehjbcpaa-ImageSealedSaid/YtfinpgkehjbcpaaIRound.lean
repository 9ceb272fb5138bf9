/- Chapter 05, plain: there and back: what is written is read. -/
import Derived.Test.YtfinpgkehjbcpaaIParse
namespace Go.Proofs.Ytfinpgkehjbcpaa
set_option linter.unusedVariables false
set_option linter.unusedSimpArgs false
theorem dec_cnt : ∀ (k n : Nat) (l : List Int), n < 128 ^ (k + 1) → (0 < n ∨ k = 8) → decC (k + 1) (cntV n ++ l) = some (n, l)
  | k, n, l, h, h0 => by
    by_cases h1 : n < 128
    · rw [cnt_small h1]
      show decC (k + 1) ((n : Int) :: l) = _
      rw [decC_last (by omega) (by omega)]
      simp
    · rw [cnt_big h1]
      match k, h with
      | 0, h => omega
      | k + 1, h =>
        show decC (k + 1 + 1) (((n % 128 + 128 : Nat) : Int) :: (cntV (n / 128) ++ l)) = _
        rw [decC_more (by omega), dec_cnt k (n / 128) l (by rw [Nat.pow_succ] at h; omega) (by omega)]
        show some ((((n % 128 + 128 : Nat) : Int) - 128).toNat + 128 * (n / 128), l) = _
        congr 2
        omega
theorem dec9 {n : Nat} (h : n < 9223372036854775808) (l : List Int) : decC 9 (cntV n ++ l) = some (n, l) := dec_cnt 8 n l (by omega) (by omega)
theorem cntR_put {m n : Nat} (h : n ≤ m) (hm : m < 9223372036854775808) (l : List Int) : cntR m (some (cntV n ++ l)) = (n, some l) := cntR_some (dec9 (by omega) l) h
theorem numR_put {h : Int} (hh : okI h = true) (l : List Int) : numR (some (cntV (foldV h) ++ l)) = (h, some l) := by
  have hb := of_decide_eq_true hh
  have : foldV h ≤ 4611686018427387903 := by unfold foldV; split <;> omega
  unfold numR
  rw [cntR_put this (by decide)]
  show (unfV (foldV h), _) = _
  rw [unf_fold]
theorem wrdR_put {L : List Ob} {x : Int} (hL : L.length ≤ 1000000) (hx : mayV L x = true) (l : List Int) : wrdR (some (cntV (codeW L x) ++ l)) = (codeW L x, some l) := by
  have hle := codeW_le hL hx
  unfold wrdR
  rw [cntR_put (show codeW L x ≤ 4611686018427387904 by omega) (by decide)]
  have hb : badS (codeW L x) = false := by
    unfold badS
    rcases may_cases hx with hs | ⟨hs, k, hk, hp, _⟩ | ⟨hs, hp, h3⟩
    · rw [codeW_small hs]
      have hso := small_odd hs
      rw [show (3 + 2 * foldV (x / 2) - 3) / 2 = foldV (x / 2) by omega, unf_fold]
      have : (smallV (x / 2)).2 = true := by unfold smallV; rw [if_pos (by omega)]
      rw [this]; simp
    · rw [codeW_ptr hs hp, decide_eq_false (p := (4 + 2 * k) % 2 = 1) (by omega)]; simp
    · rw [codeW_low hs hp, decide_eq_false (p := 3 ≤ (x / 2).toNat) (by omega)]; rfl
  show (codeW L x, mustR (!badS (codeW L x)) (some l)) = _
  rw [hb]; rfl
def fcode (L : List Ob) (f x : Int) : Int := if f = 0 then (codeW L x : Int) else x
def tOf (L : List Ob) (o : Ob) : Tng := ⟨o.fmt.toNat, o.hash, codeW L o.cls, o.F.map (fcode L o.fmt)⟩
theorem fldR_put {L : List Ob} {f : Nat} {x : Int} (hf : f ≤ 2) (hL : L.length ≤ 1000000) (h0 : f = 0 → mayV L x = true) (h1 : f = 1 → okI x = true) (l : List Int) : fldR f (some (fldB L (f : Int) x ++ l)) = (fcode L (f : Int) x, some l) := by
  rcases (show f = 0 ∨ f = 1 ∨ f = 2 by omega) with rfl | rfl | rfl
  · show (((wrdR (some (cntV (codeW L x) ++ l))).1 : Int), (wrdR (some (cntV (codeW L x) ++ l))).2) = _
    rw [wrdR_put hL (h0 rfl)]; rfl
  · show numR (some (numB x ++ l)) = _
    unfold numB
    rw [if_pos (h1 rfl), numR_put (h1 rfl)]; rfl
  · rfl
theorem fldsR_put {L : List Ob} {f : Nat} (hf : f ≤ 2) (hL : L.length ≤ 1000000) : ∀ (F : List Int) (h0 : f = 0 → ∀ x, x ∈ F → mayV L x = true) (h1 : f = 1 → ∀ x, x ∈ F → okI x = true) (l : List Int), fldsR f F.length (some (F.flatMap (fldB L (f : Int)) ++ l)) = (F.map (fcode L (f : Int)), some l)
  | [], _, _, l => rfl
  | x :: F, h0, h1, l => by
    have e : ∀ (n : Nat) (z : List Int), fldsR f (n + 1) (some z) = ((fldR f (some z)).1 :: (fldsR f n (fldR f (some z)).2).1, (fldsR f n (fldR f (some z)).2).2) := fun _ _ => rfl
    rw [List.flatMap_cons, List.length_cons, List.append_assoc, e, fldR_put hf hL (fun q => h0 q x (by simp)) (fun q => h1 q x (by simp))]
    show (_ :: (fldsR f F.length (some (F.flatMap (fldB L (f : Int)) ++ l))).1, _) = _
    rw [fldsR_put hf hL F (fun q y hy => h0 q y (by simp [hy])) (fun q y hy => h1 q y (by simp [hy]))]
    rfl
theorem cls_okC {L : List Ob} {c : Int} (h : c = 0 ∨ isV L c = true) : okC (codeW L c) = true := by
  rcases h with rfl | h
  · have : codeW L 0 = 0 := codeW_low rfl (plc_none (fun i _ e => by have := ptr_ge L i; omega))
    rw [this]; rfl
  · obtain ⟨k, hk, rfl⟩ := isV_iff.1 h
    have hs : isSmallV (ptr L k) = false := by
      cases q : isSmallV (ptr L k)
      · rfl
      · have := small_odd q; have := ptr_even L k; omega
    rw [codeW_ptr hs (plc_at hk)]
    unfold okC
    rw [decide_eq_true (p := 4 ≤ 4 + 2 * k) (by omega), decide_eq_true (p := (4 + 2 * k) % 2 = 0) (by omega)]
    simp
theorem objR_put {m : Hp} (hG : Good m) (hS : Snd m) {o : Ob} (ho : o ∈ m.L) (hod : oddO o = false) (l : List Int) : objR (some (objB m.L o ++ l)) = (tOf m.L o, some l) := by
  have hfmt := hG.fmt o ho
  have hln := hG.len o ho
  have hw := hG.word o ho
  have hL : m.L.length ≤ 1000000 := by have := len_bd hG; omega
  have hcm : mayV m.L o.cls = true := by
    rcases hS.cls o ho with q | q
    · rw [q]; rfl
    · exact isV_may q
  obtain ⟨f, hf⟩ : ∃ f : Nat, o.fmt = (f : Int) := ⟨o.fmt.toNat, by omega⟩
  have hoi : okI o.hash = true := decide_eq_true (by omega)
  have hF := fldsR_put (L := m.L) (f := f) (by omega) hL o.F (fun q x hx => hS.wrd o ho (by omega) x hx) (fun q x hx => by
    unfold oddO at hod
    rw [List.any_eq_false] at hod
    have := hod x hx
    unfold oddF at this
    rw [hf, q] at this
    simpa using this) l
  unfold objB objR
  rw [hf, Int.toNat_natCast]
  have e1 : cntV f ++ cntV o.F.length ++ cntV (foldV o.hash) ++ cntV (codeW m.L o.cls) ++ o.F.flatMap (fldB m.L (f : Int)) ++ l = cntV f ++ (cntV o.F.length ++ (cntV (foldV o.hash) ++ (cntV (codeW m.L o.cls) ++ (o.F.flatMap (fldB m.L (f : Int)) ++ l)))) := by simp
  rw [e1, cntR_put (show f ≤ 2 by omega) (by decide)]
  simp only
  rw [cntR_put hln (by decide)]
  simp only
  rw [numR_put hoi]
  simp only
  rw [wrdR_put hL hcm]
  simp only
  have h2 : okH o.hash = true := by unfold okH; rw [decide_eq_true hw.2.1.1, decide_eq_true hw.2.1.2]; rfl
  rw [cls_okC (hS.cls o ho), h2]
  show ((⟨f, o.hash, codeW m.L o.cls, (fldsR f o.F.length (some (o.F.flatMap (fldB m.L (f : Int)) ++ l))).1⟩ : Tng), (fldsR f o.F.length (some (o.F.flatMap (fldB m.L (f : Int)) ++ l))).2) = _
  rw [hF]
  unfold tOf
  rw [hf, Int.toNat_natCast]
theorem objsR_put {m : Hp} (hG : Good m) (hS : Snd m) : ∀ (K : List Ob) (hK : ∀ o, o ∈ K → o ∈ m.L ∧ oddO o = false) (l : List Int), objsR K.length (some (K.flatMap (objB m.L) ++ l)) = (K.map (tOf m.L), some l)
  | [], _, l => rfl
  | o :: K, hK, l => by
    have e : ∀ (n : Nat) (z : List Int), objsR (n + 1) (some z) = ((objR (some z)).1 :: (objsR n (objR (some z)).2).1, (objsR n (objR (some z)).2).2) := fun _ _ => rfl
    have h1 := hK o (by simp)
    rw [List.flatMap_cons, List.length_cons, List.append_assoc, e, objR_put hG hS h1.1 h1.2]
    show (_ :: (objsR K.length (some (K.flatMap (objB m.L) ++ l))).1, _) = _
    rw [objsR_put hG hS K (fun y hy => hK y (by simp [hy]))]
    rfl
theorem wrdsR_put {L : List Ob} (hL : L.length ≤ 1000000) : ∀ (js : List Int) (hj : ∀ x, x ∈ js → mayV L x = true) (l : List Int), wrdsR js.length (some (js.flatMap (fun x => cntV (codeW L x)) ++ l)) = (js.map (fun x => (codeW L x : Int)), some l)
  | [], _, l => rfl
  | x :: js, hj, l => by
    have e : ∀ (n : Nat) (z : List Int), wrdsR (n + 1) (some z) = (((wrdR (some z)).1 : Int) :: (wrdsR n (wrdR (some z)).2).1, (wrdsR n (wrdR (some z)).2).2) := fun _ _ => rfl
    rw [List.flatMap_cons, List.length_cons, List.append_assoc, e, wrdR_put hL (hj x (by simp))]
    show (_ :: (wrdsR js.length (some (js.flatMap (fun x => cntV (codeW L x)) ++ l))).1, _) = _
    rw [wrdsR_put hL js (fun y hy => hj y (by simp [hy]))]
    rfl
end Go.Proofs.Ytfinpgkehjbcpaa
/- Chapter 05, plain: there and back, whole. -/
namespace Go.Proofs.Ytfinpgkehjbcpaa
set_option linter.unusedVariables false
set_option linter.unusedSimpArgs false
def tsOf (m : Hp) : List Tng := m.L.map (tOf m.L)
def wsOf (m : Hp) (js : List Int) : List Int := js.map (fun x => (codeW m.L x : Int))
/-- what may be written: a sound memory, words that may stand -/
structure Wr (m : Hp) (js : List Int) : Prop where
  good : Good m
  snd : Snd m
  made : m.L.length ≤ m.made
  few : js.length ≤ 4000
  may : ∀ x, x ∈ js → mayV m.L x = true
  odd : ∀ o, o ∈ m.L → oddO o = false
theorem odd_code {L : List Ob} {x : Int} (hx : mayV L x = true) : oddV L.length (codeW L x : Int) = false := by
  unfold oddV
  rcases may_cases hx with hs | ⟨hs, k, hk, hp, _⟩ | ⟨hs, hp, h3⟩
  · rw [codeW_small hs, decide_eq_false (p := ((3 + 2 * foldV (x / 2) : Nat) : Int) % 2 = 0) (by omega)]; simp
  · rw [codeW_ptr hs hp, decide_eq_false (p := (L.length : Int) ≤ (((4 + 2 * k : Nat) : Int) - 4) / 2) (by omega)]; simp
  · rw [codeW_low hs hp, decide_eq_false (p := (4 : Int) ≤ (((x / 2).toNat : Nat) : Int)) (by omega)]; rfl
theorem cls_may {m : Hp} (hS : Snd m) {o : Ob} (ho : o ∈ m.L) : mayV m.L o.cls = true := by
  rcases hS.cls o ho with q | q
  · rw [q]; rfl
  · exact isV_may q
theorem fits_put {m : Hp} {js : List Int} (h : Wr m js) : fitsV (tsOf m) (wsOf m js) = true := by
  unfold fitsV tsOf wsOf
  rw [List.length_map]
  have h1 : (m.L.map (tOf m.L)).all (fitT m.L.length) = true := by
    rw [List.all_eq_true]
    intro t ht
    obtain ⟨o, ho, rfl⟩ := List.mem_map.1 ht
    have hfmt := h.good.fmt o ho
    unfold fitT tOf
    rw [odd_code (cls_may h.snd ho)]
    by_cases z : o.fmt = 0
    · rw [z]
      have : (o.F.map (fcode m.L 0)).any (oddV m.L.length) = false := by
        rw [List.any_eq_false]
        intro y hy
        obtain ⟨x, hx, rfl⟩ := List.mem_map.1 hy
        show ¬ oddV m.L.length (codeW m.L x : Int) = true
        rw [odd_code (h.snd.wrd o ho z x hx)]; simp
      rw [this]; rfl
    · rw [decide_eq_false (p := ((o.fmt.toNat : Nat) : Int) = 0) (by omega)]; rfl
  have h2 : (js.map (fun x => (codeW m.L x : Int))).any (oddV m.L.length) = false := by
    rw [List.any_eq_false]
    intro y hy
    obtain ⟨x, hx, rfl⟩ := List.mem_map.1 hy
    rw [odd_code (h.may x hx)]; simp
  rw [h1, h2]; rfl
theorem parse_put {m : Hp} {js : List Int} (h : Wr m js) : parse ((bodyB m js).drop 4) = some ⟨m.made, tsOf m, wsOf m js⟩ := by
  have hL := len_bd h.good
  have hmd := h.good.made
  have e : (bodyB m js).drop 4 = cntV m.made ++ (cntV m.L.length ++ (m.L.flatMap (objB m.L) ++ (cntV js.length ++ (js.flatMap (fun x => cntV (codeW m.L x)) ++ [])))) := by
    unfold bodyB; simp
  rw [e]
  generalize hl : cntV m.made ++ (cntV m.L.length ++ (m.L.flatMap (objB m.L) ++ (cntV js.length ++ (js.flatMap (fun x => cntV (codeW m.L x)) ++ [])))) = l
  have hA : parseA l = (m.made, some (cntV m.L.length ++ (m.L.flatMap (objB m.L) ++ (cntV js.length ++ (js.flatMap (fun x => cntV (codeW m.L x)) ++ []))))) := by
    unfold parseA; rw [← hl]; exact cntR_put hmd (by decide) _
  have hC : parseC l = (m.L.length, some (m.L.flatMap (objB m.L) ++ (cntV js.length ++ (js.flatMap (fun x => cntV (codeW m.L x)) ++ [])))) := by
    unfold parseC; rw [hA]; exact cntR_put (by omega) (by decide) _
  have hO : parseO l = (tsOf m, some (cntV js.length ++ (js.flatMap (fun x => cntV (codeW m.L x)) ++ []))) := by
    unfold parseO
    rw [hC, hA]
    show objsR m.L.length (mustR (decide (m.L.length ≤ m.made)) _) = _
    rw [decide_eq_true h.made]
    exact objsR_put h.good h.snd m.L (fun o ho => ⟨ho, h.odd o ho⟩) _
  have hK : parseK l = (js.length, some (js.flatMap (fun x => cntV (codeW m.L x)) ++ [])) := by
    unfold parseK; rw [hO]; exact cntR_put h.few (by decide) _
  have hW : parseW l = (wsOf m js, some []) := by
    unfold parseW; rw [hK]; exact wrdsR_put (by omega) js h.may []
  unfold parse
  rw [hW, hO, hA, if_pos ⟨rfl, fits_put h⟩]
theorem body_take (m : Hp) (js : List Int) : (bodyB m js).take 4 = magicB := by unfold bodyB magicB; simp
theorem body_len (m : Hp) (js : List Int) : 7 ≤ (bodyB m js).length := by
  have h1 := cnt_pos m.made
  have h2 := cnt_pos m.L.length
  have h3 := cnt_pos js.length
  unfold bodyB
  simp only [List.length_append, List.length_cons, List.length_nil]
  omega
/-- sealed bytes -/
theorem img_seal {l : List Int} (hl : 4 ≤ l.length) (hm : l.take 4 = magicB) : imgV (sealV l) = parse (l.drop 4) := by
  have hlen : (sealV l).length = l.length + 4 := by unfold sealV tailV; simp
  have ht : (sealV l).take l.length = l := by unfold sealV; simp
  have hd : (sealV l).drop l.length = tailV (sumV l) := by unfold sealV; simp
  have h4 : (sealV l).take 4 = magicB := by
    unfold sealV
    rw [List.take_append_of_le_length hl]; exact hm
  unfold imgV
  rw [show (sealV l).length - 4 = l.length by omega, ht, if_pos ⟨by omega, h4, hd⟩]
theorem img_put {m : Hp} {js : List Int} (h : Wr m js) : imgV (sealV (bodyB m js)) = some ⟨m.made, tsOf m, wsOf m js⟩ := by
  rw [img_seal (by have := body_len m js; omega) (body_take m js), parse_put h]
theorem tsOf_len (m : Hp) : LenT m.L (tsOf m) := by
  unfold LenT tsOf
  rw [List.map_map]
  apply List.map_congr_left
  intro o _
  simp [tOf]
theorem read_put {m : Hp} {js : List Int} (h : Wr m js) (size : Int) : readV (sealV (bodyB m js)) size = if okN size = true ∧ ((3 + szs m.L : Nat) : Int) ≤ size then (some ⟨m.made, tsOf m, wsOf m js⟩, 0) else (none, 4) := by
  unfold readV
  rw [img_put h, szs_T (tsOf_len m)]
theorem real_code {m : Hp} (hS : m.L.length ≤ 1000000) {x : Int} (hx : mayV m.L x = true) : realI (tsOf m) (codeW m.L x : Int) = x := by
  unfold realI
  rcases may_cases hx with hs | ⟨hs, k, hk, hp, e⟩ | ⟨hs, hp, h3⟩
  · have hso := small_odd hs
    rw [codeW_small hs, if_neg (by omega), if_pos (by omega), Int.toNat_natCast, show (3 + 2 * foldV (x / 2) - 3) / 2 = foldV (x / 2) by omega, unf_fold]
    unfold smallV
    rw [if_pos (by omega)]
    show 2 * (x / 2) + 1 = x
    omega
  · rw [codeW_ptr hs hp, if_neg (by omega), if_neg (by omega), Int.toNat_natCast, show (4 + 2 * k - 4) / 2 = k by omega, ← ptr_T (tsOf_len m), e]
  · rw [codeW_low hs hp, if_pos (by omega)]
    omega
theorem map_id {l : List Int} {f : Int → Int} (h : ∀ x, x ∈ l → f x = x) : l.map f = l := by
  conv => rhs; rw [← List.map_id l]
  exact List.map_congr_left h
theorem ws_back {m : Hp} {js : List Int} (h : Wr m js) : (wsOf m js).map (realI (tsOf m)) = js := by
  have hL := len_bd h.good
  unfold wsOf
  rw [List.map_map]
  exact map_id (fun x hx => real_code (by omega) (h.may x hx))
theorem bld_back {m : Hp} (hG : Good m) (hS : Snd m) : bldL (tsOf m) = m.L := by
  have hL := len_bd hG
  have : ∀ o, o ∈ m.L → tOb (tsOf m) (tOf m.L o) = o := fun o ho => by
    have hfmt := hG.fmt o ho
    have hc := real_code (m := m) (by omega) (cls_may hS ho)
    unfold tOb tF tOf
    show (⟨realI (tsOf m) (codeW m.L o.cls : Int), ((o.fmt.toNat : Nat) : Int), o.hash, if o.fmt.toNat = 0 then (o.F.map (fcode m.L o.fmt)).map (realI (tsOf m)) else o.F.map (fcode m.L o.fmt)⟩ : Ob) = o
    rw [hc]
    have hF : (if o.fmt.toNat = 0 then (o.F.map (fcode m.L o.fmt)).map (realI (tsOf m)) else o.F.map (fcode m.L o.fmt)) = o.F := by
      by_cases z : o.fmt = 0
      · rw [if_pos (by omega), List.map_map]
        refine map_id (fun x hx => ?_)
        show realI (tsOf m) (fcode m.L o.fmt x) = x
        unfold fcode
        rw [if_pos z]
        exact real_code (by omega) (hS.wrd o ho z x hx)
      · rw [if_neg (by omega)]
        refine map_id (fun x hx => ?_)
        unfold fcode
        rw [if_neg z]
    rw [hF, show ((o.fmt.toNat : Nat) : Int) = o.fmt by omega]
  unfold bldL
  show (m.L.map (tOf m.L)).map (tOb (tsOf m)) = m.L
  rw [List.map_map]
  conv => rhs; rw [← List.map_id m.L]
  exact List.map_congr_left this
end Go.Proofs.Ytfinpgkehjbcpaa
/- Chapter 05, plain: back and there: what was read is written just so. -/
namespace Go.Proofs.Ytfinpgkehjbcpaa
set_option linter.unusedVariables false
set_option linter.unusedSimpArgs false
theorem dec_back : ∀ (k : Nat) {l : List Int} {n : Nat} {l' : List Int}, k ≤ 8 → IsB l → decC (k + 1) l = some (n, l') → l = cntV n ++ l' ∧ (k ≠ 8 → 0 < n)
  | k, [], _, _, _, _, h => by cases h
  | k, c :: l, n, l', hk, hb, h => by
    have hc := hb c (by simp)
    by_cases h1 : c < 128
    · by_cases h2 : 0 < c ∨ k = 8
      · rw [decC_last h1 h2] at h
        cases h
        rw [cnt_small (by omega)]
        refine ⟨?_, fun q => by omega⟩
        show c :: l = ((c.toNat : Nat) : Int) :: l
        rw [Int.toNat_of_nonneg hc.1]
      · rw [decC_zero h1 h2] at h; cases h
    · rw [decC_more h1] at h
      match k, hk with
      | 0, _ => cases h
      | k + 1, hk =>
        cases hd : decC (k + 1) l with
        | none => rw [hd] at h; cases h
        | some p =>
          obtain ⟨n2, l2⟩ := p
          rw [hd] at h
          have he : ((c - 128).toNat + 128 * n2, l2) = (n, l') := by simpa using h
          cases he
          obtain ⟨e1, e2⟩ := dec_back k (by omega) (fun x hx => hb x (by simp [hx])) hd
          have hn2 := e2 (by omega)
          rw [cnt_big (show ¬ (c - 128).toNat + 128 * n2 < 128 by omega)]
          refine ⟨?_, fun _ => by omega⟩
          rw [show ((c - 128).toNat + 128 * n2) / 128 = n2 by omega, show ((((c - 128).toNat + 128 * n2) % 128 + 128 : Nat) : Int) = c by omega]
          show c :: l = c :: (cntV n2 ++ l')
          rw [← e1]
theorem dec9_back {l : List Int} {n : Nat} {l' : List Int} (hb : IsB l) (h : decC 9 l = some (n, l')) : l = cntV n ++ l' := (dec_back 8 (by omega) hb h).1
def codeB (f : Nat) (x : Int) : List Int := if f = 1 then cntV (foldV x) else if f = 2 then [x] else cntV x.toNat
theorem fldR_back {f : Nat} {l l' : List Int} (hf : f ≤ 2) (hb : IsB l) (h : (fldR f (some l)).2 = some l') : l = codeB f (fldR f (some l)).1 ++ l' := by
  rcases (show f = 0 ∨ f = 1 ∨ f = 2 by omega) with rfl | rfl | rfl
  · obtain ⟨l0, e, _, _, _, hd⟩ := wrdR_some (σ := some l) h
    cases e
    show l = cntV (((wrdR (some l)).1 : Int)).toNat ++ l'
    rw [Int.toNat_natCast]
    exact dec9_back hb hd
  · obtain ⟨l0, e, _, _, _, hd⟩ := numR_some (σ := some l) h
    cases e
    exact dec9_back hb hd
  · have e := byteR_some (σ := some l) h
    have e' : l = (byteR (some l)).1 :: l' := Option.some.inj e
    exact e'
theorem fldsR_back {f : Nat} (hf : f ≤ 2) : ∀ (n : Nat) {l l' : List Int}, IsB l → (fldsR f n (some l)).2 = some l' → l = (fldsR f n (some l)).1.flatMap (codeB f) ++ l'
  | 0, l, l', _, h => by cases h; rfl
  | n + 1, l, l', hb, h => by
    have h' : (fldsR f n (fldR f (some l)).2).2 = some l' := h
    obtain ⟨l1, h1, _, _, _, _⟩ := fldsR_some hf n h'
    obtain ⟨l0, e0, _, ⟨p2, k3⟩, _⟩ := fldR_some hf h1
    cases e0
    rw [h1] at h'
    have e1 := fldR_back hf hb h1
    have e2 := fldsR_back hf n (isB_suf hb k3) h'
    show l = (((fldR f (some l)).1 :: (fldsR f n (fldR f (some l)).2).1).flatMap (codeB f)) ++ l'
    rw [h1, List.flatMap_cons, List.append_assoc, ← e2]
    exact e1
def tngB (t : Tng) : List Int := cntV t.fmt ++ cntV t.F.length ++ cntV (foldV t.hash) ++ cntV t.cls ++ t.F.flatMap (codeB t.fmt)
theorem objR_back {l l' : List Int} (hb : IsB l) (h : (objR (some l)).2 = some l') : l = tngB (objR (some l)).1 ++ l' := by
  have hle := cntR_le 2 (some l)
  have h7 : (fldsR (cntR 2 (some l)).1 (cntR 256 (cntR 2 (some l)).2).1 (mustR (okC (wrdR (numR (cntR 256 (cntR 2 (some l)).2).2).2).1) (mustR (okH (numR (cntR 256 (cntR 2 (some l)).2).2).1) (wrdR (numR (cntR 256 (cntR 2 (some l)).2).2).2).2))).2 = some l' := h
  obtain ⟨l6, h6, _, ⟨p6, q2⟩, q3, _⟩ := fldsR_some hle _ h7
  obtain ⟨oc, h5⟩ := mustR_some h6
  obtain ⟨oh, h4⟩ := mustR_some h5
  obtain ⟨l3, h3, _, ⟨p3, r2⟩, _, d3⟩ := wrdR_some h4
  obtain ⟨l2, h2, _, ⟨p2, s2⟩, _, d2⟩ := numR_some h3
  cases hc : (cntR 2 (some l)).2 with
  | none => rw [hc] at h2; cases h2
  | some l1 =>
    rw [hc] at h2
    obtain ⟨⟨p1, t1⟩, _, _, d1⟩ := cntR_isB h2
    obtain ⟨⟨p0, u1⟩, _, _, d0⟩ := cntR_isB hc
    have hb1 := isB_suf hb u1
    have hb2 := isB_suf hb1 t1
    have hb3 := isB_suf hb2 s2
    have hb6 := isB_suf hb3 r2
    have e0 := dec9_back hb d0
    have e1 := dec9_back hb1 d1
    have e2 := dec9_back hb2 d2
    have e3 := dec9_back hb3 d3
    rw [h6] at h7
    have e6 := fldsR_back hle _ hb6 h7
    unfold tngB
    show l = cntV (cntR 2 (some l)).1 ++ cntV (fldsR (cntR 2 (some l)).1 (cntR 256 (cntR 2 (some l)).2).1 (mustR (okC (wrdR (numR (cntR 256 (cntR 2 (some l)).2).2).2).1) (mustR (okH (numR (cntR 256 (cntR 2 (some l)).2).2).1) (wrdR (numR (cntR 256 (cntR 2 (some l)).2).2).2).2))).1.length ++ cntV (foldV (numR (cntR 256 (cntR 2 (some l)).2).2).1) ++ cntV (wrdR (numR (cntR 256 (cntR 2 (some l)).2).2).2).1 ++ (fldsR (cntR 2 (some l)).1 (cntR 256 (cntR 2 (some l)).2).1 (mustR (okC (wrdR (numR (cntR 256 (cntR 2 (some l)).2).2).2).1) (mustR (okH (numR (cntR 256 (cntR 2 (some l)).2).2).1) (wrdR (numR (cntR 256 (cntR 2 (some l)).2).2).2).2))).1.flatMap (codeB (cntR 2 (some l)).1) ++ l'
    rw [q3, h6]
    simp only [List.append_assoc]
    rw [← e6, ← e3, ← e2, hc, ← e1]
    exact e0
theorem objsR_back : ∀ (n : Nat) {l l' : List Int}, IsB l → (objsR n (some l)).2 = some l' → l = (objsR n (some l)).1.flatMap tngB ++ l'
  | 0, l, l', _, h => by cases h; rfl
  | n + 1, l, l', hb, h => by
    have h' : (objsR n (objR (some l)).2).2 = some l' := h
    obtain ⟨l1, h1, _, _, _, _⟩ := objsR_some n h'
    obtain ⟨l0, e0, _, ⟨p2, k3⟩, _⟩ := objR_some h1
    cases e0
    rw [h1] at h'
    have e1 := objR_back hb h1
    have e2 := objsR_back n (isB_suf hb k3) h'
    show l = (((objR (some l)).1 :: (objsR n (objR (some l)).2).1).flatMap tngB) ++ l'
    rw [h1, List.flatMap_cons, List.append_assoc, ← e2]
    exact e1
theorem wrdsR_back : ∀ (n : Nat) {l l' : List Int}, IsB l → (wrdsR n (some l)).2 = some l' → l = (wrdsR n (some l)).1.flatMap (fun x => cntV x.toNat) ++ l'
  | 0, l, l', _, h => by cases h; rfl
  | n + 1, l, l', hb, h => by
    have h' : (wrdsR n (wrdR (some l)).2).2 = some l' := h
    obtain ⟨l1, h1, _, _, _, _⟩ := wrdsR_some n h'
    obtain ⟨l0, e0, _, ⟨p2, k3⟩, _, hd⟩ := wrdR_some h1
    cases e0
    rw [h1] at h'
    have e1 := dec9_back hb hd
    have e2 := wrdsR_back n (isB_suf hb k3) h'
    show l = ((((wrdR (some l)).1 : Int) :: (wrdsR n (wrdR (some l)).2).1).flatMap (fun x => cntV x.toNat)) ++ l'
    rw [h1, List.flatMap_cons, List.append_assoc, ← e2, Int.toNat_natCast]
    exact e1
/-- what was read is these bytes -/
theorem parse_back {l : List Int} {x : Img} (hb : IsB l) (h : parse l = some x) : l = cntV x.made ++ cntV x.ts.length ++ x.ts.flatMap tngB ++ cntV x.ws.length ++ x.ws.flatMap (fun y => cntV y.toNat) := by
  unfold parse at h
  split at h
  · rename_i hq
    obtain ⟨h1, h2⟩ := hq
    cases h
    obtain ⟨lk, e1, k1, k2, ⟨p1, k3⟩, k4⟩ := wrdsR_some (parseK l).1 (σ := (parseK l).2) h1
    cases ho : (parseO l).2 with
    | none =>
      exfalso
      have : (cntR 4000 (parseO l).2).2 = some lk := e1
      rw [ho] at this; cases this
    | some lo =>
      have e2 : (cntR 4000 (some lo)).2 = some lk := by rw [← ho]; exact e1
      obtain ⟨⟨p2, m1⟩, m2, m3, d4⟩ := cntR_isB e2
      obtain ⟨lc, e3, n1, n2, ⟨p3, n3⟩, n4⟩ := objsR_some (parseC l).1 (σ := mustR (decide ((parseC l).1 ≤ (parseA l).1)) (parseC l).2) ho
      obtain ⟨o1, o2⟩ := mustR_some e3
      cases ha : (parseA l).2 with
      | none =>
        exfalso
        have : (cntR 1099511627776 (parseA l).2).2 = some lc := o2
        rw [ha] at this; cases this
      | some la =>
        have e4 : (cntR 1099511627776 (some la)).2 = some lc := by rw [← ha]; exact o2
        obtain ⟨⟨p4, r1⟩, r2, r3, d2⟩ := cntR_isB e4
        have e5 : (cntR 1099511627776 (some l)).2 = some la := ha
        obtain ⟨⟨p5, t1⟩, t2, t3, d1⟩ := cntR_isB e5
        have hba := isB_suf hb t1
        have hbc := isB_suf hba r1
        have hbo := isB_suf hbc n3
        have hbk := isB_suf hbo m1
        have a1 := dec9_back hb d1
        have a2 := dec9_back hba d2
        have a4 := dec9_back hbo d4
        have hO : parseO l = objsR (parseC l).1 (some lc) := by unfold parseO; rw [e3]
        have hC : parseC l = cntR 1099511627776 (some la) := by unfold parseC; rw [ha]
        have hK : parseK l = cntR 4000 (some lo) := by unfold parseK; rw [ho]
        have hW : parseW l = wrdsR (parseK l).1 (some lk) := by unfold parseW; rw [show (parseK l).2 = some lk from e1]
        have a3 := objsR_back (parseC l).1 hbc (by rw [← hO]; exact ho)
        have a5 := wrdsR_back (parseK l).1 hbk (by rw [← hW]; exact h1)
        rw [← hO] at a3
        rw [← hW, List.append_nil] at a5
        show l = cntV (parseA l).1 ++ cntV (parseO l).1.length ++ (parseO l).1.flatMap tngB ++ cntV (parseW l).1.length ++ (parseW l).1.flatMap (fun y => cntV y.toNat)
        have hlo : (parseO l).1.length = (parseC l).1 := n1
        have hlw : (parseW l).1.length = (parseK l).1 := k1
        rw [hlo, hlw]
        simp only [List.append_assoc]
        rw [← a5, hK, ← a4, ← a3, hC, ← a2]
        exact a1
  · cases h
end Go.Proofs.Ytfinpgkehjbcpaa
