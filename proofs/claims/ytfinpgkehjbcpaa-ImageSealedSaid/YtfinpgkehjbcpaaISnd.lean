/- Chapter 05, plain: what is made is sound. -/
import Derived.Test.YtfinpgkehjbcpaaIRound
import Derived.Test.YtfinpgkehjbcpaaSH
namespace Go.Proofs.Ytfinpgkehjbcpaa
set_option linter.unusedVariables false
set_option linter.unusedSimpArgs false
theorem isV_congr {L K : List Ob} (h : L.map (fun o => o.F.length) = K.map (fun o => o.F.length)) (x : Int) : isV L x = isV K x := by
  have hl : L.length = K.length := by have := congrArg List.length h; simpa using this
  have key : ∀ {A B : List Ob}, A.map (fun o => o.F.length) = B.map (fun o => o.F.length) → A.length = B.length → isV A x = true → isV B x = true := fun h' hl' q => by
    obtain ⟨i, hi, e⟩ := isV_iff.1 q
    exact isV_iff.2 ⟨i, by omega, by rw [← e]; unfold ptr; rw [adr_congr h']⟩
  cases h1 : isV L x
  · cases h2 : isV K x
    · rfl
    · rw [key h.symm hl.symm h2] at h1; cases h1
  · rw [key h hl h1]
theorem may_congr {L K : List Ob} (h : L.map (fun o => o.F.length) = K.map (fun o => o.F.length)) (x : Int) : mayV L x = mayV K x := by unfold mayV; rw [isV_congr h x]
theorem isV_app {L K : List Ob} {x : Int} (h : isV L x = true) : isV (L ++ K) x = true := by
  obtain ⟨i, hi, e⟩ := isV_iff.1 h
  exact isV_iff.2 ⟨i, by rw [List.length_append]; omega, by rw [← e]; unfold ptr; rw [adr_app _ _ _ (by omega)]⟩
theorem may_app {L K : List Ob} {x : Int} (h : mayV L x = true) : mayV (L ++ K) x = true := by
  unfold mayV at h ⊢
  cases q : isV L x
  · rw [q] at h
    simp only [Bool.or_false] at h
    rw [h]; simp
  · rw [isV_app q]; simp
def Snd1 (m : Hp) : Prop := Snd m ∧ m.L.length ≤ m.made
theorem snd_nil (n : Int) : Snd1 (nilHp n) := ⟨⟨fun o ho => absurd ho (by simp [nilHp]), fun o ho => absurd ho (by simp [nilHp]), fun o ho => absurd ho (by simp [nilHp])⟩, Nat.le_refl _⟩
theorem snd_make {m : Hp} (h : Snd1 m) (f n : Int) : Snd1 (makeV m 0 f n).1 := by
  unfold makeV
  split
  · exact h
  · split
    · exact h
    · obtain ⟨⟨h1, h2, h3⟩, h4⟩ := h
      have hn : ∀ x, x ∈ (newO 0 f ((m.made : Int) + 1) n.toNat).F → x = 0 := fun x hx => (List.mem_replicate.1 hx).2
      refine ⟨⟨fun o ho => ?_, fun o ho e x hx => ?_, fun o ho e x hx => ?_⟩, by show (m.L ++ [_]).length ≤ m.made + 1; simp; omega⟩
      · rcases List.mem_append.1 ho with q | q
        · exact (h1 o q).imp id isV_app
        · rw [List.mem_singleton.1 q]; exact .inl rfl
      · rcases List.mem_append.1 ho with q | q
        · exact may_app (h2 o q e x hx)
        · rw [List.mem_singleton.1 q] at hx; rw [hn x hx]; rfl
      · rcases List.mem_append.1 ho with q | q
        · exact h3 o q e x hx
        · rw [List.mem_singleton.1 q] at hx; rw [hn x hx]; omega
theorem snd_set {m : Hp} (h : Snd1 m) {i : Nat} (hi : i < m.L.length) {o' : Ob} (hl : o'.F.length = m.L[i].F.length) (hc : o'.cls = 0 ∨ isV m.L o'.cls = true) (hw : o'.fmt = 0 → ∀ x, x ∈ o'.F → mayV m.L x = true) (hb : o'.fmt = 2 → ∀ x, x ∈ o'.F → 0 ≤ x ∧ x ≤ 255) : Snd1 { m with L := m.L.set i o' } := by
  obtain ⟨⟨h1, h2, h3⟩, h4⟩ := h
  have hlen := set_lens (L := m.L) hi hl
  refine ⟨⟨fun o ho => ?_, fun o ho e x hx => ?_, fun o ho e x hx => ?_⟩, by show (m.L.set i o').length ≤ m.made; simpa using h4⟩
  · show o.cls = 0 ∨ isV (m.L.set i o') o.cls = true
    rw [isV_congr hlen]
    rcases List.mem_or_eq_of_mem_set ho with q | rfl
    · exact h1 o q
    · exact hc
  · show mayV (m.L.set i o') x = true
    rw [may_congr hlen]
    rcases List.mem_or_eq_of_mem_set ho with q | rfl
    · exact h2 o q e x hx
    · exact hw e x hx
  · rcases List.mem_or_eq_of_mem_set ho with q | rfl
    · exact h3 o q e x hx
    · exact hb e x hx
theorem isV_plc {L : List Ob} {a : Int} (h : isV L a = true) : ∃ i, ∃ hi : i < L.length, plc L a = some i ∧ lookO L a = L[i] := by
  obtain ⟨i, hi, rfl⟩ := isV_iff.1 h
  refine ⟨i, hi, plc_at hi, ?_⟩
  unfold lookO; rw [plc_at hi]; simp [List.getD_eq_getElem?_getD, List.getElem?_eq_getElem hi]
theorem snd_class {m : Hp} (h : Snd1 m) (a c : Int) : Snd1 (setClassV m a c).1 := by
  unfold setClassV
  split
  · rename_i hv
    split
    · rename_i hc
      obtain ⟨i, hi, hp, _⟩ := isV_plc hv
      have hm : m.L[i] ∈ m.L := List.getElem_mem hi
      show Snd1 { m with L := updL m.L a (fun o => ⟨c, o.fmt, o.hash, o.F⟩) }
      rw [updL_yes hp hi]
      exact snd_set h hi rfl hc (fun e x hx => h.1.wrd _ hm e x hx) (fun e x hx => h.1.byt _ hm e x hx)
    · exact h
  · exact h
theorem snd_put {m : Hp} (h : Snd1 m) (a i x : Int) : Snd1 (putV m a i x).1 := by
  unfold putV
  split
  · rename_i hv
    split
    · exact h
    · split
      · exact h
      · rename_i hb
        obtain ⟨j, hj, hp, hlk⟩ := isV_plc hv
        have hm : m.L[j] ∈ m.L := List.getElem_mem hj
        rw [hlk] at hb
        have hb' : badW m.L m.L[j] x = false := by simpa using hb
        unfold badW at hb'
        rw [Bool.or_eq_false_iff] at hb'
        show Snd1 { m with L := updL m.L a (fun o => ⟨o.cls, o.fmt, o.hash, o.F.set i.toNat x⟩) }
        rw [updL_yes hp hj]
        refine snd_set h hj (by simp) (h.1.cls m.L[j] hm) (fun e y hy => ?_) (fun e y hy => ?_)
        · have e' : m.L[j].fmt = 0 := e
          rcases List.mem_or_eq_of_mem_set (show y ∈ m.L[j].F.set i.toNat x from hy) with q | rfl
          · exact h.1.wrd _ hm e y q
          · have := hb'.1
            rw [e'] at this
            simpa using this
        · have e' : m.L[j].fmt = 2 := e
          rcases List.mem_or_eq_of_mem_set (show y ∈ m.L[j].F.set i.toNat x from hy) with q | rfl
          · exact h.1.byt _ hm e y q
          · have := hb'.2
            rw [e'] at this
            simp at this
            omega
  · exact h
theorem snd_flds {t : ThT} {o : List Int} {p : Int} {m : Hp} (h : Snd1 m) : ∀ k, Snd1 (flds t o p m k)
  | 0 => snd_class h _ _
  | k + 1 => snd_put (snd_flds h k) _ _ _
theorem snd_mk1 (T : Nat → ThT) : ∀ i, Snd1 (mk1 T i)
  | 0 => snd_nil 2000
  | i + 1 => snd_make (snd_mk1 T i) _ _
theorem snd_mk2 {T : Nat → ThT} {o : List Int} {m : Hp} (h : Snd1 m) : ∀ i, Snd1 (mk2 T o m i).1
  | 0 => h
  | i + 1 => by
    have ih := snd_mk2 (T := T) (o := o) h i
    unfold mk2
    split
    · exact ih
    · split
      · exact ih
      · exact snd_flds ih _
theorem snd_made (T : Nat → ThT) (n : Nat) : Snd1 (madeV T n) := snd_mk2 (snd_mk1 T _) _
/-- sizes stay -/
theorem size_flds {t : ThT} {o : List Int} {p : Int} {m : Hp} : ∀ k, (flds t o p m k).size = m.size
  | 0 => by unfold flds setClassV; repeat' split
            all_goals rfl
  | k + 1 => by
    have ih := size_flds (t := t) (o := o) (p := p) (m := m) k
    unfold flds putV
    repeat' split
    all_goals exact ih
theorem size_mk1 (T : Nat → ThT) : ∀ i, (mk1 T i).size = 2000
  | 0 => rfl
  | i + 1 => by
    have ih := size_mk1 T i
    unfold mk1 makeV
    repeat' split
    all_goals exact ih
theorem size_mk2 {T : Nat → ThT} {o : List Int} {m : Hp} : ∀ i, (mk2 T o m i).1.size = m.size
  | 0 => rfl
  | i + 1 => by
    have ih := size_mk2 (T := T) (o := o) (m := m) i
    unfold mk2
    repeat' split
    · exact ih
    · exact ih
    · rw [size_flds]; exact ih
theorem size_made (T : Nat → ThT) (n : Nat) : (madeV T n).size = 2000 := by unfold madeV; rw [size_mk2, size_mk1]
theorem body_few {m : Hp} {js : List Int} (h : Wr m js) (h20 : m.L.length ≤ 20) (h10 : js.length ≤ 10) : (sealV (bodyB m js)).length ≤ 100000 := by
  have h1 := cnt_len9 (n := m.made) (by have := h.good.made; omega)
  have h2 := cnt_len9 (n := m.L.length) (by omega)
  have h3 := cnt_len9 (n := js.length) (by omega)
  have h4 := flat_len (f := objB m.L) (b := 2340) m.L (fun o ho => objB_len h.good h.snd ho)
  have h5 := flat_len (f := fun x => cntV (codeW m.L x)) (b := 9) js (fun x hx => cnt_len9 (by have := codeW_le (L := m.L) (x := x) (by omega) (h.may x hx); omega))
  have : 2340 * m.L.length ≤ 2340 * 20 := Nat.mul_le_mul_left _ h20
  unfold sealV bodyB tailV
  simp only [List.length_append, List.length_cons, List.length_nil]
  omega
theorem tail_isB (s : Int) : IsB (tailV s) := fun x hx => by
  unfold tailV at hx
  simp at hx
  omega
theorem seal_isB {l : List Int} (h : IsB l) : IsB (sealV l) := h.app (tail_isB _)
end Go.Proofs.Ytfinpgkehjbcpaa
/- Chapter 05, plain: back and there, whole: what was read may be written, and is written just so. -/
namespace Go.Proofs.Ytfinpgkehjbcpaa
set_option linter.unusedVariables false
set_option linter.unusedSimpArgs false
/-- the memory of what was read -/
def hpOf (size : Nat) (x : Img) : Hp := ⟨size, x.made, bldL x.ts⟩
theorem code_real {size : Nat} {x : Img} {c : Int} (h : wOk x.ts.length c) (hs : x.ts.length ≤ 1000000) : codeW (bldL x.ts) (realI x.ts c) = c.toNat := by
  have hl := bld_len x.ts
  obtain ⟨h0, h1, h2, h3⟩ := h
  have plcn : ∀ y : Int, y < 6 → plc (bldL x.ts) y = none := fun y hy => plc_none (fun i _ e => by have := ptr_ge (bldL x.ts) i; omega)
  unfold realI
  by_cases q : c < 3
  · rw [if_pos q]
    have hs : isSmallV (2 * c) = false := decide_eq_false (fun z => by omega)
    rw [codeW_low hs (plcn _ (by omega))]
    omega
  · rw [if_neg q]
    by_cases q2 : c % 2 = 1
    · rw [if_pos q2]
      have hsm := h2 (by omega) q2
      obtain ⟨k, hk⟩ : ∃ k, (c.toNat - 3) / 2 = k := ⟨_, rfl⟩
      rw [hk] at hsm ⊢
      unfold smallV at hsm ⊢
      by_cases hr : -1073741824 ≤ unfV k ∧ unfV k ≤ 1073741823
      · rw [if_pos hr]
        have hs : isSmallV (2 * unfV k + 1) = true := decide_eq_true (by omega)
        show codeW _ (2 * unfV k + 1) = _
        rw [codeW_small hs, show (2 * unfV k + 1) / 2 = unfV k by omega, fold_unf]
        omega
      · rw [if_neg hr] at hsm; cases hsm
    · rw [if_neg q2]
      have hj := h3 (by omega) (by omega)
      rw [← ptr_T hl]
      have hj' : (c.toNat - 4) / 2 < (bldL x.ts).length := by rw [hl.length]; exact hj
      have hs : isSmallV (ptr (bldL x.ts) ((c.toNat - 4) / 2)) = false := by
        cases z : isSmallV (ptr (bldL x.ts) ((c.toNat - 4) / 2))
        · rfl
        · have := small_odd z; have := ptr_even (bldL x.ts) ((c.toNat - 4) / 2); omega
      rw [codeW_ptr hs (plc_at hj')]
      omega
theorem may_real {x : Img} {c : Int} (h : wOk x.ts.length c) : mayV (bldL x.ts) (realI x.ts c) = true := real_may (bld_len x.ts) h
theorem flat_congr {α β γ : Type} {f : α → List γ} {g : β → List γ} {h : α → β} : ∀ (l : List α), (∀ y, y ∈ l → g (h y) = f y) → (l.map h).flatMap g = l.flatMap f
  | [], _ => rfl
  | y :: l, e => by rw [List.map_cons, List.flatMap_cons, List.flatMap_cons, e y (by simp), flat_congr l (fun z hz => e z (by simp [hz]))]
theorem obj_back {x : Img} (hs : x.ts.length ≤ 1000000) {t : Tng} (h : TOk x.ts.length t) : objB (bldL x.ts) (tOb x.ts t) = tngB t := by
  have hcls := code_real (size := 0) h.cls hs
  have hF : (tOb x.ts t).F = tF x.ts t := rfl
  have hfl : (tF x.ts t).flatMap (fldB (bldL x.ts) ((t.fmt : Nat) : Int)) = t.F.flatMap (codeB t.fmt) := by
    have hfmt := h.fmt
    unfold tF
    by_cases z : t.fmt = 0
    · rw [if_pos z]
      refine flat_congr t.F (fun y hy => ?_)
      unfold fldB codeB
      rw [if_neg (by omega), if_neg (by omega), if_neg (by omega), if_neg (by omega), code_real (size := 0) (h.wrd z y hy) hs]
    · rw [if_neg z]
      conv => lhs; rw [← List.map_id t.F]
      refine flat_congr t.F (fun y hy => ?_)
      unfold fldB codeB
      by_cases z1 : t.fmt = 1
      · rw [if_pos (by omega), if_pos z1]
        show numB y = _
        unfold numB
        rw [if_pos (h.num z1 y hy)]
      · rw [if_neg (by omega), if_pos (by omega), if_neg z1, if_pos (by omega)]
        rfl
  unfold objB tngB
  show cntV ((t.fmt : Nat) : Int).toNat ++ cntV (tF x.ts t).length ++ cntV (foldV t.hash) ++ cntV (codeW (bldL x.ts) (realI x.ts t.cls)) ++ (tF x.ts t).flatMap (fldB (bldL x.ts) ((t.fmt : Nat) : Int)) = _
  rw [hcls, hfl, tF_len, Int.toNat_natCast, Int.toNat_natCast]
/-- what was read may be written -/
theorem wr_back {l : List Int} {x : Img} {size : Nat} (hb : IsB l) (hl : l.length ≤ 1000000) (h : parse l = some x) (hG : Good (hpOf size x)) : Wr (hpOf size x) (x.ws.map (realI x.ts)) := by
  obtain ⟨p1, p2, p3, p4, p5, p6⟩ := parse_ok hb h
  have hlen : (bldL x.ts).length = x.ts.length := by unfold bldL; simp
  refine ⟨hG, ⟨fun o ho => ?_, fun o ho e y hy => ?_, fun o ho e y hy => ?_⟩, ?_, by rw [List.length_map]; exact p5, fun y hy => ?_, fun o ho => ?_⟩
  · obtain ⟨t, ht, rfl⟩ := List.mem_map.1 (show o ∈ x.ts.map (tOb x.ts) from ho)
    have ok := p1 t ht
    rcases real_class ok.cls ok.okc with q | ⟨j, hj, q⟩
    · exact .inl q
    · exact .inr (by show isV (bldL x.ts) (realI x.ts t.cls) = true; rw [q, ← ptr_T (bld_len x.ts)]; exact isV_iff.2 ⟨j, by rw [hlen]; exact hj, rfl⟩)
  · obtain ⟨t, ht, rfl⟩ := List.mem_map.1 (show o ∈ x.ts.map (tOb x.ts) from ho)
    have ok := p1 t ht
    have z : t.fmt = 0 := by have : ((t.fmt : Nat) : Int) = 0 := e; omega
    have hy' : y ∈ tF x.ts t := hy
    unfold tF at hy'
    rw [if_pos z] at hy'
    obtain ⟨u, hu, rfl⟩ := List.mem_map.1 hy'
    exact may_real (ok.wrd z u hu)
  · obtain ⟨t, ht, rfl⟩ := List.mem_map.1 (show o ∈ x.ts.map (tOb x.ts) from ho)
    have ok := p1 t ht
    have z : t.fmt = 2 := by have : ((t.fmt : Nat) : Int) = 2 := e; omega
    have hy' : y ∈ tF x.ts t := hy
    unfold tF at hy'
    rw [if_neg (by omega)] at hy'
    exact ok.byt z y hy'
  · show (bldL x.ts).length ≤ x.made
    rw [hlen]; exact p3
  · obtain ⟨u, hu, rfl⟩ := List.mem_map.1 hy
    exact may_real (p2 u hu)
  · obtain ⟨t, ht, rfl⟩ := List.mem_map.1 (show o ∈ x.ts.map (tOb x.ts) from ho)
    have ok := p1 t ht
    have hfmt := ok.fmt
    show (tF x.ts t).any (oddF ((t.fmt : Nat) : Int)) = false
    rw [List.any_eq_false]
    intro y hy
    unfold oddF
    by_cases z : t.fmt = 1
    · unfold tF at hy
      rw [if_neg (by omega)] at hy
      rw [ok.num z y hy]; simp
    · rw [show ((((t.fmt : Nat) : Int)) == 1) = false from beq_false_of_ne (by omega)]; simp
/-- and is written as just these bytes -/
theorem body_back {l : List Int} {x : Img} {size : Nat} (hb : IsB l) (hl : l.length ≤ 1000000) (h : parse l = some x) : bodyB (hpOf size x) (x.ws.map (realI x.ts)) = magicB ++ l := by
  obtain ⟨p1, p2, p3, p4, p5, p6⟩ := parse_ok hb h
  have hlen : (bldL x.ts).length = x.ts.length := by unfold bldL; simp
  have hs : x.ts.length ≤ 1000000 := by omega
  have e := parse_back hb h
  have e1 : (bldL x.ts).flatMap (objB (bldL x.ts)) = x.ts.flatMap tngB := by
    show (x.ts.map (tOb x.ts)).flatMap (objB (bldL x.ts)) = _
    exact flat_congr x.ts (fun t ht => obj_back hs (p1 t ht))
  have e2 : (x.ws.map (realI x.ts)).flatMap (fun y => cntV (codeW (bldL x.ts) y)) = x.ws.flatMap (fun y => cntV y.toNat) := flat_congr x.ws (fun y hy => by rw [code_real (size := 0) (p2 y hy) hs])
  unfold bodyB hpOf magicB
  show [86, 73, 86, 49] ++ cntV x.made ++ cntV (bldL x.ts).length ++ (bldL x.ts).flatMap (objB (bldL x.ts)) ++ cntV (x.ws.map (realI x.ts)).length ++ (x.ws.map (realI x.ts)).flatMap (fun y => cntV (codeW (bldL x.ts) y)) = _
  rw [e1, e2, hlen, List.length_map, e]
  simp only [List.append_assoc]
end Go.Proofs.Ytfinpgkehjbcpaa
