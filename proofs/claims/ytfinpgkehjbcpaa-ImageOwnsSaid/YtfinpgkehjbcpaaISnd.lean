/- Chapter 05, plain: what is made is sound. -/
import Derived.Test.YtfinpgkehjbcpaaIRound
import Derived.Test.YtfinpgkehjbcpaaSH
namespace Go.Proofs.Ytfinpgkehjbcpaa
set_option linter.unusedVariables false
set_option linter.unusedSimpArgs false
theorem isV_congr {L K : List Ob} (h : L.map (fun o => o.F.length) = K.map (fun o => o.F.length)) (x : Int) : isV L x = isV K x := by
  have hl : L.length = K.length := by have := congrArg List.length h; simpa using this
  have key : ∀ {A B : List Ob}, A.map (fun o => o.F.length) = B.map (fun o => o.F.length) → A.length = B.length → isV A x = true → isV B x = true := fun h' hl' q => by
    obtain ⟨i, hi, e⟩ := isV_iff.1 q
    exact isV_iff.2 ⟨i, by omega, by rw [← e]; unfold ptr; rw [adr_congr h']⟩
  cases h1 : isV L x
  · cases h2 : isV K x
    · rfl
    · rw [key h.symm hl.symm h2] at h1; cases h1
  · rw [key h hl h1]
theorem may_congr {L K : List Ob} (h : L.map (fun o => o.F.length) = K.map (fun o => o.F.length)) (x : Int) : mayV L x = mayV K x := by unfold mayV; rw [isV_congr h x]
theorem isV_app {L K : List Ob} {x : Int} (h : isV L x = true) : isV (L ++ K) x = true := by
  obtain ⟨i, hi, e⟩ := isV_iff.1 h
  exact isV_iff.2 ⟨i, by rw [List.length_append]; omega, by rw [← e]; unfold ptr; rw [adr_app _ _ _ (by omega)]⟩
theorem may_app {L K : List Ob} {x : Int} (h : mayV L x = true) : mayV (L ++ K) x = true := by
  unfold mayV at h ⊢
  cases q : isV L x
  · rw [q] at h
    simp only [Bool.or_false] at h
    rw [h]; simp
  · rw [isV_app q]; simp
def Snd1 (m : Hp) : Prop := Snd m ∧ m.L.length ≤ m.made
theorem snd_nil (n : Int) : Snd1 (nilHp n) := ⟨⟨fun o ho => absurd ho (by simp [nilHp]), fun o ho => absurd ho (by simp [nilHp]), fun o ho => absurd ho (by simp [nilHp])⟩, Nat.le_refl _⟩
theorem snd_make {m : Hp} (h : Snd1 m) (f n : Int) : Snd1 (makeV m 0 f n).1 := by
  unfold makeV
  split
  · exact h
  · split
    · exact h
    · obtain ⟨⟨h1, h2, h3⟩, h4⟩ := h
      have hn : ∀ x, x ∈ (newO 0 f ((m.made : Int) + 1) n.toNat).F → x = 0 := fun x hx => (List.mem_replicate.1 hx).2
      refine ⟨⟨fun o ho => ?_, fun o ho e x hx => ?_, fun o ho e x hx => ?_⟩, by show (m.L ++ [_]).length ≤ m.made + 1; simp; omega⟩
      · rcases List.mem_append.1 ho with q | q
        · exact (h1 o q).imp id isV_app
        · rw [List.mem_singleton.1 q]; exact .inl rfl
      · rcases List.mem_append.1 ho with q | q
        · exact may_app (h2 o q e x hx)
        · rw [List.mem_singleton.1 q] at hx; rw [hn x hx]; rfl
      · rcases List.mem_append.1 ho with q | q
        · exact h3 o q e x hx
        · rw [List.mem_singleton.1 q] at hx; rw [hn x hx]; omega
theorem snd_set {m : Hp} (h : Snd1 m) {i : Nat} (hi : i < m.L.length) {o' : Ob} (hl : o'.F.length = m.L[i].F.length) (hc : o'.cls = 0 ∨ isV m.L o'.cls = true) (hw : o'.fmt = 0 → ∀ x, x ∈ o'.F → mayV m.L x = true) (hb : o'.fmt = 2 → ∀ x, x ∈ o'.F → 0 ≤ x ∧ x ≤ 255) : Snd1 { m with L := m.L.set i o' } := by
  obtain ⟨⟨h1, h2, h3⟩, h4⟩ := h
  have hlen := set_lens (L := m.L) hi hl
  refine ⟨⟨fun o ho => ?_, fun o ho e x hx => ?_, fun o ho e x hx => ?_⟩, by show (m.L.set i o').length ≤ m.made; simpa using h4⟩
  · show o.cls = 0 ∨ isV (m.L.set i o') o.cls = true
    rw [isV_congr hlen]
    rcases List.mem_or_eq_of_mem_set ho with q | rfl
    · exact h1 o q
    · exact hc
  · show mayV (m.L.set i o') x = true
    rw [may_congr hlen]
    rcases List.mem_or_eq_of_mem_set ho with q | rfl
    · exact h2 o q e x hx
    · exact hw e x hx
  · rcases List.mem_or_eq_of_mem_set ho with q | rfl
    · exact h3 o q e x hx
    · exact hb e x hx
theorem isV_plc {L : List Ob} {a : Int} (h : isV L a = true) : ∃ i, ∃ hi : i < L.length, plc L a = some i ∧ lookO L a = L[i] := by
  obtain ⟨i, hi, rfl⟩ := isV_iff.1 h
  refine ⟨i, hi, plc_at hi, ?_⟩
  unfold lookO; rw [plc_at hi]; simp [List.getD_eq_getElem?_getD, List.getElem?_eq_getElem hi]
theorem snd_class {m : Hp} (h : Snd1 m) (a c : Int) : Snd1 (setClassV m a c).1 := by
  unfold setClassV
  split
  · rename_i hv
    split
    · rename_i hc
      obtain ⟨i, hi, hp, _⟩ := isV_plc hv
      have hm : m.L[i] ∈ m.L := List.getElem_mem hi
      show Snd1 { m with L := updL m.L a (fun o => ⟨c, o.fmt, o.hash, o.F⟩) }
      rw [updL_yes hp hi]
      exact snd_set h hi rfl hc (fun e x hx => h.1.wrd _ hm e x hx) (fun e x hx => h.1.byt _ hm e x hx)
    · exact h
  · exact h
theorem snd_put {m : Hp} (h : Snd1 m) (a i x : Int) : Snd1 (putV m a i x).1 := by
  unfold putV
  split
  · rename_i hv
    split
    · exact h
    · split
      · exact h
      · rename_i hb
        obtain ⟨j, hj, hp, hlk⟩ := isV_plc hv
        have hm : m.L[j] ∈ m.L := List.getElem_mem hj
        rw [hlk] at hb
        have hb' : badW m.L m.L[j] x = false := by simpa using hb
        unfold badW at hb'
        rw [Bool.or_eq_false_iff] at hb'
        show Snd1 { m with L := updL m.L a (fun o => ⟨o.cls, o.fmt, o.hash, o.F.set i.toNat x⟩) }
        rw [updL_yes hp hj]
        refine snd_set h hj (by simp) (h.1.cls m.L[j] hm) (fun e y hy => ?_) (fun e y hy => ?_)
        · have e' : m.L[j].fmt = 0 := e
          rcases List.mem_or_eq_of_mem_set (show y ∈ m.L[j].F.set i.toNat x from hy) with q | rfl
          · exact h.1.wrd _ hm e y q
          · have := hb'.1
            rw [e'] at this
            simpa using this
        · have e' : m.L[j].fmt = 2 := e
          rcases List.mem_or_eq_of_mem_set (show y ∈ m.L[j].F.set i.toNat x from hy) with q | rfl
          · exact h.1.byt _ hm e y q
          · have := hb'.2
            rw [e'] at this
            simp at this
            omega
  · exact h
theorem snd_flds {t : ThT} {o : List Int} {p : Int} {m : Hp} (h : Snd1 m) : ∀ k, Snd1 (flds t o p m k)
  | 0 => snd_class h _ _
  | k + 1 => snd_put (snd_flds h k) _ _ _
theorem snd_mk1 (T : Nat → ThT) : ∀ i, Snd1 (mk1 T i)
  | 0 => snd_nil 2000
  | i + 1 => snd_make (snd_mk1 T i) _ _
theorem snd_mk2 {T : Nat → ThT} {o : List Int} {m : Hp} (h : Snd1 m) : ∀ i, Snd1 (mk2 T o m i).1
  | 0 => h
  | i + 1 => by
    have ih := snd_mk2 (T := T) (o := o) h i
    unfold mk2
    split
    · exact ih
    · split
      · exact ih
      · exact snd_flds ih _
theorem snd_made (T : Nat → ThT) (n : Nat) : Snd1 (madeV T n) := snd_mk2 (snd_mk1 T _) _
/-- sizes stay -/
theorem size_flds {t : ThT} {o : List Int} {p : Int} {m : Hp} : ∀ k, (flds t o p m k).size = m.size
  | 0 => by unfold flds setClassV; repeat' split
            all_goals rfl
  | k + 1 => by
    have ih := size_flds (t := t) (o := o) (p := p) (m := m) k
    unfold flds putV
    repeat' split
    all_goals exact ih
theorem size_mk1 (T : Nat → ThT) : ∀ i, (mk1 T i).size = 2000
  | 0 => rfl
  | i + 1 => by
    have ih := size_mk1 T i
    unfold mk1 makeV
    repeat' split
    all_goals exact ih
theorem size_mk2 {T : Nat → ThT} {o : List Int} {m : Hp} : ∀ i, (mk2 T o m i).1.size = m.size
  | 0 => rfl
  | i + 1 => by
    have ih := size_mk2 (T := T) (o := o) (m := m) i
    unfold mk2
    repeat' split
    · exact ih
    · exact ih
    · rw [size_flds]; exact ih
theorem size_made (T : Nat → ThT) (n : Nat) : (madeV T n).size = 2000 := by unfold madeV; rw [size_mk2, size_mk1]
theorem body_few {m : Hp} {js : List Int} (h : Wr m js) (h20 : m.L.length ≤ 20) (h10 : js.length ≤ 10) : (sealV (bodyB m js)).length ≤ 100000 := by
  have h1 := cnt_len9 (n := m.made) (by have := h.good.made; omega)
  have h2 := cnt_len9 (n := m.L.length) (by omega)
  have h3 := cnt_len9 (n := js.length) (by omega)
  have h4 := flat_len (f := objB m.L) (b := 2340) m.L (fun o ho => objB_len h.good h.snd ho)
  have h5 := flat_len (f := fun x => cntV (codeW m.L x)) (b := 9) js (fun x hx => cnt_len9 (by have := codeW_le (L := m.L) (x := x) (by omega) (h.may x hx); omega))
  have : 2340 * m.L.length ≤ 2340 * 20 := Nat.mul_le_mul_left _ h20
  unfold sealV bodyB tailV
  simp only [List.length_append, List.length_cons, List.length_nil]
  omega
theorem tail_isB (s : Int) : IsB (tailV s) := fun x hx => by
  unfold tailV at hx
  simp at hx
  omega
theorem seal_isB {l : List Int} (h : IsB l) : IsB (sealV l) := h.app (tail_isB _)
end Go.Proofs.Ytfinpgkehjbcpaa
