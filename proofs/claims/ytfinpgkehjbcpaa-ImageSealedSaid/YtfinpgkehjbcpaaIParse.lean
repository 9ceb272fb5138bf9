/- Chapter 05, plain: what is read, whole. -/
import Derived.Test.YtfinpgkehjbcpaaIBuild
import Derived.Test.YtfinpgkehjbcpaaIO
namespace Go.Proofs.Ytfinpgkehjbcpaa
set_option linter.unusedVariables false
set_option linter.unusedSimpArgs false
def magicB : List Int := [86, 73, 86, 49]
/-- what the bytes behind the first four say -/
def parseA (l : List Int) : Nat × RdS := cntR 1099511627776 (some l)
def parseC (l : List Int) : Nat × RdS := cntR 1099511627776 (parseA l).2
def parseO (l : List Int) : List Tng × RdS := objsR (parseC l).1 (mustR (decide ((parseC l).1 ≤ (parseA l).1)) (parseC l).2)
def parseK (l : List Int) : Nat × RdS := cntR 4000 (parseO l).2
def parseW (l : List Int) : List Int × RdS := wrdsR (parseK l).1 (parseK l).2
structure Img where
  made : Nat
  ts : List Tng
  ws : List Int
def parse (l : List Int) : Option Img := if (parseW l).2 = some [] ∧ fitsV (parseO l).1 (parseW l).1 = true then some ⟨(parseA l).1, (parseO l).1, (parseW l).1⟩ else none
/-- what bytes say, sealed as they are -/
def imgV (b : List Int) : Option Img := if 8 ≤ b.length ∧ b.take 4 = magicB ∧ b.drop (b.length - 4) = tailV (sumV (b.take (b.length - 4))) then parse ((b.take (b.length - 4)).drop 4) else none
def readV (b : List Int) (size : Int) : Option Img × Int := match imgV b with
  | none => (none, 7)
  | some x => if okN size = true ∧ ((3 + szT x.ts : Nat) : Int) ≤ size then (some x, 0) else (none, 4)
/-- a count that was read as a word -/
def wPre (x : Int) : Prop := 0 ≤ x ∧ x ≤ 4611686018427387904 ∧ (3 ≤ x → x % 2 = 1 → (smallV (unfV ((x.toNat - 3) / 2))).2 = true)
structure TPre (t : Tng) : Prop where
  fmt : t.fmt ≤ 2
  len : t.F.length ≤ 256
  hash : -1099511627776 ≤ t.hash ∧ t.hash ≤ 1099511627776
  cls : wPre t.cls
  okc : t.cls = 0 ∨ (4 ≤ t.cls ∧ t.cls % 2 = 0)
  wrd : t.fmt = 0 → ∀ x, x ∈ t.F → wPre x
  num : t.fmt = 1 → ∀ x, x ∈ t.F → okI x = true
  byt : t.fmt = 2 → ∀ x, x ∈ t.F → 0 ≤ x ∧ x ≤ 255
theorem cntR_isB {m : Nat} {l l' : List Int} (h : (cntR m (some l)).2 = some l') : (∃ p, l = p ++ l') ∧ l'.length < l.length ∧ (cntR m (some l)).1 ≤ m ∧ decC 9 l = some ((cntR m (some l)).1, l') := by
  cases hd : decC 9 l with
  | none => rw [cntR_no hd] at h; cases h
  | some p =>
    obtain ⟨n2, l2⟩ := p
    by_cases q : n2 ≤ m
    · rw [cntR_some hd q] at h ⊢
      cases h
      obtain ⟨h1, h2⟩ := decC_len 9 l hd
      exact ⟨h2, h1, q, rfl⟩
    · rw [cntR_over hd q] at h; cases h
theorem mustR_some {b : Bool} {σ : RdS} {l : List Int} (h : mustR b σ = some l) : b = true ∧ σ = some l := by
  unfold mustR at h
  cases b
  · cases h
  · exact ⟨rfl, h⟩
theorem wrdR_some {σ : RdS} {l' : List Int} (h : (wrdR σ).2 = some l') : ∃ l, σ = some l ∧ l'.length < l.length ∧ (∃ p, l = p ++ l') ∧ wPre ((wrdR σ).1 : Int) ∧ decC 9 l = some ((wrdR σ).1, l') := by
  cases σ with
  | none => exfalso; obtain ⟨_, h2⟩ := mustR_some (b := !badS (cntR 4611686018427387904 none).1) (σ := none) h; cases h2
  | some l =>
    refine ⟨l, rfl, ?_⟩
    obtain ⟨h1, h2⟩ := mustR_some (b := !badS (cntR 4611686018427387904 (some l)).1) (σ := (cntR 4611686018427387904 (some l)).2) h
    obtain ⟨k1, k2, k3, k4⟩ := cntR_isB h2
    refine ⟨k2, k1, ⟨by omega, by show ((cntR 4611686018427387904 (some l)).1 : Int) ≤ _; omega, fun h3 h4 => ?_⟩, k4⟩
    have h1' : badS (cntR 4611686018427387904 (some l)).1 = false := by simpa using h1
    unfold badS at h1'
    have h3' : 3 ≤ (cntR 4611686018427387904 (some l)).1 := by have : (3 : Int) ≤ ((cntR 4611686018427387904 (some l)).1 : Int) := h3; omega
    have h4' : (cntR 4611686018427387904 (some l)).1 % 2 = 1 := by have : ((cntR 4611686018427387904 (some l)).1 : Int) % 2 = 1 := h4; omega
    rw [decide_eq_true h3', decide_eq_true h4'] at h1'
    have : (((wrdR (some l)).1 : Nat) : Int).toNat = (cntR 4611686018427387904 (some l)).1 := Int.toNat_natCast _
    rw [this]
    simpa using h1'
theorem numR_some {σ : RdS} {l' : List Int} (h : (numR σ).2 = some l') : ∃ l, σ = some l ∧ l'.length < l.length ∧ (∃ p, l = p ++ l') ∧ okI (numR σ).1 = true ∧ decC 9 l = some (foldV (numR σ).1, l') := by
  cases σ with
  | none => cases h
  | some l =>
    refine ⟨l, rfl, ?_⟩
    have h2 : (cntR 4611686018427387903 (some l)).2 = some l' := h
    obtain ⟨k1, k2, k3, k4⟩ := cntR_isB h2
    refine ⟨k2, k1, decide_eq_true ?_, ?_⟩
    · show -2305843009213693952 ≤ unfV _ ∧ unfV _ < 2305843009213693952
      unfold unfV
      split <;> omega
    · show decC 9 l = some (foldV (unfV _), l')
      rw [fold_unf]; exact k4
theorem byteR_some {σ : RdS} {l' : List Int} (h : (byteR σ).2 = some l') : σ = some ((byteR σ).1 :: l') := by
  match σ, h with
  | some (c :: l), h => cases h; rfl
def fOk (f : Nat) (x : Int) : Prop := (f = 0 → wPre x) ∧ (f = 1 → okI x = true) ∧ (f = 2 → 0 ≤ x ∧ x ≤ 255)
theorem fldR_some {f : Nat} {σ : RdS} {l' : List Int} (hf : f ≤ 2) (h : (fldR f σ).2 = some l') : ∃ l, σ = some l ∧ l'.length < l.length ∧ (∃ p, l = p ++ l') ∧ (IsB l → fOk f (fldR f σ).1) := by
  rcases (show f = 0 ∨ f = 1 ∨ f = 2 by omega) with rfl | rfl | rfl
  · obtain ⟨l, h1, h2, h3, h4, _⟩ := wrdR_some (σ := σ) h
    exact ⟨l, h1, h2, h3, fun _ => ⟨fun _ => h4, fun q => absurd q (by decide), fun q => absurd q (by decide)⟩⟩
  · obtain ⟨l, h1, h2, h3, h4, _⟩ := numR_some (σ := σ) h
    exact ⟨l, h1, h2, h3, fun _ => ⟨fun q => absurd q (by decide), fun _ => h4, fun q => absurd q (by decide)⟩⟩
  · have h1 := byteR_some (σ := σ) h
    exact ⟨_, h1, by simp, ⟨[_], rfl⟩, fun hb => ⟨fun q => absurd q (by decide), fun q => absurd q (by decide), fun _ => hb _ (List.mem_cons_self ..)⟩⟩
theorem isB_suf {l p l' : List Int} (h : IsB l) (e : l = p ++ l') : IsB l' := fun x hx => h x (by rw [e]; simp [hx])
theorem fldsR_some {f : Nat} (hf : f ≤ 2) : ∀ (n : Nat) {σ : RdS} {l' : List Int}, (fldsR f n σ).2 = some l' → ∃ l, σ = some l ∧ l'.length ≤ l.length ∧ (∃ p, l = p ++ l') ∧ (fldsR f n σ).1.length = n ∧ (IsB l → ∀ x, x ∈ (fldsR f n σ).1 → fOk f x)
  | 0, σ, l', h => ⟨l', h, Nat.le_refl _, ⟨[], rfl⟩, rfl, fun _ x hx => absurd hx (by simp [fldsR])⟩
  | n + 1, none, l', h => by cases h
  | n + 1, some l, l', h => by
    have h' : (fldsR f n (fldR f (some l)).2).2 = some l' := h
    obtain ⟨l1, h1, h2, ⟨p1, h3⟩, h4, h5⟩ := fldsR_some hf n h'
    obtain ⟨l0, e0, k2, ⟨p2, k3⟩, k4⟩ := fldR_some hf h1
    cases e0
    refine ⟨l, rfl, by omega, ⟨p2 ++ p1, by rw [k3, h3, List.append_assoc]⟩, ?_, fun hb x hx => ?_⟩
    · show (_ :: (fldsR f n (fldR f (some l)).2).1).length = n + 1
      rw [List.length_cons, h4]
    · have hx' : x ∈ (fldR f (some l)).1 :: (fldsR f n (fldR f (some l)).2).1 := hx
      rcases List.mem_cons.1 hx' with rfl | q
      · exact k4 hb
      · exact h5 (isB_suf hb k3) x q
theorem objR_some {σ : RdS} {l' : List Int} (h : (objR σ).2 = some l') : ∃ l, σ = some l ∧ l'.length < l.length ∧ (∃ p, l = p ++ l') ∧ (IsB l → TPre (objR σ).1) := by
  have hle := cntR_le 2 σ
  have h7 : (fldsR (cntR 2 σ).1 (cntR 256 (cntR 2 σ).2).1 (mustR (okC (wrdR (numR (cntR 256 (cntR 2 σ).2).2).2).1) (mustR (okH (numR (cntR 256 (cntR 2 σ).2).2).1) (wrdR (numR (cntR 256 (cntR 2 σ).2).2).2).2))).2 = some l' := h
  obtain ⟨l6, h6, q1, ⟨p6, q2⟩, q3, q4⟩ := fldsR_some hle _ h7
  obtain ⟨oc, h5⟩ := mustR_some h6
  obtain ⟨oh, h4⟩ := mustR_some h5
  obtain ⟨l3, h3, r1, ⟨p3, r2⟩, r3, _⟩ := wrdR_some h4
  obtain ⟨l2, h2, s1, ⟨p2, s2⟩, s3, _⟩ := numR_some h3
  cases hc : (cntR 2 σ).2 with
  | none => rw [hc] at h2; cases h2
  | some l1 =>
    rw [hc] at h2
    obtain ⟨⟨p1, t1⟩, t2, t3, _⟩ := cntR_isB h2
    cases σ with
    | none => cases hc
    | some l =>
      obtain ⟨⟨p0, u1⟩, u2, u3, _⟩ := cntR_isB hc
      refine ⟨l, rfl, by omega, ⟨p0 ++ p1 ++ p2 ++ p3 ++ p6, by rw [u1, t1, s2, r2, q2]; simp⟩, fun hb => ?_⟩
      have hb1 := isB_suf hb u1
      have hb2 := isB_suf hb1 t1
      have hb3 := isB_suf hb2 s2
      have hb6 := isB_suf hb3 r2
      have hF := q4 hb6
      refine ⟨hle, ?_, ?_, r3, ?_, fun e x hx => (hF x hx).1 e, fun e x hx => (hF x hx).2.1 e, fun e x hx => (hF x hx).2.2 e⟩
      · show (fldsR _ _ _).1.length ≤ 256
        rw [q3, hc]; exact t3
      · unfold okH at oh
        have hh := oh
        simp only [Bool.and_eq_true, decide_eq_true_eq] at hh
        exact hh
      · unfold okC at oc
        have hh := oc
        simp only [Bool.and_eq_true, Bool.or_eq_true, decide_eq_true_eq] at hh
        exact hh
theorem objR_len (σ : RdS) : (objR σ).1.F.length ≤ 256 := by
  have h : ∀ f n σ, (fldsR f n σ).1.length ≤ n := by
    intro f n
    induction n with
    | zero => intro σ; exact Nat.le_refl _
    | succ n ih =>
      intro σ
      cases σ with
      | none => exact Nat.zero_le _
      | some l => show (_ :: (fldsR f n _).1).length ≤ n + 1; rw [List.length_cons]; have := ih (fldR f (some l)).2; omega
  exact Nat.le_trans (h _ _ _) (cntR_le 256 _)
theorem objsR_some : ∀ (n : Nat) {σ : RdS} {l' : List Int}, (objsR n σ).2 = some l' → ∃ l, σ = some l ∧ (objsR n σ).1.length = n ∧ l'.length + n ≤ l.length ∧ (∃ p, l = p ++ l') ∧ (IsB l → ∀ t, t ∈ (objsR n σ).1 → TPre t)
  | 0, σ, l', h => ⟨l', h, rfl, Nat.le_refl _, ⟨[], rfl⟩, fun _ t ht => absurd ht (by simp [objsR])⟩
  | n + 1, none, l', h => by cases h
  | n + 1, some l, l', h => by
    have h' : (objsR n (objR (some l)).2).2 = some l' := h
    obtain ⟨l1, h1, h2, h3, ⟨p1, h4⟩, h5⟩ := objsR_some n h'
    obtain ⟨l0, e0, k2, ⟨p2, k3⟩, k4⟩ := objR_some h1
    cases e0
    refine ⟨l, rfl, ?_, by omega, ⟨p2 ++ p1, by rw [k3, h4, List.append_assoc]⟩, fun hb t ht => ?_⟩
    · show (_ :: (objsR n (objR (some l)).2).1).length = n + 1
      rw [List.length_cons, h2]
    · have ht' : t ∈ (objR (some l)).1 :: (objsR n (objR (some l)).2).1 := ht
      rcases List.mem_cons.1 ht' with rfl | q
      · exact k4 hb
      · exact h5 (isB_suf hb k3) t q
theorem wrdsR_some : ∀ (n : Nat) {σ : RdS} {l' : List Int}, (wrdsR n σ).2 = some l' → ∃ l, σ = some l ∧ (wrdsR n σ).1.length = n ∧ l'.length + n ≤ l.length ∧ (∃ p, l = p ++ l') ∧ (∀ x, x ∈ (wrdsR n σ).1 → wPre x)
  | 0, σ, l', h => ⟨l', h, rfl, Nat.le_refl _, ⟨[], rfl⟩, fun x hx => absurd hx (by simp [wrdsR])⟩
  | n + 1, none, l', h => by cases h
  | n + 1, some l, l', h => by
    have h' : (wrdsR n (wrdR (some l)).2).2 = some l' := h
    obtain ⟨l1, h1, h2, h3, ⟨p1, h4⟩, h5⟩ := wrdsR_some n h'
    obtain ⟨l0, e0, k2, ⟨p2, k3⟩, k4, _⟩ := wrdR_some h1
    cases e0
    refine ⟨l, rfl, ?_, by omega, ⟨p2 ++ p1, by rw [k3, h4, List.append_assoc]⟩, fun x hx => ?_⟩
    · show (_ :: (wrdsR n (wrdR (some l)).2).1).length = n + 1
      rw [List.length_cons, h2]
    · have hx' : x ∈ ((wrdR (some l)).1 : Int) :: (wrdsR n (wrdR (some l)).2).1 := hx
      rcases List.mem_cons.1 hx' with rfl | q
      · exact k4
      · exact h5 x q
theorem wOk_of {n : Nat} {x : Int} (h : wPre x) (ho : oddV n x = false) : wOk n x := by
  refine ⟨h.1, h.2.1, h.2.2, fun h4 h2 => ?_⟩
  unfold oddV at ho
  rw [decide_eq_true h4, decide_eq_true h2] at ho
  have : ¬ ((n : Int) ≤ (x - 4) / 2) := by simpa using ho
  omega
theorem tOk_of {n : Nat} {t : Tng} (h : TPre t) (hf : fitT n t = true) : TOk n t := by
  unfold fitT at hf
  have h1 : oddV n (t.cls : Int) = false := by
    cases q : oddV n (t.cls : Int)
    · rfl
    · rw [q] at hf; simp at hf
  refine ⟨h.fmt, h.len, h.hash, wOk_of h.cls h1, h.okc, fun e x hx => wOk_of (h.wrd e x hx) ?_, h.num, h.byt⟩
  rw [h1, decide_eq_true (by omega)] at hf
  have h2 : t.F.any (oddV n) = false := by simpa using hf
  rw [List.any_eq_false] at h2
  simpa using h2 x hx
theorem parse_pre {l : List Int} (hb : IsB l) (h1 : (parseW l).2 = some []) : (∀ t, t ∈ (parseO l).1 → TPre t) ∧ (∀ y, y ∈ (parseW l).1 → wPre y) ∧ (parseO l).1.length ≤ (parseA l).1 ∧ (parseA l).1 ≤ 1099511627776 ∧ (parseW l).1.length ≤ 4000 ∧ (parseO l).1.length ≤ l.length := by
  obtain ⟨lk, e1, k1, k2, ⟨p1, k3⟩, k4⟩ := wrdsR_some (parseK l).1 (σ := (parseK l).2) h1
  cases ho : (parseO l).2 with
  | none =>
    exfalso
    have : (cntR 4000 (parseO l).2).2 = some lk := e1
    rw [ho] at this; cases this
  | some lo =>
    have e2 : (cntR 4000 (some lo)).2 = some lk := by rw [← ho]; exact e1
    obtain ⟨⟨p2, m1⟩, m2, m3, _⟩ := cntR_isB e2
    obtain ⟨lc, e3, n1, n2, ⟨p3, n3⟩, n4⟩ := objsR_some (parseC l).1 (σ := mustR (decide ((parseC l).1 ≤ (parseA l).1)) (parseC l).2) ho
    obtain ⟨o1, o2⟩ := mustR_some e3
    cases ha : (parseA l).2 with
    | none =>
      exfalso
      have : (cntR 1099511627776 (parseA l).2).2 = some lc := o2
      rw [ha] at this; cases this
    | some la =>
      have e4 : (cntR 1099511627776 (some la)).2 = some lc := by rw [← ha]; exact o2
      obtain ⟨⟨p4, r1⟩, r2, r3, _⟩ := cntR_isB e4
      have e5 : (cntR 1099511627776 (some l)).2 = some la := ha
      obtain ⟨⟨p5, t1⟩, t2, t3, _⟩ := cntR_isB e5
      have hlen : (parseO l).1.length = (parseC l).1 := n1
      have hbc : IsB lc := isB_suf (isB_suf hb t1) r1
      refine ⟨n4 hbc, k4, ?_, t3, ?_, by rw [hlen]; omega⟩
      · rw [hlen]; exact of_decide_eq_true o1
      · have : (parseW l).1.length = (parseK l).1 := k1
        rw [this]
        exact cntR_le 4000 _
theorem parse_ok {l : List Int} {x : Img} (hb : IsB l) (h : parse l = some x) : (∀ t, t ∈ x.ts → TOk x.ts.length t) ∧ (∀ y, y ∈ x.ws → wOk x.ts.length y) ∧ x.ts.length ≤ x.made ∧ x.made ≤ 1099511627776 ∧ x.ws.length ≤ 4000 ∧ x.ts.length ≤ l.length := by
  unfold parse at h
  split at h
  · rename_i hq
    obtain ⟨h1, h2⟩ := hq
    cases h
    obtain ⟨q1, q2, q3, q4, q5, q6⟩ := parse_pre hb h1
    unfold fitsV at h2
    rw [Bool.and_eq_true, List.all_eq_true] at h2
    refine ⟨fun t ht => tOk_of (q1 t ht) (h2.1 t ht), fun y hy => wOk_of (q2 y hy) ?_, q3, q4, q5, q6⟩
    have h3 : (parseW l).1.any (oddV (parseO l).1.length) = false := by simpa using h2.2
    rw [List.any_eq_false] at h3
    simpa using h3 y hy
  · cases h
theorem tPre_in {t : Tng} (h : TPre t) : InI (t.cls : Int) ∧ ∀ x, x ∈ t.F → InI x := by
  refine ⟨by have := h.cls.1; have := h.cls.2.1; show _ ∧ _; omega, fun x hx => ?_⟩
  have := h.fmt
  rcases (show t.fmt = 0 ∨ t.fmt = 1 ∨ t.fmt = 2 by omega) with e | e | e
  · have := h.wrd e x hx; have := this.1; have := (h.wrd e x hx).2.1; show _ ∧ _; omega
  · have := of_decide_eq_true (h.num e x hx); show _ ∧ _; omega
  · have := h.byt e x hx; show _ ∧ _; omega
end Go.Proofs.Ytfinpgkehjbcpaa
