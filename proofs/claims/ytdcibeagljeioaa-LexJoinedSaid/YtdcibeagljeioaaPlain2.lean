/- Chapter 06: what tokens are: what follows of it. -/
import Derived.Test.YtdcibeagljeioaaPlain
namespace Go.Proofs.Ytdcibeagljeioaa
theorem nm_pos {c : UInt8} (r : Bs) (h : letB c = true) : 1 ≤ nmLen (c :: r) := by simp [nmLen, alnB, h]
theorem dig_pos {c : UInt8} (r : Bs) (h : digB c = true) : 1 ≤ digLen (c :: r) := by simp [digLen, h]
theorem sg_pos {c : UInt8} (r : Bs) (h : signB c = true) : 1 ≤ sgLen (c :: r) := by simp [sgLen, h]; omega
theorem hd_cons {p : UInt8 → Bool} {l : Bs} (h : hd p l = true) : ∃ c r, l = c :: r ∧ p c = true := by
  cases l with
  | nil => cases h
  | cons c r => exact ⟨c, r, rfl, h⟩
theorem sym_le {l t : Bs} {n : Nat} (h : symV l = .ok t n) : n ≤ l.length := by
  have h1 := nmLen_le l
  have h2 := sgLen_le l
  unfold symV at h
  split at h
  · simp only [Took.ok.injEq] at h; omega
  · split at h
    · split at h
      · cases h
      · split at h
        · next hc =>
          have := colonB_lt hc
          simp only [List.length_drop] at this
          cases hk : kws l.length (l.drop (nmLen l + 1)) with
          | none => rw [hk] at h; cases h
          | some k =>
            rw [hk] at h
            have hk' := kws_le _ _ _ hk
            simp only [List.length_drop] at hk'
            simp only [Took.ok.injEq] at h; omega
        · simp only [Took.ok.injEq] at h; omega
    · cases h
theorem wrd_le {l : Bs} {t : Tok} {n : Nat} (h : wrdV l = .ok t n) (h0 : 1 ≤ nmLen l) : 1 ≤ n ∧ n ≤ l.length ∧ t.kind ≠ 0 := by
  have h1 := nmLen_le l
  unfold wrdV at h
  split at h
  · cases h
  · split at h
    · next hc =>
      have := colonB_lt hc
      simp only [List.length_drop] at this
      simp only [Took.ok.injEq] at h
      obtain ⟨rfl, rfl⟩ := h
      exact ⟨by omega, by omega, by simp⟩
    · simp only [Took.ok.injEq] at h
      obtain ⟨rfl, rfl⟩ := h
      exact ⟨by omega, by omega, by simp⟩
theorem tok_pos {l : Bs} {t : Tok} {n : Nat} (h : tokV l = .ok t n) : 1 ≤ n ∧ n ≤ l.length ∧ t.kind ≠ 0 := by
  match l with
  | [] => cases h
  | c :: r =>
    have hr := nmLen_le r
    have hs := sgLen_le (c :: r)
    have hdl := digLen_le (c :: r)
    simp only [tokV] at h
    by_cases q1 : letB c = true
    · rw [if_pos q1] at h; exact wrd_le h (nm_pos r q1)
    · rw [if_neg q1] at h
      by_cases q2 : digB c = true
      · rw [if_pos q2] at h
        have := dig_pos r q2
        cases hn : numV (c :: r) 0 with
        | none => rw [hn] at h; cases h
        | some v => rw [hn] at h; simp only [Took.ok.injEq] at h; obtain ⟨rfl, rfl⟩ := h; exact ⟨this, hdl, by simp⟩
      · rw [if_neg q2] at h
        by_cases q3 : (c == 39) = true
        · rw [if_pos q3] at h
          cases hx : txt r with
          | none => rw [hx] at h; cases h
          | some z =>
            have := txt_le r z.1 z.2 hx
            rw [hx] at h; simp only [Took.ok.injEq] at h; obtain ⟨rfl, rfl⟩ := h
            exact ⟨by omega, by simp; omega, by simp⟩
        · rw [if_neg q3] at h
          by_cases q4 : (c == 35) = true
          · rw [if_pos q4] at h
            by_cases q5 : hd (· == 40) r = true
            · rw [if_pos q5] at h
              have := hd_pos q5
              simp only [Took.ok.injEq] at h; obtain ⟨rfl, rfl⟩ := h
              exact ⟨by omega, by simp; omega, by simp⟩
            · rw [if_neg q5] at h
              cases hx : symV r with
              | err e => rw [hx] at h; cases h
              | ok u m =>
                have := sym_le hx
                rw [hx] at h; simp only [Took.ok.injEq] at h; obtain ⟨rfl, rfl⟩ := h
                exact ⟨by omega, by simp; omega, by simp⟩
          · rw [if_neg q4] at h
            by_cases q5 : (c == 58 && hd (· == 61) r) = true
            · rw [if_pos q5] at h
              simp only [Bool.and_eq_true] at q5
              have := hd_pos q5.2
              simp only [Took.ok.injEq] at h; obtain ⟨rfl, rfl⟩ := h
              exact ⟨by omega, by simp; omega, by simp⟩
            · rw [if_neg q5] at h
              by_cases q6 : (c == 58 && hd letB r) = true
              · rw [if_pos q6] at h
                split at h
                · cases h
                · simp only [Took.ok.injEq] at h; obtain ⟨rfl, rfl⟩ := h
                  exact ⟨by omega, by simp; omega, by simp⟩
              · rw [if_neg q6] at h
                by_cases q7 : signB c = true
                · rw [if_pos q7] at h
                  have := sg_pos r q7
                  simp only [Took.ok.injEq] at h; obtain ⟨rfl, rfl⟩ := h
                  exact ⟨this, hs, by simp⟩
                · rw [if_neg q7] at h
                  split at h
                  · simp only [Took.ok.injEq] at h; obtain ⟨rfl, rfl⟩ := h
                    exact ⟨by omega, by simp, by simp⟩
                  · cases h
theorem toks_fuel : ∀ (f g at_ : Nat) (l : Bs), l.length < f → l.length < g → toksF f at_ l = toksF g at_ l
  | 0, g, at_, l, hf, hg => by omega
  | f + 1, 0, at_, l, hf, hg => by omega
  | f + 1, g + 1, at_, l, hf, hg => by
    have hk := skip_le l
    simp only [toksF]
    split
    · rfl
    · split
      · rfl
      · cases hx : tokV (l.drop (skipV l).1) with
        | err e => rfl
        | ok t n =>
          have := tok_pos hx
          simp only [List.length_drop] at this
          simp only
          rw [toks_fuel f g _ (l.drop ((skipV l).1 + n)) (by simp; omega) (by simp; omega)]
def ATok.shift (d : Nat) (t : ATok) : ATok := ⟨t.kind, t.text, t.num, t.at_ + d⟩
def Toks.shift (d : Nat) : Toks → Toks
  | .err a e => .err (a + d) e
  | .ok l => .ok (l.map (ATok.shift d))
theorem toks_shift : ∀ (f at_ d : Nat) (l : Bs), toksF f (at_ + d) l = (toksF f at_ l).shift d
  | 0, at_, d, l => rfl
  | f + 1, at_, d, l => by
    simp only [toksF]
    split
    · simp only [Toks.shift, Toks.err.injEq, and_true]; omega
    · split
      · simp only [Toks.shift, List.map, ATok.shift, Toks.ok.injEq, List.cons.injEq, ATok.mk.injEq, and_true, true_and]; omega
      · cases hx : tokV (l.drop (skipV l).1) with
        | err e => simp only [Toks.shift, Toks.err.injEq, and_true]; omega
        | ok t n =>
          simp only
          rw [show at_ + d + (skipV l).1 + n = (at_ + (skipV l).1 + n) + d by omega, toks_shift f _ d]
          cases toksF f (at_ + (skipV l).1 + n) (l.drop ((skipV l).1 + n)) with
          | err a e => rfl
          | ok B => simp only [Toks.cons, Toks.shift, List.map, ATok.shift, Toks.ok.injEq, List.cons.injEq, ATok.mk.injEq, and_true, true_and]; omega
/-- blanks and remarks that are whole -/
def Whole (p : Bs) : Prop := ∀ x, skipV (p ++ x) = (p.length + (skipV x).1, (skipV x).2)
theorem whole_nil : Whole [] := fun x => by simp
theorem whole_app {p q : Bs} (hp : Whole p) (hq : Whole q) : Whole (p ++ q) := fun x => by
  rw [List.append_assoc, hp, hq]; simp; omega
theorem whole_blank {c : UInt8} (h : blankB c = true) : Whole [c] := fun x => by
  simp only [List.cons_append, List.nil_append]
  rw [skip_cons, if_pos h]; simp; omega
theorem whole_skip {l : Bs} (h : (skipV l).2 = false) : Whole (l.take (skipV l).1) := fun x => by
  rw [skip_pre x h, List.length_take, Nat.min_eq_left (skip_le l)]
theorem rem_of : ∀ (q x : Bs), (∀ c ∈ q, c ≠ 34) → remV (q ++ 34 :: x) = some q.length
  | [], x, h => by simp [remV]
  | c :: q, x, h => by
    have hc : c ≠ 34 := h c (by simp)
    simp only [List.cons_append, remV]
    rw [if_neg (by simpa using hc), rem_of q x (fun d hd => h d (by simp [hd]))]
    rfl
theorem whole_rem {q : Bs} (h : ∀ c ∈ q, c ≠ 34) : Whole (34 :: (q ++ [34])) := fun x => by
  have e : 34 :: (q ++ [34]) ++ x = 34 :: (q ++ 34 :: x) := by simp
  rw [e, skip_cons, if_neg (by decide), if_pos (by decide), rem_of q x h]
  simp only
  rw [show q ++ 34 :: x = (q ++ [34]) ++ x by simp, List.drop_left' (by simp)]
  simp; omega
theorem toks_pre {p : Bs} (hp : Whole p) (f at_ : Nat) (l : Bs) : toksF (f + 1) at_ (p ++ l) = toksF (f + 1) (at_ + p.length) l := by
  simp only [toksF, hp l]
  have e : ∀ k, (p ++ l).drop (p.length + k) = l.drop k := fun k => by rw [← List.drop_drop, List.drop_left]
  have e2 : ∀ k n, (p ++ l).drop (p.length + k + n) = l.drop (k + n) := fun k n => by rw [Nat.add_assoc, e]
  simp only [List.length_append, e, e2, ← Nat.add_assoc, Nat.add_left_cancel_iff]
def tz : ATok := ⟨0, [], 0, 0⟩
theorem rise : ∀ (f at_ : Nat) (l : Bs) (A : List ATok), toksF f at_ l = .ok A → l.length < f →
    (∃ a r, A = a :: r ∧ a.at_ = at_ + (skipV l).1 ∧ (skipV l).2 = false) ∧ (∀ i, i + 1 < A.length → (A.getD i tz).kind ≠ 0 ∧ (A.getD i tz).at_ < (A.getD (i + 1) tz).at_) ∧ (A.getD (A.length - 1) tz).kind = 0 ∧ (A.getD (A.length - 1) tz).at_ = at_ + l.length
  | 0, at_, l, A, h, hf => by omega
  | f + 1, at_, l, A, h, hf => by
    have hk := skip_le l
    simp only [toksF] at h
    split at h
    · cases h
    · next ho =>
      split at h
      · next he =>
        simp only [Toks.ok.injEq] at h
        subst h
        refine ⟨⟨_, _, rfl, rfl, by simpa using ho⟩, fun i hi => by simp at hi, rfl, ?_⟩
        show at_ + (skipV l).1 = _; omega
      · next he =>
        cases hx : tokV (l.drop (skipV l).1) with
        | err e => rw [hx] at h; cases h
        | ok t n =>
          rw [hx] at h
          have hp := tok_pos hx
          simp only [List.length_drop] at hp
          simp only at h
          cases hy : toksF f (at_ + (skipV l).1 + n) (l.drop ((skipV l).1 + n)) with
          | err a e => rw [hy] at h; cases h
          | ok B =>
            rw [hy] at h
            simp only [Toks.cons, Toks.ok.injEq] at h
            subst h
            obtain ⟨⟨a, r, rfl, ha, _⟩, h2, h3, h4⟩ := rise f _ _ B hy (by simp; omega)
            refine ⟨⟨_, _, rfl, rfl, by simpa using ho⟩, fun i hi => ?_, ?_, ?_⟩
            · cases i with
              | zero => exact ⟨hp.2.2, by show at_ + (skipV l).1 < a.at_; omega⟩
              | succ i => exact h2 i (by simp at hi ⊢; omega)
            · simpa using h3
            · have : (a :: r).length - 1 + 1 = (a :: r).length := by simp
              simp only [List.length_cons, Nat.add_sub_cancel] at h4 ⊢
              rw [List.getD_cons_succ, h4]; simp; omega
/-- each token's bytes up to the next one, and a blank -/
def spA (s : Bs) : List ATok → Bs
  | a :: b :: r => (s.drop a.at_).take (b.at_ - a.at_) ++ 32 :: spA s (b :: r)
  | _ => []
def same3 (t : ATok) : Int × Bs × Int := (t.kind, t.text, t.num)
theorem spaced : ∀ (f at_ : Nat) (s : Bs) (A : List ATok), toksF f at_ (s.drop at_) = .ok A → (s.drop at_).length < f → at_ ≤ s.length →
    ∀ g at', (spA s A).length < g → ∃ B, toksF g at' (spA s A) = .ok B ∧ B.map same3 = A.map same3
  | 0, at_, s, A, h, hf, hs => by omega
  | f + 1, at_, s, A, h, hf, hs => by
    intro g at' hg
    have hk := skip_le (s.drop at_)
    generalize hl : s.drop at_ = l at h hf hk
    simp only [toksF] at h
    split at h
    · cases h
    · next ho =>
      have ho' : (skipV l).2 = false := by simpa using ho
      split at h
      · next he =>
        simp only [Toks.ok.injEq] at h
        subst h
        obtain ⟨g, rfl⟩ : ∃ g', g = g' + 1 := ⟨g - 1, by omega⟩
        refine ⟨[⟨0, [], 0, at'⟩], by simp [spA, toksF, skip_nil], by simp [same3]⟩
      · next he =>
        cases hx : tokV (l.drop (skipV l).1) with
        | err e => rw [hx] at h; cases h
        | ok t n =>
          rw [hx] at h
          have hp := tok_pos hx
          simp only [List.length_drop] at hp
          simp only at h
          cases hy : toksF f (at_ + (skipV l).1 + n) (l.drop ((skipV l).1 + n)) with
          | err a e => rw [hy] at h; cases h
          | ok B =>
            rw [hy] at h
            simp only [Toks.cons, Toks.ok.injEq] at h
            subst h
            have hl2 : l.drop ((skipV l).1 + n) = s.drop (at_ + (skipV l).1 + n) := by rw [← hl, List.drop_drop]; congr 1; omega
            have hlen : l.length = s.length - at_ := by rw [← hl, List.length_drop]
            rw [hl2] at hy
            have hf2 : (s.drop (at_ + (skipV l).1 + n)).length < f := by simp; omega
            obtain ⟨⟨b, r, rfl, hb, hbo⟩, _⟩ := rise f _ _ B hy hf2
            have ih := spaced f _ s (b :: r) hy hf2 (by omega)
            have hq := skip_le (s.drop (at_ + (skipV l).1 + n))
            -- the bytes: the token's, what is skipped, a blank
            have hc : (s.drop (at_ + (skipV l).1)).take (b.at_ - (at_ + (skipV l).1)) = (l.drop (skipV l).1).take n ++ (s.drop (at_ + (skipV l).1 + n)).take (skipV (s.drop (at_ + (skipV l).1 + n))).1 := by
              rw [hb, show at_ + (skipV l).1 + n + (skipV (s.drop (at_ + (skipV l).1 + n))).1 - (at_ + (skipV l).1) = n + (skipV (s.drop (at_ + (skipV l).1 + n))).1 by omega, List.take_add, ← hl, List.drop_drop, List.drop_drop]
            have hsp : spA s (⟨t.kind, t.text, t.num, at_ + (skipV l).1⟩ :: b :: r) = (l.drop (skipV l).1).take n ++ ((s.drop (at_ + (skipV l).1 + n)).take (skipV (s.drop (at_ + (skipV l).1 + n))).1 ++ [32] ++ spA s (b :: r)) := by
              simp only [spA, hc, List.append_assoc, List.cons_append, List.nil_append]
            rw [hsp] at hg ⊢
            generalize hsr : spA s (b :: r) = sr at hg ih ⊢
            generalize hbb : (s.drop (at_ + (skipV l).1 + n)).take (skipV (s.drop (at_ + (skipV l).1 + n))).1 = bb at hg ⊢
            have hw : Whole (bb ++ [32]) := whole_app (by rw [← hbb]; exact whole_skip hbo) (whole_blank (by decide))
            have hcl : ((l.drop (skipV l).1).take n).length = n := by simp; omega
            have hsep : Sep (bb ++ [32] ++ sr) := by
              cases hbc : bb with
              | nil => exact Sep.blank _
              | cons d q =>
                refine Sep.cons _ ?_
                have hd0 : hd (fun c => blankB c || c == 34) (s.drop (at_ + (skipV l).1 + n)) = true := by
                  cases hsd : s.drop (at_ + (skipV l).1 + n) with
                  | nil => rw [hsd] at hbb; rw [hbc] at hbb; simp at hbb
                  | cons d' q' =>
                    cases hz : hd (fun c => blankB c || c == 34) (d' :: q') with
                    | true => rfl
                    | false => rw [hsd, skip_none hz, hbc] at hbb; simp at hbb
                cases hsd : s.drop (at_ + (skipV l).1 + n) with
                | nil => rw [hsd] at hd0; cases hd0
                | cons d' q' =>
                  rw [hsd] at hd0 hbb
                  rw [hbc] at hbb
                  obtain ⟨m, hm⟩ : ∃ m, (skipV (d' :: q')).1 = m := ⟨_, rfl⟩
                  rw [hm] at hbb
                  cases m with
                  | zero => simp at hbb
                  | succ m =>
                    simp at hbb
                    simp [hd] at hd0
                    rw [← hbb.1]; exact hd0
            have hx' : tokV ((l.drop (skipV l).1).take n ++ (l.drop (skipV l).1).drop n) = .ok t ((l.drop (skipV l).1).take n).length := by rw [List.take_append_drop, hcl]; exact hx
            have hx2 := tok_local (y := bb ++ [32] ++ sr) hx' (by omega) hsep
            rw [hcl] at hx2
            have hsk : skipV ((l.drop (skipV l).1).take n ++ (bb ++ [32] ++ sr)) = (0, false) := by
              have h2 := skip_drop ho'
              rw [← List.take_append_drop n (l.drop (skipV l).1)] at h2
              exact skip_none (by rw [hd_app ((l.drop (skipV l).1).drop n) _ (by omega)]; exact h2)
            obtain ⟨g, rfl⟩ : ∃ g', g = g' + 1 := ⟨g - 1, by omega⟩
            simp only [List.length_append, hcl, List.length_cons, List.length_nil] at hg
            obtain ⟨g, rfl⟩ : ∃ g', g = g' + 1 := ⟨g - 1, by omega⟩
            obtain ⟨B, hB, hB2⟩ := ih (g + 1) (at' + n + (bb ++ [32]).length) (by omega)
            refine ⟨⟨t.kind, t.text, t.num, at' + 0⟩ :: B, ?_, by simp only [List.map, hB2]; rfl⟩
            have hne : ¬ (0 = ((l.drop (skipV l).1).take n ++ (bb ++ [32] ++ sr)).length) := by simp only [List.length_append, hcl]; omega
            rw [toksF]
            simp only [hsk, List.drop_zero, hx2, Nat.zero_add]
            rw [if_neg (by simp), if_neg hne, List.drop_left' hcl]
            rw [show at' + 0 + n = at' + n by omega, toks_pre hw, hB]
            rfl
def Toks.app (L : List ATok) : Toks → Toks
  | .err a e => .err a e
  | .ok B => .ok (L ++ B)
theorem joined : ∀ (f at_ : Nat) (l : Bs) (A : List ATok) (t : Bs), toksF f at_ l = .ok A → l.length < f → ∀ g, (l ++ 32 :: t).length < g →
    toksF g at_ (l ++ 32 :: t) = Toks.app A.dropLast (toksF g (at_ + l.length + 1) t)
  | 0, at_, l, A, t, h, hf => by omega
  | f + 1, at_, l, A, t, h, hf => by
    intro g hg
    have hk := skip_le l
    obtain ⟨g, rfl⟩ : ∃ g', g = g' + 1 := ⟨g - 1, by omega⟩
    simp only [toksF] at h
    split at h
    · cases h
    · next ho =>
      have ho' : (skipV l).2 = false := by simpa using ho
      split at h
      · next he =>
        simp only [Toks.ok.injEq] at h
        subst h
        have hw : Whole (l ++ [32]) := by
          have := whole_skip ho'
          rw [he, List.take_length] at this
          exact whole_app this (whole_blank (by decide))
        rw [show l ++ 32 :: t = (l ++ [32]) ++ t by simp, toks_pre hw]
        simp only [List.length_append, List.length_cons, List.length_nil, List.dropLast_singleton]
        rw [show at_ + (l.length + (0 + 1)) = at_ + l.length + 1 by omega]
        cases toksF (g + 1) (at_ + l.length + 1) t <;> rfl
      · next he =>
        cases hx : tokV (l.drop (skipV l).1) with
        | err e => rw [hx] at h; cases h
        | ok u n =>
          rw [hx] at h
          have hp := tok_pos hx
          simp only [List.length_drop] at hp
          simp only at h
          cases hy : toksF f (at_ + (skipV l).1 + n) (l.drop ((skipV l).1 + n)) with
          | err a e => rw [hy] at h; cases h
          | ok B =>
            rw [hy] at h
            simp only [Toks.cons, Toks.ok.injEq] at h
            subst h
            have hf2 : (l.drop ((skipV l).1 + n)).length < f := by simp; omega
            obtain ⟨⟨b, r, rfl, hb, hbo⟩, _⟩ := rise f _ _ B hy hf2
            have hsk := skip_ext (32 :: t) ho' (by omega)
            have hx2 := tok_ext (y := 32 :: t) hx (Sep.blank t)
            rw [toksF, hsk]
            simp only
            rw [if_neg (by simp), if_neg (by simp; omega), drop_app (by omega), hx2]
            simp only
            rw [drop_app (by omega), joined f _ _ (b :: r) t hy hf2 g (by simp at hg ⊢; omega)]
            rw [toks_fuel (g + 1) g _ t (by simp at hg; omega) (by simp at hg; omega)]
            rw [show at_ + (skipV l).1 + n + (l.drop ((skipV l).1 + n)).length + 1 = at_ + l.length + 1 by simp; omega]
            cases toksF g (at_ + l.length + 1) t <;> rfl
end Go.Proofs.Ytdcibeagljeioaa
