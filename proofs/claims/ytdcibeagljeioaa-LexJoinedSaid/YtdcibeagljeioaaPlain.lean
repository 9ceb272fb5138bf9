/- Chapter 06: what tokens are, on lists of bytes: plain mathematics. -/
namespace Go.Proofs.Ytdcibeagljeioaa
abbrev Bs := List UInt8
def letB (c : UInt8) : Bool := (97 ≤ c && c ≤ 122) || (65 ≤ c && c ≤ 90)
def digB (c : UInt8) : Bool := 48 ≤ c && c ≤ 57
def alnB (c : UInt8) : Bool := letB c || digB c
def signs : Bs := [43, 45, 42, 47, 60, 62, 61, 126, 44, 64, 38, 37]
def marks : Bs := [94, 46, 59, 40, 41, 91, 93, 124]
def signB (c : UInt8) : Bool := signs.contains c
def markB (c : UInt8) : Bool := marks.contains c
def blankB (c : UInt8) : Bool := c == 9 || c == 10 || c == 13 || c == 32
structure Tok where
  kind : Int
  text : Bs
  num : Int
deriving DecidableEq
/-- an error, or what was taken and how many bytes -/
inductive Took (α : Type) where
  | err (e : Int)
  | ok (a : α) (n : Nat)
def hd (p : UInt8 → Bool) : Bs → Bool
  | [] => false
  | c :: _ => p c
def colonB : Bs → Bool
  | [] => false
  | c :: r => c == 58 && !(hd (· == 61) r)
def nmLen (l : Bs) : Nat := (l.takeWhile alnB).length
def big : Int := 1152921504606846976
/-- a number's value behind n; none: too great -/
def numV : Bs → Int → Option Int
  | [], n => some n
  | c :: r, n => if digB c then (if n * 10 + ((c.toNat : Int) - 48) > big then none else numV r (n * 10 + ((c.toNat : Int) - 48))) else some n
def digLen (l : Bs) : Nat := (l.takeWhile digB).length
/-- a text behind its first sign -/
def txt : Bs → Option (Bs × Nat)
  | [] => none
  | [c] => if c == 39 then some ([], 1) else none
  | c :: d :: r => if c == 39 then (if d == 39 then (txt r).map (fun x => (39 :: x.1, x.2 + 2)) else some ([], 1)) else (txt (d :: r)).map (fun x => (c :: x.1, x.2 + 1))
/-- more keywords of a symbol; none: one is too long -/
def kws : Nat → Bs → Option Nat
  | 0, _ => some 0
  | f + 1, l => if hd letB l && colonB (l.drop (nmLen l)) then (if nmLen l > 24 then none else (kws f (l.drop (nmLen l + 1))).map (· + (nmLen l + 1))) else some 0
/-- how many signs stand there, at most two -/
def sgLen (l : Bs) : Nat := min (l.takeWhile signB).length 2
def symV (l : Bs) : Took Bs :=
  if hd signB l then .ok (l.take (sgLen l)) (sgLen l)
  else if hd letB l then
    if nmLen l > 24 then .err 12
    else if colonB (l.drop (nmLen l)) then
      match kws l.length (l.drop (nmLen l + 1)) with
      | none => .err 12
      | some k => .ok (l.take (nmLen l + 1 + k)) (nmLen l + 1 + k)
    else .ok (l.take (nmLen l)) (nmLen l)
  else .err 10
/-- a name, a keyword -/
def wrdV (l : Bs) : Took Tok :=
  if nmLen l > 24 then .err 12
  else if colonB (l.drop (nmLen l)) then .ok ⟨2, l.take (nmLen l + 1), 0⟩ (nmLen l + 1)
  else .ok ⟨1, l.take (nmLen l), 0⟩ (nmLen l)
def tokV : Bs → Took Tok
  | [] => .err 10
  | c :: r =>
    if letB c then
      wrdV (c :: r)
    else if digB c then
      (match numV (c :: r) 0 with
       | none => .err 2
       | some n => .ok ⟨4, [], n⟩ (digLen (c :: r)))
    else if c == 39 then
      (match txt r with
       | none => .err 11
       | some (t, n) => .ok ⟨5, t, 0⟩ (n + 1))
    else if c == 35 then
      (if hd (· == 40) r then .ok ⟨7, [], 0⟩ 2
       else match symV r with
       | .err e => .err e
       | .ok t n => .ok ⟨6, t, 0⟩ (n + 1))
    else if c == 58 && hd (· == 61) r then .ok ⟨9, [], 0⟩ 2
    else if c == 58 && hd letB r then
      (if nmLen r > 24 then .err 12 else .ok ⟨8, r.take (nmLen r), 0⟩ (nmLen r + 1))
    else if signB c then .ok ⟨3, (c :: r).take (sgLen (c :: r)), 0⟩ (sgLen (c :: r))
    else if markB c then .ok ⟨10, [c], 0⟩ 1
    else .err 10
/-- where a remark's sign stands -/
def remV : Bs → Option Nat
  | [] => none
  | c :: r => if c == 34 then some 0 else (remV r).map (· + 1)
/-- how many bytes are blanks and remarks; whether a remark has no end -/
def skp : Nat → Bs → Nat × Bool
  | 0, _ => (0, false)
  | _ + 1, [] => (0, false)
  | f + 1, c :: r => if blankB c then ((skp f r).1 + 1, (skp f r).2)
    else if c == 34 then
      match remV r with
      | none => (0, true)
      | some k => ((skp f (r.drop (k + 1))).1 + (k + 2), (skp f (r.drop (k + 1))).2)
    else (0, false)
def skipV (l : Bs) : Nat × Bool := skp l.length l
structure ATok where
  kind : Int
  text : Bs
  num : Int
  at_ : Nat
deriving DecidableEq
inductive Toks where
  | err (at_ : Nat) (e : Int)
  | ok (l : List ATok)
def Toks.cons (t : ATok) : Toks → Toks
  | .err a e => .err a e
  | .ok l => .ok (t :: l)
def toksF : Nat → Nat → Bs → Toks
  | 0, at_, _ => .err at_ 0
  | f + 1, at_, l =>
    if (skipV l).2 then .err (at_ + (skipV l).1) 11
    else if (skipV l).1 = l.length then .ok [⟨0, [], 0, at_ + (skipV l).1⟩]
    else match tokV (l.drop (skipV l).1) with
      | .err e => .err (at_ + (skipV l).1) e
      | .ok t n => .cons ⟨t.kind, t.text, t.num, at_ + (skipV l).1⟩ (toksF f (at_ + (skipV l).1 + n) (l.drop ((skipV l).1 + n)))
def toksV (l : Bs) : Toks := toksF (l.length + 1) 0 l

/-! ### bounds -/
theorem nmLen_le (l : Bs) : nmLen l ≤ l.length := (List.takeWhile_prefix (p := alnB) (l := l)).length_le
theorem digLen_le (l : Bs) : digLen l ≤ l.length := (List.takeWhile_prefix (p := digB) (l := l)).length_le
theorem sgLen_le (l : Bs) : sgLen l ≤ l.length := by
  have := (List.takeWhile_prefix (p := signB) (l := l)).length_le
  unfold sgLen; omega
theorem hd_pos {p : UInt8 → Bool} {l : Bs} (h : hd p l = true) : 0 < l.length := by
  cases l with
  | nil => cases h
  | cons c r => simp
theorem colonB_lt {l : Bs} (h : colonB l = true) : 0 < l.length := by
  cases l with
  | nil => cases h
  | cons c r => simp
theorem txt_le : ∀ (l : Bs) (t : Bs) (n : Nat), txt l = some (t, n) → 1 ≤ n ∧ n ≤ l.length
  | [], t, n, h => by simp [txt] at h
  | [c], t, n, h => by
    unfold txt at h
    split at h
    · simp at h; obtain ⟨_, rfl⟩ := h; simp
    · cases h
  | c :: d :: r, t, n, h => by
    unfold txt at h
    split at h
    · split at h
      · cases hx : txt r with
        | none => rw [hx] at h; cases h
        | some x => rw [hx] at h; simp at h; obtain ⟨_, rfl⟩ := h; have := txt_le r x.1 x.2 hx; simp; omega
      · simp at h; obtain ⟨_, rfl⟩ := h; simp
    · cases hx : txt (d :: r) with
      | none => rw [hx] at h; cases h
      | some x => rw [hx] at h; simp at h; obtain ⟨_, rfl⟩ := h; have := txt_le (d :: r) x.1 x.2 hx; simp at this ⊢; omega
theorem kws_le : ∀ (f : Nat) (l : Bs) (k : Nat), kws f l = some k → k ≤ l.length
  | 0, l, k, h => by simp [kws] at h; omega
  | f + 1, l, k, h => by
    unfold kws at h
    split at h
    · next hh =>
      split at h
      · cases h
      · cases hx : kws f (l.drop (nmLen l + 1)) with
        | none => rw [hx] at h; cases h
        | some x =>
          rw [hx] at h; simp at h; subst h
          have := kws_le f _ x hx
          have h1 := colonB_lt (by simpa using (Bool.and_eq_true _ _ ▸ hh : _ ∧ _).2)
          simp at this h1; omega
    · simp at h; omega
/-! ### what stands behind a token's bytes does not matter -/
theorem tw_local {p : UInt8 → Bool} : ∀ {c x y : Bs}, ((c ++ x).takeWhile p).length ≤ c.length → hd p y = false → (c ++ y).takeWhile p = (c ++ x).takeWhile p
  | [], x, y, h, hy => by
    have h0 : x.takeWhile p = [] := by simpa using h
    cases y with
    | nil => simp [h0]
    | cons d r => simp [hd] at hy; simp [hy, h0]
  | c :: cs, x, y, h, hy => by
    simp only [List.cons_append, List.takeWhile_cons] at h ⊢
    cases hp : p c
    · simp
    · simp [hp] at h ⊢
      exact tw_local h hy
theorem hd_app {p : UInt8 → Bool} {c : Bs} (x y : Bs) (h : 0 < c.length) : hd p (c ++ y) = hd p (c ++ x) := by
  cases c with
  | nil => simp at h
  | cons => rfl
theorem drop_app {c x : Bs} {n : Nat} (h : n ≤ c.length) : (c ++ x).drop n = c.drop n ++ x := List.drop_append_of_le_length h
theorem take_app {c x : Bs} {n : Nat} (h : n ≤ c.length) : (c ++ x).take n = c.take n := List.take_append_of_le_length h
/-- what may stand behind: neither a letter, a digit, a sign, a colon, '=', nor a quote -/
def Sep (y : Bs) : Prop := hd alnB y = false ∧ hd signB y = false ∧ hd letB y = false ∧ hd digB y = false ∧ hd (· == 58) y = false ∧ hd (· == 61) y = false ∧ hd (· == 39) y = false ∧ hd (· == 40) y = false
theorem Sep.nil : Sep [] := ⟨rfl, rfl, rfl, rfl, rfl, rfl, rfl, rfl⟩
theorem Sep.blank (r : Bs) : Sep (32 :: r) := ⟨rfl, rfl, rfl, rfl, rfl, rfl, rfl, rfl⟩
theorem Sep.cons {c : UInt8} (r : Bs) (h : blankB c = true ∨ c = 34) : Sep (c :: r) := by
  rcases h with h | rfl
  · simp [blankB] at h
    rcases h with ((rfl | rfl) | rfl) | rfl <;> exact ⟨rfl, rfl, rfl, rfl, rfl, rfl, rfl, rfl⟩
  · exact ⟨rfl, rfl, rfl, rfl, rfl, rfl, rfl, rfl⟩
theorem colon_sep {y : Bs} (h : Sep y) : colonB y = false := by
  cases y with
  | nil => rfl
  | cons c r => have := h.2.2.2.2.1; simp [hd] at this; simp [colonB, this]
/-- a colon that makes a keyword, where its bytes lie within c -/
theorem colon_app {c x y : Bs} (hy : Sep y) (h : 0 < c.length) (hc : colonB (c ++ x) = true) : colonB (c ++ y) = true := by
  match c, h with
  | [a], _ => simp [colonB] at hc ⊢; exact ⟨hc.1, hy.2.2.2.2.2.1⟩
  | a :: b :: r, _ => simpa [colonB, hd] using hc
theorem nm_local {c x y : Bs} (h : nmLen (c ++ x) ≤ c.length) (hy : Sep y) : nmLen (c ++ y) = nmLen (c ++ x) := by
  unfold nmLen at h ⊢; rw [tw_local h hy.1]
theorem dig_local {c x y : Bs} (h : digLen (c ++ x) ≤ c.length) (hy : Sep y) : digLen (c ++ y) = digLen (c ++ x) := by
  unfold digLen at h ⊢; rw [tw_local h hy.2.2.2.1]
theorem num_tw : ∀ (l : Bs) (n : Int), numV l n = numV (l.takeWhile digB) n
  | [], n => rfl
  | c :: r, n => by
    cases hc : digB c
    · simp [numV, hc]
    · simp only [List.takeWhile_cons, hc, if_true, numV]; rw [num_tw r]
theorem num_local {c x y : Bs} (h : digLen (c ++ x) ≤ c.length) (hy : Sep y) (n : Int) : numV (c ++ y) n = numV (c ++ x) n := by
  rw [num_tw (c ++ y), num_tw (c ++ x), tw_local h hy.2.2.2.1]
theorem sg_local {c x y : Bs} (h : sgLen (c ++ x) = c.length) (hy : Sep y) : sgLen (c ++ y) = sgLen (c ++ x) := by
  unfold sgLen at h ⊢
  by_cases hl : ((c ++ x).takeWhile signB).length ≤ c.length
  · rw [tw_local hl hy.2.1]
  · have h2 : c.length = 2 := by omega
    match c, h2 with
    | [a, b], _ =>
      simp only [List.cons_append, List.nil_append, List.takeWhile_cons] at hl ⊢
      cases ha : signB a <;> cases hb : signB b <;> simp_all <;> omega
theorem txt_local : ∀ {c x y : Bs} {t : Bs}, txt (c ++ x) = some (t, c.length) → hd (· == 39) y = false → txt (c ++ y) = some (t, c.length)
  | [], x, y, t, h, hy => by have := (txt_le _ _ _ h).1; simp at this
  | [a], x, y, t, h, hy => by
    have key : ∀ z : Bs, hd (· == 39) z = false → a = 39 → txt ([a] ++ z) = some ([], 1) := fun z hz ha => by
      subst ha
      cases z with
      | nil => rfl
      | cons d r => simp [hd] at hz; simp [txt, hz]
    cases x with
    | nil =>
      simp [txt] at h
      obtain ⟨ha, rfl⟩ := h
      exact key y hy ha
    | cons d r =>
      simp only [List.cons_append, List.nil_append] at h
      unfold txt at h
      split at h
      · next ha =>
        split at h
        · cases hx : txt r with
          | none => rw [hx] at h; cases h
          | some z => rw [hx] at h; simp at h
        · simp at h; subst h; exact key y hy (by simpa using ha)
      · cases hx : txt (d :: r) with
        | none => rw [hx] at h; cases h
        | some z => rw [hx] at h; simp at h; have := (txt_le _ _ _ hx).1; omega
  | a :: b :: cs, x, y, t, h, hy => by
    simp only [List.cons_append] at h ⊢
    unfold txt at h ⊢
    split at h
    · next ha =>
      rw [if_pos ha]
      split at h
      · next hb =>
        rw [if_pos hb]
        cases hx : txt (cs ++ x) with
        | none => rw [hx] at h; cases h
        | some z =>
          rw [hx] at h; simp at h
          obtain ⟨rfl, hl⟩ := h
          have := txt_local (c := cs) (x := x) (y := y) (t := z.1) (by rw [hx]; congr 1; ext1 <;> simp; omega) hy
          rw [this]; simp
      · simp at h
    · next ha =>
      rw [if_neg ha]
      cases hx : txt (b :: (cs ++ x)) with
      | none => rw [hx] at h; cases h
      | some z =>
        rw [hx] at h; simp at h
        obtain ⟨rfl, hl⟩ := h
        have := txt_local (c := b :: cs) (x := x) (y := y) (t := z.1) (by simp only [List.cons_append]; rw [hx]; congr 1; ext1 <;> simp; omega) hy
        simp only [List.cons_append] at this
        rw [this]; simp
theorem kws_fuel : ∀ (f g : Nat) (l : Bs), l.length ≤ f → l.length ≤ g → kws f l = kws g l
  | 0, g, l, hf, hg => by
    obtain rfl : l = [] := List.eq_nil_of_length_eq_zero (by omega)
    cases g <;> simp [kws, hd]
  | f + 1, 0, l, hf, hg => by
    obtain rfl : l = [] := List.eq_nil_of_length_eq_zero (by omega)
    simp [kws, hd]
  | f + 1, g + 1, l, hf, hg => by
    unfold kws
    rw [kws_fuel f g (l.drop (nmLen l + 1)) (by simp; omega) (by simp; omega)]
theorem kws_local : ∀ (f g : Nat) (c x y : Bs), kws f (c ++ x) = some c.length → (c ++ y).length ≤ g → Sep y → kws g (c ++ y) = some c.length
  | f, 0, c, x, y, h, hg, hy => by
    simp at hg
    obtain ⟨hc, rfl⟩ := hg
    obtain rfl : c = [] := hc
    rfl
  | 0, g + 1, c, x, y, h, hg, hy => by
    simp [kws] at h
    obtain rfl : c = [] := List.eq_nil_of_length_eq_zero h.symm
    simp [kws, hy.2.2.1]
  | f + 1, g + 1, c, x, y, h, hg, hy => by
    unfold kws at h ⊢
    by_cases hh : (hd letB (c ++ x) && colonB ((c ++ x).drop (nmLen (c ++ x)))) = true
    · rw [if_pos hh] at h
      split at h
      · cases h
      · next h24 =>
        cases hx : kws f ((c ++ x).drop (nmLen (c ++ x) + 1)) with
        | none => rw [hx] at h; cases h
        | some k =>
          rw [hx] at h; simp at h
          have hn : nmLen (c ++ x) + 1 ≤ c.length := by omega
          have e := nm_local (c := c) (x := x) (y := y) (by omega) hy
          simp only [Bool.and_eq_true] at hh
          rw [drop_app (by omega)] at hh hx
          have c0 := colon_app (y := y) hy (by simp; omega) hh.2
          have hk : (c.drop (nmLen (c ++ x) + 1)).length = k := by simp; omega
          have r := kws_local f g (c.drop (nmLen (c ++ x) + 1)) x y (by rw [hx, hk]) (by simp at hg ⊢; omega) hy
          rw [e, drop_app (x := y) (by omega), drop_app (x := y) (by omega), c0, hd_app (p := letB) x y (by omega), hh.1, r, if_pos (by rfl), if_neg h24, hk]
          simp; omega
    · rw [if_neg hh] at h
      simp at h
      obtain rfl : c = [] := List.eq_nil_of_length_eq_zero h.symm
      simp [hy.2.2.1]
theorem sym_local {c x y t : Bs} (h : symV (c ++ x) = .ok t c.length) (h0 : 0 < c.length) (hy : Sep y) : symV (c ++ y) = .ok t c.length := by
  unfold symV at h ⊢
  rw [hd_app (p := signB) x y h0, hd_app (p := letB) x y h0]
  split at h
  · next hs =>
    rw [if_pos hs]
    simp only [Took.ok.injEq] at h
    have e := sg_local h.2 hy
    rw [e, h.2, ← h.1, h.2, List.take_left, List.take_left]
  · next hs =>
    rw [if_neg hs]
    split at h
    · next hl =>
      rw [if_pos hl]
      split at h
      · cases h
      · next h24 =>
        split at h
        · next hc =>
          cases hk : kws (c ++ x).length ((c ++ x).drop (nmLen (c ++ x) + 1)) with
          | none => rw [hk] at h; cases h
          | some k =>
            rw [hk] at h
            simp only [Took.ok.injEq] at h
            have e := nm_local (c := c) (x := x) (y := y) (by omega) hy
            rw [drop_app (by omega)] at hc hk
            have c0 := colon_app (y := y) hy (by simp; omega) hc
            have hl' : (c.drop (nmLen (c ++ x) + 1)).length = k := by simp; omega
            have r := kws_local _ (c ++ y).length (c.drop (nmLen (c ++ x) + 1)) x y (by rw [hk, hl']) (by simp) hy
            rw [e, if_neg h24, drop_app (x := y) (by omega), c0, if_pos rfl, drop_app (x := y) (by omega), r, hl']
            simp only [Took.ok.injEq]
            rw [h.2, ← h.1, h.2, List.take_left, List.take_left]
            exact ⟨rfl, rfl⟩
        · next hc =>
          simp only [Took.ok.injEq] at h
          have e := nm_local (c := c) (x := x) (y := y) (by omega) hy
          rw [e, if_neg h24, h.2, List.drop_left, colon_sep hy, if_neg (by simp), ← h.1, h.2, List.take_left, List.take_left]
    · cases h
theorem wrd_local {c x y : Bs} {t : Tok} (h : wrdV (c ++ x) = .ok t c.length) (hy : Sep y) : wrdV (c ++ y) = .ok t c.length := by
  unfold wrdV at h ⊢
  split at h
  · cases h
  · next h24 =>
    split at h
    · next hc =>
      simp only [Took.ok.injEq] at h
      have e := nm_local (c := c) (x := x) (y := y) (by omega) hy
      rw [drop_app (by omega)] at hc
      have c0 := colon_app (y := y) hy (by simp; omega) hc
      rw [e, if_neg h24, drop_app (x := y) (by omega), c0, if_pos rfl, h.2, ← h.1, h.2, List.take_left, List.take_left]
    · next hc =>
      simp only [Took.ok.injEq] at h
      have e := nm_local (c := c) (x := x) (y := y) (by omega) hy
      rw [e, if_neg h24, h.2, List.drop_left, colon_sep hy, if_neg (by simp), ← h.1, h.2, List.take_left, List.take_left]
theorem tok_local {c x y : Bs} {t : Tok} (h : tokV (c ++ x) = .ok t c.length) (h0 : 0 < c.length) (hy : Sep y) : tokV (c ++ y) = .ok t c.length := by
  match c, h0 with
  | a :: cs, _ =>
    have nmA := nm_local (c := a :: cs) (x := x) (y := y)
    have dgA := dig_local (c := a :: cs) (x := x) (y := y)
    have nuA := num_local (c := a :: cs) (x := x) (y := y)
    have sgA := sg_local (c := a :: cs) (x := x) (y := y)
    simp only [List.cons_append] at h nmA dgA nuA sgA ⊢
    simp only [tokV] at h ⊢
    split at h
    · next k1 =>
      rw [if_pos k1]
      exact wrd_local (c := a :: cs) (x := x) (y := y) h hy
    · next k1 =>
      rw [if_neg k1]
      split at h
      · next k2 =>
        rw [if_pos k2]
        cases hn : numV (a :: (cs ++ x)) 0 with
        | none => rw [hn] at h; cases h
        | some n =>
          rw [hn] at h
          simp only [Took.ok.injEq] at h
          rw [nuA (by omega) hy, hn, dgA (by omega) hy]
          simp only [Took.ok.injEq]
          exact h
      · next k2 =>
        rw [if_neg k2]
        split at h
        · next k3 =>
          rw [if_pos k3]
          cases ht : txt (cs ++ x) with
          | none => rw [ht] at h; cases h
          | some z =>
            rw [ht] at h
            simp only [Took.ok.injEq, List.length_cons] at h
            have := txt_local (c := cs) (x := x) (y := y) (t := z.1) (by rw [ht]; congr 1; ext1 <;> simp; omega) hy.2.2.2.2.2.2.1
            rw [this]
            simp only [Took.ok.injEq, List.length_cons]
            exact ⟨h.1, trivial⟩
        · next k3 =>
          rw [if_neg k3]
          split at h
          · next k4 =>
            rw [if_pos k4]
            split at h
            · next k5 =>
              simp only [Took.ok.injEq, List.length_cons] at h
              rw [hd_app x y (by omega), if_pos k5]
              simp only [Took.ok.injEq, List.length_cons]
              exact h
            · next k5 =>
              cases hs : symV (cs ++ x) with
              | err e => rw [hs] at h; cases h
              | ok t' n =>
                rw [hs] at h
                simp only [Took.ok.injEq, List.length_cons] at h
                obtain rfl : n = cs.length := by omega
                have hp : 0 < cs.length := by
                  unfold symV at hs
                  rcases Nat.eq_zero_or_pos cs.length with hz | hz
                  · exfalso
                    obtain rfl := List.eq_nil_of_length_eq_zero hz
                    simp only [List.nil_append, List.length_nil] at hs
                    split at hs
                    · next hg =>
                      simp only [Took.ok.injEq] at hs
                      cases x with
                      | nil => cases hg
                      | cons d r =>
                        simp [hd] at hg
                        simp [sgLen, hg] at hs
                    · split at hs
                      · next hg =>
                        have hne : 0 < nmLen x := by
                          cases x with
                          | nil => cases hg
                          | cons d r => simp [hd] at hg; simp [nmLen, alnB, hg]
                        split at hs
                        · cases hs
                        · split at hs
                          · cases hk : kws x.length (x.drop (nmLen x + 1)) with
                            | none => rw [hk] at hs; cases hs
                            | some k => rw [hk] at hs; simp only [Took.ok.injEq] at hs; omega
                          · simp only [Took.ok.injEq] at hs; omega
                      · cases hs
                  · exact hz
                rw [sym_local hs hp hy, hd_app x y hp, if_neg k5]
                simp only [Took.ok.injEq, List.length_cons]
                exact ⟨h.1, trivial⟩
          · next k4 =>
            rw [if_neg k4]
            have two : ∀ {P : Prop} {p q : UInt8 → Bool} {b : Bool}, True := trivial
            split at h
            · next k5 =>
              simp only [Took.ok.injEq, List.length_cons] at h
              rw [hd_app x y (by omega), if_pos k5]
              simp only [Took.ok.injEq, List.length_cons]
              exact h
            · next k5 =>
              have f5 : ¬ ((a == 58 && hd (· == 61) (cs ++ y)) = true) := by
                intro q
                simp only [Bool.and_eq_true] at q k5
                rcases Nat.eq_zero_or_pos cs.length with hz | hz
                · obtain rfl := List.eq_nil_of_length_eq_zero hz
                  rw [List.nil_append, hy.2.2.2.2.2.1] at q; cases q.2
                · exact k5 ⟨q.1, by rw [hd_app y x hz]; exact q.2⟩
              rw [if_neg f5]
              split at h
              · next k6 =>
                split at h
                · cases h
                · next h24 =>
                  simp only [Took.ok.injEq, List.length_cons] at h
                  have hp : 0 < cs.length := by
                    simp only [Bool.and_eq_true] at k6
                    have : 0 < nmLen (cs ++ x) := by
                      cases hcx : cs ++ x with
                      | nil => rw [hcx] at k6; cases k6.2
                      | cons d r => rw [hcx] at k6; have := k6.2; simp [hd] at this; simp [nmLen, alnB, this]
                    omega
                  have e := nm_local (c := cs) (x := x) (y := y) (by omega) hy
                  rw [hd_app x y hp, if_pos k6, e, if_neg h24]
                  simp only [Took.ok.injEq, List.length_cons]
                  refine ⟨?_, h.2⟩
                  rw [← h.1, show nmLen (cs ++ x) = cs.length by omega, List.take_left, List.take_left]
              · next k6 =>
                have f6 : ¬ ((a == 58 && hd letB (cs ++ y)) = true) := by
                  intro q
                  simp only [Bool.and_eq_true] at q k6
                  rcases Nat.eq_zero_or_pos cs.length with hz | hz
                  · obtain rfl := List.eq_nil_of_length_eq_zero hz
                    rw [List.nil_append, hy.2.2.1] at q; cases q.2
                  · exact k6 ⟨q.1, by rw [hd_app y x hz]; exact q.2⟩
                rw [if_neg f6]
                split at h
                · next k7 =>
                  rw [if_pos k7]
                  simp only [Took.ok.injEq] at h
                  rw [sgA h.2 hy, h.2, ← h.1, h.2, ← List.cons_append, ← List.cons_append, List.take_left, List.take_left]
                · next k7 =>
                  rw [if_neg k7]
                  split at h
                  · next k8 => rw [if_pos k8]; simpa using h
                  · cases h
/-! ### a text with something behind it -/
theorem tw_ext {p : UInt8 → Bool} (l : Bs) {y : Bs} (hy : hd p y = false) : (l ++ y).takeWhile p = l.takeWhile p := by
  have := tw_local (p := p) (c := l) (x := []) (y := y) (by simpa using (List.takeWhile_prefix (p := p) (l := l)).length_le) hy
  simpa using this
theorem nm_ext (l : Bs) {y : Bs} (hy : Sep y) : nmLen (l ++ y) = nmLen l := by unfold nmLen; rw [tw_ext l hy.1]
theorem dig_ext (l : Bs) {y : Bs} (hy : Sep y) : digLen (l ++ y) = digLen l := by unfold digLen; rw [tw_ext l hy.2.2.2.1]
theorem sg_ext (l : Bs) {y : Bs} (hy : Sep y) : sgLen (l ++ y) = sgLen l := by unfold sgLen; rw [tw_ext l hy.2.1]
theorem num_ext (l : Bs) {y : Bs} (hy : Sep y) (n : Int) : numV (l ++ y) n = numV l n := by rw [num_tw (l ++ y), num_tw l, tw_ext l hy.2.2.2.1]
theorem hd_ext {p : UInt8 → Bool} (l : Bs) {y : Bs} (hy : hd p y = false) : hd p (l ++ y) = hd p l := by
  cases l with
  | nil => simpa [hd] using hy
  | cons => rfl
theorem colon_ext (l : Bs) {y : Bs} (hy : Sep y) : colonB (l ++ y) = colonB l := by
  cases l with
  | nil => rw [List.nil_append, colon_sep hy]; rfl
  | cons c r => simp only [List.cons_append, colonB, hd_ext r hy.2.2.2.2.2.1]
theorem kws_ext : ∀ (f g : Nat) (l y : Bs), l.length ≤ f → (l ++ y).length ≤ g → Sep y → kws g (l ++ y) = kws f l
  | 0, g, l, y, hf, hg, hy => by
    obtain rfl : l = [] := List.eq_nil_of_length_eq_zero (by omega)
    cases g with
    | zero => rfl
    | succ g => simp [kws, hy.2.2.1]
  | f + 1, 0, l, y, hf, hg, hy => by
    simp at hg
    obtain ⟨rfl, rfl⟩ := hg
    simp [kws, hd]
  | f + 1, g + 1, l, y, hf, hg, hy => by
    unfold kws
    have hn := nmLen_le l
    rw [nm_ext l hy, hd_ext l hy.2.2.1, drop_app hn, colon_ext _ hy]
    split
    · next hh =>
      simp only [Bool.and_eq_true] at hh
      have := colonB_lt hh.2
      simp only [List.length_drop] at this
      rw [drop_app (by omega), kws_ext f g (l.drop (nmLen l + 1)) y (by simp; omega) (by simp at hg ⊢; omega) hy]
    · rfl
theorem take_ext {l : Bs} (y : Bs) {n : Nat} (h : n ≤ l.length) : (l ++ y).take n = l.take n := List.take_append_of_le_length h
theorem sym_ext (l : Bs) {y : Bs} (hy : Sep y) : symV (l ++ y) = symV l := by
  have hn := nmLen_le l
  have hs := sgLen_le l
  unfold symV
  rw [hd_ext l hy.2.1, hd_ext l hy.2.2.1, nm_ext l hy, sg_ext l hy, drop_app hn, colon_ext _ hy, take_ext y hn, take_ext y hs]
  split
  · rfl
  · split
    · split
      · rfl
      · split
        · next hc =>
          have := colonB_lt hc
          simp only [List.length_drop] at this
          rw [drop_app (by omega), kws_ext l.length (l ++ y).length (l.drop (nmLen l + 1)) y (by simp) (by simp) hy]
          cases hk : kws l.length (l.drop (nmLen l + 1)) with
          | none => rfl
          | some k =>
            have := kws_le _ _ _ hk
            simp at this
            simp only [Took.ok.injEq, and_true]
            exact take_ext y (by omega)
        · rfl
    · rfl
theorem txt_ext {l y t : Bs} {n : Nat} (h : txt l = some (t, n)) (hy : Sep y) : txt (l ++ y) = some (t, n) := by
  have hb := txt_le _ _ _ h
  by_cases hn : n = l.length
  · subst hn
    have := txt_local (c := l) (x := []) (y := y) (t := t) (by simpa using h) hy.2.2.2.2.2.2.1
    exact this
  · have key : ∀ (m : Nat) (l t : Bs) (n : Nat), l.length ≤ m → txt l = some (t, n) → n < l.length → txt (l ++ y) = some (t, n) := by
      intro m
      induction m with
      | zero => intro l t n hm h hn; omega
      | succ m ih =>
        intro l t n hm h hn
        match l with
        | [] => simp at hn
        | [c] => have := (txt_le _ _ _ h).1; simp at hn; omega
        | c :: d :: r =>
          simp only [List.cons_append]
          unfold txt at h ⊢
          split at h
          · next hc =>
            rw [if_pos hc]
            split at h
            · next hd' =>
              rw [if_pos hd']
              cases hx : txt r with
              | none => rw [hx] at h; cases h
              | some z =>
                rw [hx] at h; simp at h
                obtain ⟨rfl, rfl⟩ := h
                simp at hn hm
                rw [ih r z.1 z.2 (by omega) hx (by omega)]; rfl
            · next hd' => rw [if_neg hd']; exact h
          · next hc =>
            rw [if_neg hc]
            cases hx : txt (d :: r) with
            | none => rw [hx] at h; cases h
            | some z =>
              rw [hx] at h; simp at h
              obtain ⟨rfl, rfl⟩ := h
              simp at hn hm
              have := ih (d :: r) z.1 z.2 (by simp; omega) hx (by simp; omega)
              simp only [List.cons_append] at this
              rw [this]; rfl
    exact key l.length l t n (Nat.le_refl _) h (by omega)
theorem tok_ext {l y : Bs} {t : Tok} {n : Nat} (h : tokV l = .ok t n) (hy : Sep y) : tokV (l ++ y) = .ok t n := by
  match l with
  | [] => cases h
  | c :: r =>
    have hn := nmLen_le (c :: r)
    have hr := nmLen_le r
    have hs := sgLen_le (c :: r)
    have nmA := nm_ext (c :: r) hy
    have dgA := dig_ext (c :: r) hy
    have nuA := num_ext (c :: r) hy
    have sgA := sg_ext (c :: r) hy
    have wA : wrdV (c :: (r ++ y)) = wrdV (c :: r) := by
      unfold wrdV
      rw [← List.cons_append, nm_ext _ hy, drop_app hn, colon_ext _ hy, take_ext y hn]
      split
      · rfl
      · split
        · next hc =>
          have := colonB_lt hc
          simp only [List.length_drop] at this
          rw [take_ext y (by omega)]
        · rfl
    simp only [List.cons_append] at nmA dgA nuA sgA ⊢
    simp only [tokV] at h ⊢
    rw [wA, nuA, dgA, sgA, sym_ext r hy, hd_ext r hy.2.2.2.2.2.1, hd_ext r hy.2.2.1, hd_ext r hy.2.2.2.2.2.2.2, nm_ext r hy, take_ext y hr, ← List.cons_append, take_ext y hs]
    by_cases q1 : letB c = true
    · rw [if_pos q1] at h ⊢; exact h
    · rw [if_neg q1] at h ⊢
      by_cases q2 : digB c = true
      · rw [if_pos q2] at h ⊢; exact h
      · rw [if_neg q2] at h ⊢
        by_cases q3 : (c == 39) = true
        · rw [if_pos q3] at h ⊢
          cases hx : txt r with
          | none => rw [hx] at h; cases h
          | some z => rw [hx] at h; rw [txt_ext (t := z.1) (n := z.2) hx hy]; exact h
        · rw [if_neg q3] at h ⊢; exact h
/-! ### what is skipped -/
theorem remV_lt : ∀ (l : Bs) (k : Nat), remV l = some k → k < l.length
  | [], k, h => by cases h
  | c :: r, k, h => by
    unfold remV at h
    split at h
    · simp at h; subst h; simp
    · cases hx : remV r with
      | none => rw [hx] at h; cases h
      | some j => rw [hx] at h; simp at h; subst h; have := remV_lt r j hx; simp; omega
theorem skp_fuel : ∀ (f g : Nat) (l : Bs), l.length ≤ f → l.length ≤ g → skp f l = skp g l
  | 0, g, l, hf, hg => by
    obtain rfl : l = [] := List.eq_nil_of_length_eq_zero (by omega)
    cases g <;> rfl
  | f + 1, 0, l, hf, hg => by
    obtain rfl : l = [] := List.eq_nil_of_length_eq_zero (by omega)
    rfl
  | f + 1, g + 1, [], hf, hg => rfl
  | f + 1, g + 1, c :: r, hf, hg => by
    simp only [skp]
    simp at hf hg
    rw [skp_fuel f g r (by omega) (by omega)]
    cases hx : remV r with
    | none => rfl
    | some k => simp only; rw [skp_fuel f g (r.drop (k + 1)) (by simp; omega) (by simp; omega)]
theorem skip_nil : skipV [] = (0, false) := rfl
theorem skip_cons (c : UInt8) (r : Bs) : skipV (c :: r) = if blankB c then ((skipV r).1 + 1, (skipV r).2) else if c == 34 then
      match remV r with
      | none => (0, true)
      | some k => ((skipV (r.drop (k + 1))).1 + (k + 2), (skipV (r.drop (k + 1))).2)
    else (0, false) := by
  unfold skipV
  simp only [List.length_cons, skp]
  cases hx : remV r with
  | none => rfl
  | some k => simp only; rw [skp_fuel r.length (r.drop (k + 1)).length (r.drop (k + 1)) (by simp) (Nat.le_refl _)]
theorem rem_app {l : Bs} {k : Nat} (x : Bs) (h : remV l = some k) : remV (l ++ x) = some k := by
  induction l generalizing k with
  | nil => cases h
  | cons c r ih =>
    simp only [List.cons_append]
    unfold remV at h ⊢
    split at h
    · next hc => rw [if_pos hc]; exact h
    · next hc =>
      rw [if_neg hc]
      cases hx : remV r with
      | none => rw [hx] at h; cases h
      | some j => rw [hx] at h; rw [ih hx]; exact h
theorem skip_le_aux : ∀ (f : Nat) (l : Bs), l.length ≤ f → (skipV l).1 ≤ l.length ∧ ((skipV l).2 = true → (skipV l).1 < l.length)
  | 0, l, hf => by
    obtain rfl : l = [] := List.eq_nil_of_length_eq_zero (by omega)
    simp [skip_nil]
  | f + 1, [], hf => by simp [skip_nil]
  | f + 1, c :: r, hf => by
    simp at hf
    rw [skip_cons]
    split
    · have := skip_le_aux f r (by omega)
      simp only [List.length_cons]
      exact ⟨by omega, fun h => by have := this.2 h; omega⟩
    · split
      · cases hx : remV r with
        | none => simp
        | some k =>
          have h1 := remV_lt r k hx
          have := skip_le_aux f (r.drop (k + 1)) (by simp; omega)
          simp only [List.length_drop] at this
          simp only [List.length_cons]
          exact ⟨by omega, fun h => by have := this.2 h; omega⟩
      · simp
theorem skip_le (l : Bs) : (skipV l).1 ≤ l.length := (skip_le_aux l.length l (Nat.le_refl _)).1
/-- what is skipped, with something else behind it, is skipped -/
theorem skip_pre_aux : ∀ (f : Nat) (l x : Bs), l.length ≤ f → (skipV l).2 = false → skipV (l.take (skipV l).1 ++ x) = ((skipV l).1 + (skipV x).1, (skipV x).2)
  | 0, l, x, hf, h => by
    obtain rfl : l = [] := List.eq_nil_of_length_eq_zero (by omega)
    simp [skip_nil]
  | f + 1, [], x, hf, h => by simp [skip_nil]
  | f + 1, c :: r, x, hf, h => by
    simp at hf
    rw [skip_cons] at h ⊢
    by_cases hb : blankB c = true
    · rw [if_pos hb] at h ⊢
      simp only [List.take_succ_cons, List.cons_append]
      rw [skip_cons, if_pos hb, skip_pre_aux f r x (by omega) h]
      simp; omega
    · rw [if_neg hb] at h ⊢
      by_cases hq : (c == 34) = true
      · rw [if_pos hq] at h ⊢
        cases hx : remV r with
        | none => rw [hx] at h; cases h
        | some k =>
          rw [hx] at h
          have h1 := remV_lt r k hx
          simp only at h ⊢
          have ih := skip_pre_aux f (r.drop (k + 1)) x (by simp; omega) h
          have e : r.take ((skipV (r.drop (k + 1))).1 + (k + 1)) = r.take (k + 1) ++ (r.drop (k + 1)).take (skipV (r.drop (k + 1))).1 := by
            rw [Nat.add_comm, List.take_add]
          have hk : remV (r.take (k + 1)) = some k := by
            clear ih h e
            induction r generalizing k with
            | nil => cases hx
            | cons d r ih =>
              unfold remV at hx
              split at hx
              · next hd' => simp at hx; subst hx; simp [remV, hd']
              · next hd' =>
                cases hy : remV r with
                | none => rw [hy] at hx; cases hx
                | some j =>
                  rw [hy] at hx; simp at hx; subst hx
                  have hj := remV_lt r j hy
                  simp only [List.take_succ_cons, remV]
                  rw [if_neg hd', ih (by simp at hf; omega) j hy hj]; rfl
          rw [show (skipV (r.drop (k + 1))).1 + (k + 2) = ((skipV (r.drop (k + 1))).1 + (k + 1)) + 1 by omega, List.take_succ_cons, e]
          simp only [List.cons_append, List.append_assoc]
          rw [skip_cons, if_neg hb, if_pos hq, rem_app _ hk]
          simp only
          rw [List.drop_left' (by rw [List.length_take]; omega), ih]
          simp only [Prod.mk.injEq, and_true]; omega
      · rw [if_neg hq]
        simp
theorem skip_pre {l : Bs} (x : Bs) (h : (skipV l).2 = false) : skipV (l.take (skipV l).1 ++ x) = ((skipV l).1 + (skipV x).1, (skipV x).2) := skip_pre_aux l.length l x (Nat.le_refl _) h
/-- behind what is skipped nothing is -/
theorem skip_drop_aux : ∀ (f : Nat) (l : Bs), l.length ≤ f → (skipV l).2 = false → hd (fun c => blankB c || c == 34) (l.drop (skipV l).1) = false
  | 0, l, hf, h => by
    obtain rfl : l = [] := List.eq_nil_of_length_eq_zero (by omega)
    simp [skip_nil, hd]
  | f + 1, [], hf, h => by simp [skip_nil, hd]
  | f + 1, c :: r, hf, h => by
    simp at hf
    rw [skip_cons] at h ⊢
    by_cases hb : blankB c = true
    · rw [if_pos hb] at h ⊢
      simp only [List.drop_succ_cons]
      exact skip_drop_aux f r (by omega) h
    · rw [if_neg hb] at h ⊢
      by_cases hq : (c == 34) = true
      · rw [if_pos hq] at h ⊢
        cases hx : remV r with
        | none => rw [hx] at h; cases h
        | some k =>
          rw [hx] at h
          simp only at h ⊢
          have := skip_drop_aux f (r.drop (k + 1)) (by simp; omega) h
          rw [show (skipV (r.drop (k + 1))).1 + (k + 2) = (k + 1 + (skipV (r.drop (k + 1))).1) + 1 by omega, List.drop_succ_cons, ← List.drop_drop]
          exact this
      · rw [if_neg hq]
        simp [hd, hb, hq]
theorem skip_drop {l : Bs} (h : (skipV l).2 = false) : hd (fun c => blankB c || c == 34) (l.drop (skipV l).1) = false := skip_drop_aux l.length l (Nat.le_refl _) h
theorem skip_none {l : Bs} (h : hd (fun c => blankB c || c == 34) l = false) : skipV l = (0, false) := by
  cases l with
  | nil => rfl
  | cons c r => simp [hd] at h; rw [skip_cons]; simp [h]
/-- the same with something behind, where not all is skipped -/
theorem skip_ext {l : Bs} (x : Bs) (h : (skipV l).2 = false) (hl : (skipV l).1 < l.length) : skipV (l ++ x) = ((skipV l).1, false) := by
  have h1 := skip_pre (l := l) (l.drop (skipV l).1 ++ x) h
  have h2 := skip_drop h
  rw [← List.append_assoc, List.take_append_drop] at h1
  have h3 : hd (fun c => blankB c || c == 34) (l.drop (skipV l).1 ++ x) = false := by
    rw [← List.append_nil (l.drop (skipV l).1)] at h2
    rw [hd_app [] x (by simp; omega)]; exact h2
  rw [h1, skip_none h3]; rfl
end Go.Proofs.Ytdcibeagljeioaa
