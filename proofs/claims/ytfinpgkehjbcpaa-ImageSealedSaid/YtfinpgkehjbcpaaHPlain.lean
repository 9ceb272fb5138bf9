/- Chapter 02: a memory as a list of objects: plain mathematics. -/
namespace Go.Proofs.Ytfinpgkehjbcpaa
structure Ob where
  cls : Int
  fmt : Int
  hash : Int
  F : List Int
deriving DecidableEq
/-- a memory: its size, how many objects were made, those that there are -/
structure Hp where
  size : Nat
  made : Nat
  L : List Ob
def szs : List Ob → Nat
  | [] => 0
  | o :: r => o.F.length + 3 + szs r
theorem szs_app : ∀ (L K : List Ob), szs (L ++ K) = szs L + szs K
  | [], K => by simp [szs]
  | o :: r, K => by simp [szs, szs_app r K]; omega
/-- the address of the object at a place -/
def adr (L : List Ob) (i : Nat) : Nat := 3 + szs (L.take i)
theorem adr_zero (L : List Ob) : adr L 0 = 3 := by simp [adr, szs]
theorem adr_succ (L : List Ob) (i : Nat) (h : i < L.length) : adr L (i + 1) = adr L i + (L[i].F.length + 3) := by
  unfold adr
  rw [List.take_succ_eq_append_getElem h, szs_app]
  simp [szs]; omega
theorem adr_end (L : List Ob) : adr L L.length = 3 + szs L := by simp [adr]
theorem adr_app (L K : List Ob) (i : Nat) (h : i ≤ L.length) : adr (L ++ K) i = adr L i := by
  unfold adr; rw [List.take_append_of_le_length h]
theorem adr_lt (L : List Ob) : ∀ (j i : Nat), i < j → j ≤ L.length → adr L i + 3 ≤ adr L j
  | 0, i, h, _ => by omega
  | j + 1, i, h, hj => by
    have e := adr_succ L j (by omega)
    rcases Nat.lt_or_ge i j with h1 | h1
    · have := adr_lt L j i h1 (by omega); omega
    · obtain rfl : i = j := by omega
      omega
theorem adr_inj (L : List Ob) {i j : Nat} (hi : i ≤ L.length) (hj : j ≤ L.length) (h : adr L i = adr L j) : i = j := by
  rcases Nat.lt_trichotomy i j with h1 | h1 | h1
  · have := adr_lt L j i h1 hj; omega
  · exact h1
  · have := adr_lt L i j h1 hi; omega
theorem adr_ge (L : List Ob) (i : Nat) : 3 ≤ adr L i := by unfold adr; omega
/-- sizes alone say where objects lie -/
theorem szs_congr : ∀ {L K : List Ob}, L.map (fun o => o.F.length) = K.map (fun o => o.F.length) → szs L = szs K
  | [], [], _ => rfl
  | [], _ :: _, h => by simp at h
  | _ :: _, [], h => by simp at h
  | o :: r, p :: s, h => by
    simp only [List.map_cons, List.cons.injEq] at h
    simp [szs, h.1, szs_congr h.2]
theorem adr_congr {L K : List Ob} (h : L.map (fun o => o.F.length) = K.map (fun o => o.F.length)) (i : Nat) : adr L i = adr K i := by
  unfold adr
  rw [szs_congr]
  rw [List.map_take, List.map_take, h]
/-- the pointer of the object at a place -/
def ptr (L : List Ob) (i : Nat) : Int := 2 * (adr L i : Int)
/-- the place of a pointer's object -/
def plc (L : List Ob) (w : Int) : Option Nat := (List.range L.length).find? (fun i => decide (ptr L i = w))
theorem plc_some {L : List Ob} {w : Int} {i : Nat} (h : plc L w = some i) : i < L.length ∧ ptr L i = w := by
  unfold plc at h
  have h1 := List.find?_some h
  have h2 := List.mem_of_find?_eq_some h
  exact ⟨List.mem_range.1 h2, by simpa using h1⟩
theorem plc_at {L : List Ob} {i : Nat} (hi : i < L.length) : plc L (ptr L i) = some i := by
  cases h : plc L (ptr L i) with
  | none =>
    unfold plc at h
    rw [List.find?_eq_none] at h
    have := h i (List.mem_range.2 hi)
    simp at this
  | some j =>
    obtain ⟨h1, h2⟩ := plc_some h
    unfold ptr at h2
    rw [adr_inj L (by omega) (by omega) (show adr L j = adr L i by omega)]
theorem plc_none {L : List Ob} {w : Int} (h : ∀ i, i < L.length → ptr L i ≠ w) : plc L w = none := by
  unfold plc
  rw [List.find?_eq_none]
  intro i hi
  simpa using h i (List.mem_range.1 hi)
theorem plc_none_at {L : List Ob} {w : Int} (h : plc L w = none) {i : Nat} (hi : i < L.length) : ptr L i ≠ w := fun e => by
  rw [← e, plc_at hi] at h; cases h
def plcV (L : List Ob) (w : Int) : Int := match plc L w with | some i => (i : Int) | none => -1
def isV (L : List Ob) (w : Int) : Bool := (plc L w).isSome
theorem isV_iff {L : List Ob} {w : Int} : isV L w = true ↔ ∃ i, i < L.length ∧ ptr L i = w := by
  unfold isV
  constructor
  · intro h
    obtain ⟨i, hi⟩ := Option.isSome_iff_exists.1 h
    exact ⟨i, plc_some hi⟩
  · rintro ⟨i, hi, rfl⟩
    rw [plc_at hi]; rfl
theorem plcV_neg {L : List Ob} {w : Int} : plcV L w < 0 ↔ isV L w = false := by
  unfold plcV isV
  cases plc L w <;> simp
/-- the words of an object -/
def encO (o : Ob) : List Int := (4 * (o.F.length : Int) + o.fmt) :: o.cls :: o.hash :: o.F
theorem encO_len (o : Ob) : (encO o).length = o.F.length + 3 := by simp [encO]
def encL (L : List Ob) : List Int := L.flatMap encO
theorem encL_len : ∀ L : List Ob, (encL L).length = szs L
  | [] => rfl
  | o :: r => by
    have := encL_len r
    unfold encL at this ⊢
    simp [szs, encO_len, this]
theorem encL_cons (o : Ob) (r : List Ob) : encL (o :: r) = encO o ++ encL r := rfl
theorem encL_app (L K : List Ob) : encL (L ++ K) = encL L ++ encL K := by simp [encL]
/-- the words of a memory: three noughts, the objects, and what lies behind them -/
def Words (L : List Ob) (ys : List Int) : Prop := ∃ rest, ys = [0, 0, 0] ++ encL L ++ rest
/-- the word k of the object at a place -/
theorem words_at {L : List Ob} {ys : List Int} (h : Words L ys) {i k : Nat} (hi : i < L.length) (hk : k < L[i].F.length + 3) : ys.getD (adr L i + k) 0 = (encO L[i]).getD k 0 := by
  obtain ⟨rest, rfl⟩ := h
  have hsplit : L = L.take i ++ (L[i] :: L.drop (i + 1)) := by rw [List.getElem_cons_drop, List.take_append_drop]
  have hlen : (encL (L.take i)).length = adr L i - 3 := by rw [encL_len]; unfold adr; omega
  have h3 := adr_ge L i
  conv => lhs; rw [hsplit]
  rw [encL_app]
  rw [encL_cons]
  simp only [List.append_assoc, List.getD_eq_getElem?_getD]
  rw [← List.append_assoc [0, 0, 0]]
  have hl2 : ([0, 0, 0] ++ encL (L.take i)).length = adr (L.take i ++ L[i] :: L.drop (i + 1)) i := by
    rw [← hsplit]; simp only [List.length_append, hlen]; simp; omega
  rw [List.getElem?_append_right (by rw [hl2, ← hsplit]; omega), hl2, ← hsplit, show adr L i + k - adr L i = k by omega]
  rw [List.getElem?_append_left (by rw [encO_len]; exact hk)]
theorem words_low {L : List Ob} {ys : List Int} (h : Words L ys) {k : Nat} (hk : k < 3) : ys.getD k 0 = 0 := by
  obtain ⟨rest, rfl⟩ := h
  match k, hk with
  | 0, _ => rfl
  | 1, _ => rfl
  | 2, _ => rfl
/-- what every memory is -/
structure Good (m : Hp) : Prop where
  lo : 16 ≤ m.size
  hi : m.size ≤ 131072
  made : m.made ≤ 1099511627776
  fits : 3 + szs m.L ≤ m.size
  fmt : ∀ o, o ∈ m.L → 0 ≤ o.fmt ∧ o.fmt ≤ 2
  len : ∀ o, o ∈ m.L → o.F.length ≤ 256
  word : ∀ o, o ∈ m.L → (-9223372036854775808 ≤ o.cls ∧ o.cls ≤ 9223372036854775807) ∧ (-1099511627776 ≤ o.hash ∧ o.hash ≤ 1099511627776) ∧ ∀ x, x ∈ o.F → -9223372036854775808 ≤ x ∧ x ≤ 9223372036854775807
theorem szs_take_le (L : List Ob) (i : Nat) : szs (L.take i) ≤ szs L := by
  have h := szs_app (L.take i) (L.drop i)
  rw [List.take_append_drop] at h; omega
theorem adr_le {m : Hp} (h : Good m) (i : Nat) : adr m.L i ≤ m.size := by
  have := szs_take_le m.L i
  have := h.fits
  unfold adr; omega
theorem szs_len : ∀ L : List Ob, 3 * L.length ≤ szs L
  | [] => by simp [szs]
  | o :: r => by have := szs_len r; simp [szs]; omega
end Go.Proofs.Ytfinpgkehjbcpaa
