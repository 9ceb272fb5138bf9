/- Chapter 02: Keep and Turn: plain mathematics. -/
import Derived.Test.YtfinpgkehjbcpaaHM0
namespace Go.Proofs.Ytfinpgkehjbcpaa
set_option linter.unusedVariables false
set_option linter.unusedSimpArgs false
/-- the place of a number in a list -/
def findN : List Int → Int → Option Nat
  | [], _ => none
  | x :: l, n => if x = n then some 0 else (findN l n).map (· + 1)
theorem findN_none : ∀ {l : List Int} {n : Int}, findN l n = none ↔ n ∉ l
  | [], n => by simp [findN]
  | x :: l, n => by
    unfold findN
    by_cases h : x = n
    · simp [h]
    · rw [if_neg h]; simp [findN_none (l := l) (n := n), Ne.symm h, show ¬ n = x from fun e => h e.symm]
theorem findN_some : ∀ {l : List Int} {n : Int} {k : Nat}, findN l n = some k → ∃ h : k < l.length, l[k] = n ∧ ∀ j (hj : j < k), l[j]'(by omega) ≠ n
  | [], n, k, h => by simp [findN] at h
  | x :: l, n, k, h => by
    unfold findN at h
    by_cases e : x = n
    · rw [if_pos e] at h
      cases h
      exact ⟨by simp, e, fun j hj => absurd hj (by omega)⟩
    · rw [if_neg e] at h
      obtain ⟨j, hj, rfl⟩ := Option.map_eq_some_iff.1 h
      obtain ⟨h1, h2, h3⟩ := findN_some hj
      refine ⟨by simp; omega, by simpa using h2, fun i hi => ?_⟩
      match i with
      | 0 => exact e
      | i + 1 => exact h3 i (by omega)
theorem findN_first : ∀ {l : List Int} {n : Int} {k : Nat} (h : k < l.length), l[k] = n → (∀ j (hj : j < k), l[j]'(by omega) ≠ n) → findN l n = some k
  | [], n, k, h, _, _ => absurd h (by simp)
  | x :: l, n, 0, h, e, _ => by unfold findN; rw [if_pos (by simpa using e)]
  | x :: l, n, k + 1, h, e, hall => by
    unfold findN
    have h0 := hall 0 (by omega)
    rw [if_neg (by simpa using h0), findN_first (k := k) (by simpa using h) (by simpa using e) (fun j hj => by have := hall (j + 1) (by omega); simpa using this)]
    rfl
theorem findN_isSome {l : List Int} {n : Int} : (findN l n).isSome = l.contains n := by
  cases h : findN l n with
  | none => have := findN_none.1 h; simp [this]
  | some k =>
    obtain ⟨h1, h2, _⟩ := findN_some h
    simp only [Option.isSome_some]
    exact (List.contains_iff_mem.2 (h2 ▸ List.getElem_mem h1)).symm
/-- a number of one list is that of another one -/
def sbV (fr tl : List Int) (w : Int) : Int := match findN fr w with | some k => tl.getD k 0 | none => w
theorem sbV_none {fr tl : List Int} {w : Int} (h : w ∉ fr) : sbV fr tl w = w := by unfold sbV; rw [findN_none.2 h]
/-- an object whose words are turned -/
def turnO (f : Int → Int) (o : Ob) : Ob := ⟨f o.cls, o.fmt, o.hash, if o.fmt = 0 then o.F.map f else o.F⟩
theorem turnO_len (f : Int → Int) (o : Ob) : (turnO f o).F.length = o.F.length := by unfold turnO; dsimp only; split <;> simp
theorem turnO_congr {f g : Int → Int} {o : Ob} (h1 : f o.cls = g o.cls) (h2 : o.fmt = 0 → ∀ x, x ∈ o.F → f x = g x) : turnO f o = turnO g o := by
  unfold turnO
  rw [h1]
  by_cases h : o.fmt = 0
  · rw [if_pos h, if_pos h, List.map_congr_left (h2 h)]
  · rw [if_neg h, if_neg h]
/-- the words of an object that are words -/
def wordsO (o : Ob) : List Int := o.cls :: (if o.fmt = 0 then o.F else [])
/-- lists of pointers that may be handed in -/
def distinct : List Int → Bool
  | [] => true
  | x :: l => !l.contains x && distinct l
theorem distinct_iff : ∀ {l : List Int}, distinct l = true ↔ l.Nodup
  | [] => by simp [distinct]
  | x :: l => by simp [distinct, distinct_iff (l := l)]
def turnOk (L : List Ob) (fr tl : List Int) : Bool := decide (fr.length = tl.length) && fr.all (isV L) && tl.all (isV L) && distinct fr
def turnV (m : Hp) (fr tl : List Int) : Hp × Int := if turnOk m.L fr tl then ({ m with L := m.L.map (turnO (sbV fr tl)) }, 0) else (m, 1)
/-- is the object at a place kept? -/
def kp (L : List Ob) (l : List Int) (i : Nat) : Bool := l.contains (ptr L i)
/-- the kept ones of the first k -/
def keptTo (L : List Ob) (l : List Int) (k : Nat) : List Ob := ((List.range k).filter (kp L l)).map (fun i => L.getD i zeroO)
theorem keptTo_zero (L : List Ob) (l : List Int) : keptTo L l 0 = [] := rfl
theorem keptTo_succ {L : List Ob} {l : List Int} {k : Nat} (hk : k < L.length) : keptTo L l (k + 1) = if kp L l k then keptTo L l k ++ [L[k]] else keptTo L l k := by
  unfold keptTo
  rw [List.range_succ, List.filter_append, List.map_append]
  by_cases h : kp L l k = true
  · rw [if_pos h, List.filter_cons_of_pos h]
    simp [List.getD_eq_getElem?_getD, List.getElem?_eq_getElem hk]
  · rw [if_neg h, List.filter_cons_of_neg h]; simp
/-- where a kept one's object lies behind -/
def toAt (L : List Ob) (l : List Int) (i : Nat) : Int := 2 * ((3 + szs (keptTo L l i) : Nat) : Int)
def toV (L : List Ob) (l : List Int) (w : Int) : Int := match plc L w with | some i => if kp L l i then toAt L l i else 0 | none => 0
theorem toV_at {L : List Ob} {l : List Int} {i : Nat} (hi : i < L.length) : toV L l (ptr L i) = if kp L l i then toAt L l i else 0 := by unfold toV; rw [plc_at hi]
theorem toAt_pos (L : List Ob) (l : List Int) (i : Nat) : 6 ≤ toAt L l i := by unfold toAt; omega
theorem toV_zero {L : List Ob} {l : List Int} {i : Nat} (hi : i < L.length) : toV L l (ptr L i) = 0 ↔ kp L l i = false := by
  rw [toV_at hi]
  have := toAt_pos L l i
  cases kp L l i
  · simp
  · simp; omega
/-- what a word is behind -/
def sgm (L : List Ob) (l : List Int) (w : Int) : Int := if isPointerV w then toV L l w else w
def fitsO (l : List Int) (o : Ob) : Bool := (wordsO o).all (fun x => !isPointerV x || l.contains x)
def fitsTo (L : List Ob) (l : List Int) (k : Nat) : Bool := (keptTo L l k).all (fitsO l)
def keepOk (L : List Ob) (l : List Int) : Bool := l.all (isV L) && distinct l
def keepV (m : Hp) (l : List Int) : Hp × List Int × Int :=
  if keepOk m.L l && fitsTo m.L l m.L.length then ({ m with L := (keptTo m.L l m.L.length).map (turnO (sgm m.L l)) }, l.map (toV m.L l), 0) else (m, [], 1)
/-! ### sizes -/
theorem keptTo_szs (L : List Ob) (l : List Int) : ∀ k, k ≤ L.length → 3 + szs (keptTo L l k) ≤ adr L k
  | 0, _ => by rw [adr_zero]; simp [keptTo_zero, szs]
  | k + 1, h => by
    have ih := keptTo_szs L l k (by omega)
    rw [adr_succ L k (by omega), keptTo_succ (by omega)]
    split
    · rw [szs_app]; simp [szs]; omega
    · omega
theorem szs_map_turn (f : Int → Int) : ∀ L : List Ob, szs (L.map (turnO f)) = szs L
  | [] => rfl
  | o :: r => by simp [szs, turnO_len, szs_map_turn f r]
theorem keptTo_mem {L : List Ob} {l : List Int} {k : Nat} (hk : k ≤ L.length) {o : Ob} (h : o ∈ keptTo L l k) : ∃ i, ∃ hi : i < L.length, i < k ∧ kp L l i = true ∧ o = L[i] := by
  unfold keptTo at h
  obtain ⟨i, hi, rfl⟩ := List.mem_map.1 h
  obtain ⟨h1, h2⟩ := List.mem_filter.1 hi
  have h3 := List.mem_range.1 h1
  exact ⟨i, by omega, h3, h2, by simp [List.getD_eq_getElem?_getD, List.getElem?_eq_getElem (show i < L.length by omega)]⟩
/-! ### the words on the way -/
/-- the kept ones at the front, what is no longer wanted, the object at hand, the others -/
def Mid (L K : List Ob) (k : Nat) (o : Ob) (n : Nat) (ys : List Int) : Prop := ∃ junk rest, ys = [0, 0, 0] ++ encL K ++ junk ++ encO o ++ encL (L.drop (k + 1)) ++ rest ∧ 3 + szs K + junk.length = adr L k ∧ ys.length = n
/-- between two objects -/
def Gap (L K : List Ob) (k : Nat) (n : Nat) (ys : List Int) : Prop := ∃ junk rest, ys = [0, 0, 0] ++ encL K ++ junk ++ encL (L.drop k) ++ rest ∧ 3 + szs K + junk.length = adr L k ∧ ys.length = n
theorem gap_start {L : List Ob} {ys : List Int} (h : Words L ys) : Gap L [] 0 ys.length ys := by
  obtain ⟨rest, rfl⟩ := h
  exact ⟨[], rest, by simp [encL], by rw [adr_zero]; simp [szs], rfl⟩
theorem gap_mid {L K : List Ob} {k n : Nat} {ys : List Int} (hk : k < L.length) : Gap L K k n ys ↔ Mid L K k L[k] n ys := by
  unfold Gap Mid
  rw [List.drop_eq_getElem_cons hk, encL_cons]
  simp [List.append_assoc]
theorem mid_skip {L K : List Ob} {k n : Nat} {ys : List Int} (hk : k < L.length) {o : Ob} (ho : o.F.length = L[k].F.length) (h : Mid L K k o n ys) : Gap L K (k + 1) n ys := by
  obtain ⟨junk, rest, rfl, h1, h2⟩ := h
  refine ⟨junk ++ encO o, rest, by simp [List.append_assoc], ?_, h2⟩
  rw [List.length_append, encO_len, adr_succ L k hk, ho, ← h1]; omega
theorem pre_len (K : List Ob) (junk : List Int) : ([0, 0, 0] ++ encL K ++ junk : List Int).length = 3 + szs K + junk.length := by
  rw [List.length_append, List.length_append, encL_len]; rfl
theorem mid_at {L K : List Ob} {k n : Nat} {o : Ob} {ys : List Int} (h : Mid L K k o n ys) {j : Nat} (hj : j < o.F.length + 3) : ys.getD (adr L k + j) 0 = (encO o).getD j 0 ∧ adr L k + j < n := by
  obtain ⟨junk, rest, rfl, h1, h2⟩ := h
  have hp := pre_len K junk
  rw [h1] at hp
  constructor
  · have e : [0, 0, 0] ++ encL K ++ junk ++ encO o ++ encL (L.drop (k + 1)) ++ rest = ([0, 0, 0] ++ encL K ++ junk) ++ (encO o ++ (encL (L.drop (k + 1)) ++ rest)) := by simp [List.append_assoc]
    rw [e, List.getD_eq_getElem?_getD, List.getD_eq_getElem?_getD, List.getElem?_append_right (by omega), hp, show adr L k + j - adr L k = j by omega, List.getElem?_append_left (by rw [encO_len]; exact hj)]
  · rw [← h2]
    simp only [List.length_append] at hp ⊢
    rw [encO_len]; omega
theorem mid_set {L K : List Ob} {k n : Nat} {o o' : Ob} {ys : List Int} (h : Mid L K k o n ys) {j : Nat} {x : Int} (hj : j < o.F.length + 3) (ho : encO o' = (encO o).set j x) : Mid L K k o' n (ys.set (adr L k + j) x) := by
  obtain ⟨junk, rest, rfl, h1, h2⟩ := h
  have hp := pre_len K junk
  rw [h1] at hp
  refine ⟨junk, rest, ?_, h1, by rw [List.length_set]; exact h2⟩
  have e : [0, 0, 0] ++ encL K ++ junk ++ encO o ++ encL (L.drop (k + 1)) ++ rest = ([0, 0, 0] ++ encL K ++ junk) ++ (encO o ++ (encL (L.drop (k + 1)) ++ rest)) := by simp [List.append_assoc]
  rw [e, List.set_append_right _ _ (by omega), hp, show adr L k + j - adr L k = j by omega, List.set_append_left _ _ (by rw [encO_len]; exact hj), ho]
  simp [List.append_assoc]
/-- a piece is written over what stands ahead of it, or over itself -/
theorem spl_app : ∀ (zs pre post : List Int), zs.length ≤ post.length → spl (pre ++ post) pre.length zs = pre ++ (zs ++ post.drop zs.length)
  | [], pre, post, h => by simp [spl]
  | z :: zs, pre, [], h => by simp at h
  | z :: zs, pre, p :: post, h => by
    have ih := spl_app zs (pre ++ [z]) post (by simpa using h)
    unfold spl
    have e : (pre ++ p :: post).set pre.length z = (pre ++ [z]) ++ post := by
      rw [List.set_append_right _ _ (Nat.le_refl _)]; simp
    rw [e]
    rw [show pre.length + 1 = (pre ++ [z]).length by simp, ih]; simp
theorem mid_copy {L K : List Ob} {k n : Nat} {o : Ob} {ys : List Int} (hk : k < L.length) (ho : o.F.length = L[k].F.length) (h : Mid L K k o n ys) : Gap L (K ++ [o]) (k + 1) n (spl ys (3 + szs K) (encO o)) := by
  obtain ⟨junk, rest, rfl, h1, h2⟩ := h
  have hp : ([0, 0, 0] ++ encL K : List Int).length = 3 + szs K := by rw [List.length_append, encL_len]; rfl
  have e : [0, 0, 0] ++ encL K ++ junk ++ encO o ++ encL (L.drop (k + 1)) ++ rest = ([0, 0, 0] ++ encL K) ++ ((junk ++ encO o) ++ (encL (L.drop (k + 1)) ++ rest)) := by simp [List.append_assoc]
  have hl : (encO o).length ≤ (junk ++ encO o).length := by simp
  refine ⟨(junk ++ encO o).drop (encO o).length, rest, ?_, ?_, by rw [spl_len]; exact h2⟩
  · rw [e, ← hp, spl_app _ _ _ (by simp only [List.length_append]; omega), List.drop_append_of_le_length hl, encL_app]
    simp [encL, List.append_assoc]
  · rw [szs_app, List.length_drop, List.length_append, adr_succ L k hk, encO_len]; simp [szs]; omega
theorem gap_end {L K : List Ob} {n : Nat} {ys : List Int} (h : Gap L K L.length n ys) (z : Nat) (hz : 3 + szs K + z ≤ adr L L.length) : Words K (spl ys (3 + szs K) (List.replicate z 0)) := by
  obtain ⟨junk, rest, rfl, h1, h2⟩ := h
  have hp : ([0, 0, 0] ++ encL K : List Int).length = 3 + szs K := by rw [List.length_append, encL_len]; rfl
  rw [List.append_assoc ([0, 0, 0] ++ encL K), List.append_assoc ([0, 0, 0] ++ encL K), ← hp, spl_app _ _ _ (by simp; omega)]
  exact ⟨List.replicate z 0 ++ List.drop (List.replicate z 0).length (junk ++ encL (List.drop L.length L) ++ rest), by simp [List.append_assoc]⟩
end Go.Proofs.Ytfinpgkehjbcpaa
