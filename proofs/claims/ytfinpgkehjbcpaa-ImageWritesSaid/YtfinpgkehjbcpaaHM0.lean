/- Chapter 02: an object more: plain words, and the program's memory behind it. -/
import Derived.Test.YtfinpgkehjbcpaaHD0
namespace Go.Proofs.Ytfinpgkehjbcpaa
open Go.ChangeShapes Go.WideShapes Go.ChangeAt Go.RowKit Go.Deep Go.Joins Go.Maps
set_option linter.unusedVariables false
set_option linter.unusedSimpArgs false

def newO (c f h : Int) (n : Nat) : Ob := ⟨c, f, h, List.replicate n 0⟩
def badM (m : Hp) (c f n : Int) : Bool := !(decide (c = 0) || isV m.L c) || decide (f < 0) || decide (2 < f) || decide (n < 0) || decide (256 < n)
def fullM (m : Hp) (n : Int) : Bool := decide ((m.size : Int) - (adr m.L m.L.length : Int) < n + 3) || decide (1099511627776 ≤ (m.made : Int))
/-- what Make comes to: the memory, the pointer, the error's number -/
def makeV (m : Hp) (c f n : Int) : Hp × Int × Int := if badM m c f n then (m, 0, 1) else if fullM m n then (m, 0, 4) else ({ m with made := m.made + 1, L := m.L ++ [newO c f ((m.made : Int) + 1) n.toNat] }, ptr m.L m.L.length, 0)
/-- a list, written over from a place on -/
def spl : List Int → Nat → List Int → List Int
  | ys, _, [] => ys
  | ys, o, z :: zs => spl (ys.set o z) (o + 1) zs
theorem spl_mid : ∀ (zs mid pre post : List Int), mid.length = zs.length → spl (pre ++ (mid ++ post)) pre.length zs = pre ++ (zs ++ post)
  | [], mid, pre, post, h => by
    have : mid = [] := List.eq_nil_of_length_eq_zero h
    subst this; rfl
  | z :: zs, [], pre, post, h => by simp at h
  | z :: zs, a :: mid, pre, post, h => by
    have ih := spl_mid zs mid (pre ++ [z]) post (by simpa using h)
    unfold spl
    have e : (pre ++ (a :: mid ++ post)).set pre.length z = (pre ++ [z]) ++ (mid ++ post) := by
      rw [List.set_append_right _ _ (Nat.le_refl _)]; simp
    rw [e]
    have hl : (pre ++ [z]).length = pre.length + 1 := by simp
    rw [hl] at ih
    rw [ih]; simp
theorem spl_len : ∀ (zs ys : List Int) (o : Nat), (spl ys o zs).length = ys.length
  | [], ys, o => rfl
  | z :: zs, ys, o => by unfold spl; rw [spl_len zs]; simp
/-- the words, with one object more -/
theorem words_make {L : List Ob} {ys : List Int} (h : Words L ys) {c f hh : Int} {n : Nat} (hl : 3 + szs L + n + 3 ≤ ys.length) :
    Words (L ++ [newO c f hh n]) (spl (((ys.set (3 + szs L) (4 * (n : Int) + f)).set (3 + szs L + 1) c).set (3 + szs L + 2) hh) (3 + szs L + 3) (List.replicate n 0)) := by
  obtain ⟨rest, rfl⟩ := h
  obtain ⟨pre, hpre⟩ : ∃ pre, [0, 0, 0] ++ encL L = pre := ⟨_, rfl⟩
  have hpl : pre.length = 3 + szs L := by rw [← hpre, List.length_append, encL_len]; simp
  rw [hpre] at hl ⊢
  rw [List.length_append, hpl] at hl
  match rest, hl with
  | r0 :: r1 :: r2 :: r, hl =>
    have hr : n ≤ r.length := by simp only [List.length_cons] at hl; omega
    have e1 : (((pre ++ (r0 :: r1 :: r2 :: r)).set (3 + szs L) (4 * (n : Int) + f)).set (3 + szs L + 1) c).set (3 + szs L + 2) hh = (pre ++ [4 * (n : Int) + f, c, hh]) ++ (r.take n ++ r.drop n) := by
      rw [← hpl, List.set_append_right _ _ (Nat.le_refl _), List.set_append_right _ _ (by omega), List.set_append_right _ _ (by omega)]
      rw [Nat.sub_self, show pre.length + 1 - pre.length = 1 by omega, show pre.length + 2 - pre.length = 2 by omega, List.take_append_drop]
      simp
    rw [e1]
    have hlen : (pre ++ [4 * (n : Int) + f, c, hh]).length = 3 + szs L + 3 := by simp [hpl]
    rw [← hlen, spl_mid _ _ _ _ (by simp; omega)]
    refine ⟨r.drop n, ?_⟩
    rw [encL_app, ← List.append_assoc [0, 0, 0], hpre]
    simp [encL, encO, newO]
  | [], hl => exact absurd hl (by simp; omega)
  | [_], hl => exact absurd hl (by simp; omega)
  | [_, _], hl => exact absurd hl (by simp; omega)
theorem ints_set {w : World} {b o : Nat} {ys : List Int} (h : w.heap[b]? = some (.cells (ys.map (Value.int .i64)).toArray 3 (0, 0))) (x : Int) : (w.setCell ⟨b, o, none⟩ (.int .i64 x)).heap[b]? = some (.cells ((ys.set o x).map (Value.int .i64)).toArray 3 (0, 0)) := by
  rw [heap_setCell_same w b o _ _ _ h, List.map_set]
  simp
theorem ints_setCells : ∀ (zs : List Int) (w : World) (b o : Nat) (ys : List Int), w.heap[b]? = some (.cells (ys.map (Value.int .i64)).toArray 3 (0, 0)) → (w.setCells b o (zs.map (Value.int .i64))).heap[b]? = some (.cells ((spl ys o zs).map (Value.int .i64)).toArray 3 (0, 0))
  | [], w, b, o, ys, h => h
  | z :: zs, w, b, o, ys, h => ints_setCells zs _ b (o + 1) _ (ints_set h z)
theorem setCells_other : ∀ (vs : List Value) (w : World) (b o k : Nat), k ≠ b → (w.setCells b o vs).heap[k]? = w.heap[k]?
  | [], w, b, o, k, h => rfl
  | v :: vs, w, b, o, k, h => (setCells_other vs _ b (o + 1) k h).trans (Below.heap_setCell _ _ _ _ h)

theorem good_make {m : Hp} (h : Good m) {c f n : Int} (hc : InI c) (hb : badM m c f n = false) (hf : fullM m n = false) : Good (makeV m c f n).1 ∧ 3 + szs m.L + n.toNat + 3 ≤ m.size ∧ 0 ≤ n ∧ n ≤ 256 ∧ 0 ≤ f ∧ f ≤ 2 ∧ m.made + 1 ≤ 1099511627776 := by
  unfold badM at hb
  unfold fullM at hf
  simp only [Bool.or_eq_false_iff, Bool.not_eq_false', decide_eq_false_iff_not] at hb hf
  have he := adr_end m.L
  obtain ⟨⟨⟨⟨b1, b2⟩, b3⟩, b4⟩, b5⟩ := hb
  obtain ⟨f1, f2⟩ := hf
  have h1 : 3 + szs m.L + n.toNat + 3 ≤ m.size := by omega
  refine ⟨?_, h1, by omega, by omega, by omega, by omega, by omega⟩
  unfold makeV
  have hb' : badM m c f n = false := by
    unfold badM
    simp only [Bool.or_eq_false_iff, Bool.not_eq_false', decide_eq_false_iff_not]
    exact ⟨⟨⟨⟨b1, b2⟩, b3⟩, b4⟩, b5⟩
  have hf' : fullM m n = false := by
    unfold fullM
    simp only [Bool.or_eq_false_iff, decide_eq_false_iff_not]
    exact ⟨f1, f2⟩
  rw [hb', hf']
  simp only [Bool.false_eq_true, if_false]
  refine ⟨h.lo, h.hi, by show m.made + 1 ≤ _; omega, ?_, fun o ho => ?_, fun o ho => ?_, fun o ho => ?_⟩
  · show 3 + szs (m.L ++ [newO c f ((m.made : Int) + 1) n.toNat]) ≤ m.size
    rw [szs_app]; simp [szs, newO]; omega
  · rcases List.mem_append.1 ho with q | q
    · exact h.fmt o q
    · rw [List.mem_singleton.1 q]; exact ⟨by show 0 ≤ f; omega, by show f ≤ 2; omega⟩
  · rcases List.mem_append.1 ho with q | q
    · exact h.len o q
    · rw [List.mem_singleton.1 q]; simp [newO]; omega
  · rcases List.mem_append.1 ho with q | q
    · exact h.word o q
    · rw [List.mem_singleton.1 q]
      refine ⟨hc, ⟨by show _ ≤ (m.made : Int) + 1; omega, by show (m.made : Int) + 1 ≤ _; omega⟩, fun x hx => ?_⟩
      have : x = 0 := by simpa [newO] using (List.mem_replicate.1 hx).2
      subst this; decide

theorem PM.made {w w' : World} {s bw bm : Nat} {m : Hp} (h : PM w s bw bm m) {c f n : Int} (hc : InI c) (hb : badM m c f n = false) (hf : fullM m n = false) {ys : List Int} (y1 : ys.length = m.size) (y2 : Words m.L ys)
    (hbox : w'.heap[s]? = some (.cells #[.slice (some ⟨bw, 0, none⟩) m.size m.size, .int .i64 ((adr m.L m.L.length : Int) + (n + 3)), .int .i64 ((m.made : Int) + 1), .map (some bm)] 96 (0, 0)))
    (hrow : w'.heap[bw]? = some (.cells ((spl (((ys.set (3 + szs m.L) (4 * (n.toNat : Int) + f)).set (3 + szs m.L + 1) c).set (3 + szs m.L + 2) ((m.made : Int) + 1)) (3 + szs m.L + 3) (List.replicate n.toNat 0)).map (Value.int .i64)).toArray 3 (0, 0)))
    {k : Nat} {g : Int → Bool} (hk : k ≤ m.L.length) (hg : ∀ a, InI a → (g a = true ↔ ∃ i, i < m.L.length ∧ (adr m.L i : Int) = a)) (hmap : BoolMap w' bm (k + 1) (fun a => if a = (adr m.L m.L.length : Int) then true else g a)) :
    PM w' s bw bm (makeV m c f n).1 := by
  obtain ⟨g1, g2, g3, g4, g5, g6, g7⟩ := good_make h.good hc hb hf
  have hv : (makeV m c f n).1 = { m with made := m.made + 1, L := m.L ++ [newO c f ((m.made : Int) + 1) n.toNat] } := by unfold makeV; rw [hb, hf]; rfl
  rw [hv] at g1 ⊢
  have he := adr_end m.L
  have hlen : (m.L ++ [newO c f ((m.made : Int) + 1) n.toNat]).length = m.L.length + 1 := by simp
  have hend : (adr (m.L ++ [newO c f ((m.made : Int) + 1) n.toNat]) (m.L.length + 1) : Int) = (adr m.L m.L.length : Int) + (n + 3) := by
    rw [← hlen, adr_end, szs_app, he]; simp [szs, newO]; omega
  refine ⟨g1, ?_, ⟨_, ?_, words_make y2 (by omega), hrow⟩, k + 1, _, ?_, hmap, fun a ha => ?_⟩
  · rw [hbox]
    show some (Obj.cells #[_, _, .int .i64 ((m.made : Int) + 1), _] _ _) = some (Obj.cells #[_, .int .i64 (adr (m.L ++ [newO c f ((m.made : Int) + 1) n.toNat]) (m.L ++ [newO c f ((m.made : Int) + 1) n.toNat]).length : Int), .int .i64 ((m.made + 1 : Nat) : Int), _] _ _)
    rw [hlen, hend, Int.natCast_add]; rfl
  · rw [spl_len]; simpa using y1
  · rw [hlen]; omega
  · show (if a = (adr m.L m.L.length : Int) then true else g a) = true ↔ ∃ i, i < (m.L ++ [newO c f ((m.made : Int) + 1) n.toNat]).length ∧ (adr (m.L ++ [newO c f ((m.made : Int) + 1) n.toNat]) i : Int) = a
    rw [hlen]
    by_cases e : a = (adr m.L m.L.length : Int)
    · rw [if_pos e]
      exact ⟨fun _ => ⟨m.L.length, by omega, by rw [adr_app _ _ _ (Nat.le_refl _)]; exact e.symm⟩, fun _ => rfl⟩
    · rw [if_neg e, hg a ha]
      constructor
      · rintro ⟨i, hi, h2⟩
        exact ⟨i, by omega, by rw [adr_app _ _ _ (by omega)]; exact h2⟩
      · rintro ⟨i, hi, h2⟩
        rcases Nat.lt_or_ge i m.L.length with q | q
        · exact ⟨i, q, by rw [adr_app _ _ _ (by omega)] at h2; exact h2⟩
        · obtain rfl : i = m.L.length := by omega
          rw [adr_app _ _ _ (Nat.le_refl _)] at h2
          exact absurd h2.symm e
end Go.Proofs.Ytfinpgkehjbcpaa
