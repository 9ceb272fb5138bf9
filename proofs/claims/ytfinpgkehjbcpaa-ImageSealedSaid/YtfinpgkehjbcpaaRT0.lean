/- Chapter 02: lists of objects in memory. -/
import Derived.Test.YtfinpgkehjbcpaaRM0
import Derived.Test.YtfinpgkehjbcpaaHE1
import Derived.Test.YtfinpgkehjbcpaaRR1
import Derived.Test.YtfinpgkehjbcpaaJD
import Derived.Test.YtfinpgkehjbcpaaJRead3
import Derived.Test.YtfinpgkehjbcpaaIS
namespace Go.Proofs.Ytfinpgkehjbcpaa
open Go.ChangeShapes Go.WideShapes Go.ChangeAt Go.RowKit Go.Deep Go.Joins Go.Maps
set_option linter.unusedVariables false
set_option linter.unusedSimpArgs false

/-- the objects L lie in the blocks of R: their row is lv, their fields' rows fv -/
structure LM (w : World) (R : Nat → Prop) (L : List Ob) (lv : Value) (fv : Nat → Value) : Prop where
  own : w.ownsRow 0 75 4 lv L.length (rowsL L.length 4 (objF L fv))
  fields : ∀ (i : Nat) (hi : i < L.length), w.ownsRow 0 3 1 (fv i) L[i].F.length (L[i].F.map (Value.int .i64))
  apart : ∀ i j, i < j → j < L.length → (fv i).ownBlock ≠ none → (fv i).ownBlock ≠ (fv j).ownBlock
  inL : ∀ k, lv.ownBlock = some k → R k
  inF : ∀ i, i < L.length → ∀ k, (fv i).ownBlock = some k → R k
  lt : ∀ k, R k → k < w.heap.size
theorem RM.lm {w : World} {R : Nat → Prop} {r : Nat} {m : Hp} {lv : Value} {fv : Nat → Value} (h : RM w R r m lv fv) : LM w R m.L lv fv := ⟨h.own, h.fields, h.apart, h.inR.2.1, h.inR.2.2, h.lt⟩
section
variable {w w' : World} {R R' : Nat → Prop} {L : List Ob} {lv lv' v : Value} {fv : Nat → Value}
theorem LM.rm (h : LM w R L lv fv) {m : Hp} (hL : m.L = L) (hg : Good m) {r : Nat} (hbox : w.heap[r]? = some (.cells #[.int .i64 (m.size : Int), .int .i64 (m.made : Int), lv] 61 (0, 0))) (hr : R r) : RM w R r m lv fv := by
  subst hL
  exact ⟨hg, hbox, h.own, h.fields, h.apart, ⟨hr, h.inL, h.inF⟩, h.lt⟩
theorem LM.same (h : LM w R L lv fv) (hs : w.heap.size ≤ w'.heap.size) (hb : ∀ k, R k → w'.heap[k]? = w.heap[k]?) : LM w' R L lv fv :=
  ⟨ownsRow_same h.own hs (fun k hk => hb k (h.inL k hk)), fun i hi => ownsRow_same (h.fields i hi) hs (fun k hk => hb k (h.inF i hi k hk)), h.apart, h.inL, h.inF, fun k hk => Nat.lt_of_lt_of_le (h.lt k hk) hs⟩
theorem LM.mono (h : LM w R L lv fv) (hR : ∀ k, R k → R' k) (hl : ∀ k, R' k → k < w.heap.size) : LM w R' L lv fv := ⟨h.own, h.fields, h.apart, fun k hk => hR k (h.inL k hk), fun i hi k hk => hR k (h.inF i hi k hk), hl⟩
theorem LM.ne (h : LM w R L lv fv) : ∀ i, i < L.length → (fv i).ownBlock ≠ none → (fv i).ownBlock ≠ lv.ownBlock := fun i hi hn e => by
  obtain ⟨k, hk⟩ := Option.ne_none_iff_exists'.1 hn
  obtain ⟨cur, hh⟩ := own_block_of (h.fields i hi) hk
  obtain ⟨cur2, hh2⟩ := own_block_of h.own (by rw [← e]; exact hk)
  rw [hh] at hh2; simp at hh2
theorem LM.nil (w : World) (R : Nat → Prop) (fv : Nat → Value) (hl : ∀ k, R k → k < w.heap.size) : LM w R [] (.slice none 0 0) fv :=
  ⟨World.ownsRow_nil _ _ _ _, fun i hi => absurd hi (by simp), fun i j _ hj => absurd hj (by simp), (fun k hk => by cases hk), (fun i hi => absurd hi (by simp)), hl⟩
theorem LM.push2 (h : LM w R L lv fv) {o : Ob} (hown : w'.ownsRow 0 75 4 lv' (L.length + 1) (rowsL L.length 4 (objF L fv) ++ [.int .i64 o.cls, .int .i64 o.fmt, .int .i64 o.hash, v]))
    (hf : w'.ownsRow 0 3 1 v o.F.length (o.F.map (Value.int .i64))) (hv : ∀ i, i < L.length → (fv i).ownBlock ≠ none → (fv i).ownBlock ≠ v.ownBlock)
    (hold : ∀ i, i < L.length → ∀ k, (fv i).ownBlock = some k → w'.heap[k]? = w.heap[k]?) (hR : ∀ k, R k → R' k) (h1 : ∀ k, lv'.ownBlock = some k → R' k) (h2 : ∀ k, v.ownBlock = some k → R' k) (hl : ∀ k, R' k → k < w'.heap.size) (hs : w.heap.size ≤ w'.heap.size) :
    LM w' R' (L ++ [o]) lv' (fun i => if i = L.length then v else fv i) := by
  have hlen : (L ++ [o]).length = L.length + 1 := by simp
  refine ⟨?_, ?_, ?_, h1, ?_, hl⟩
  · rw [hlen, rowsL_succ]
    have e1 : rowsL L.length 4 (objF (L ++ [o]) (fun i => if i = L.length then v else fv i)) = rowsL L.length 4 (objF L fv) := by
      apply rowsL_congr
      intro i hi j hj
      unfold objF
      rw [List.getD_eq_getElem?_getD, List.getD_eq_getElem?_getD, List.getElem?_append_left hi]
      simp only [if_neg (show ¬ i = L.length by omega)]
    have e2 : (List.range 4).map (objF (L ++ [o]) (fun i => if i = L.length then v else fv i) L.length) = [.int .i64 o.cls, .int .i64 o.fmt, .int .i64 o.hash, v] := by
      have : (L ++ [o]).getD L.length zeroO = o := by rw [List.getD_eq_getElem?_getD, List.getElem?_append_right (Nat.le_refl _)]; simp
      show [objF _ _ _ 0, objF _ _ _ 1, objF _ _ _ 2, objF _ _ _ 3] = _
      unfold objF
      rw [this]
      simp
    rw [e1, e2]
    exact hown
  · intro i hi
    rcases Nat.lt_or_ge i L.length with q | q
    · have e : (L ++ [o])[i] = L[i] := List.getElem_append_left q
      rw [e, if_neg (by omega)]
      exact ownsRow_same (h.fields i q) hs (hold i q)
    · obtain rfl : i = L.length := by omega
      have e : (L ++ [o])[L.length] = o := by simp
      rw [e, if_pos rfl]
      exact hf
  · intro i j hij hj hn
    rw [hlen] at hj
    rw [if_neg (by omega)] at hn ⊢
    rcases Nat.lt_or_ge j L.length with q | q
    · rw [if_neg (by omega)]; exact h.apart i j hij q hn
    · obtain rfl : j = L.length := by omega
      rw [if_pos rfl]
      exact hv i hij hn
  · intro i hi k hk
    rw [hlen] at hi
    rcases Nat.lt_or_ge i L.length with q | q
    · rw [if_neg (by omega)] at hk; exact hR k (h.inF i q k hk)
    · obtain rfl : i = L.length := by omega
      rw [if_pos rfl] at hk
      exact h2 k hk
theorem LM.push (h : LM w R L lv fv) {o : Ob} (hown : w'.ownsRow 0 75 4 lv' (L.length + 1) (rowsL L.length 4 (objF L fv) ++ [.int .i64 o.cls, .int .i64 o.fmt, .int .i64 o.hash, v]))
    (hf : w'.ownsRow 0 3 1 v o.F.length (o.F.map (Value.int .i64))) (hv : ∀ i, i < L.length → (fv i).ownBlock ≠ none → (fv i).ownBlock ≠ v.ownBlock)
    (hb : ∀ k, R k → lv.ownBlock ≠ some k → w'.heap[k]? = w.heap[k]?) (hR : ∀ k, R k → R' k) (h1 : ∀ k, lv'.ownBlock = some k → R' k) (h2 : ∀ k, v.ownBlock = some k → R' k) (hl : ∀ k, R' k → k < w'.heap.size) (hs : w.heap.size ≤ w'.heap.size) :
    LM w' R' (L ++ [o]) lv' (fun i => if i = L.length then v else fv i) :=
  h.push2 hown hf hv (fun i hi k hk => hb k (h.inF i hi k hk) (fun e => h.ne i hi (by rw [hk]; simp) (by rw [hk, e]))) hR h1 h2 hl hs
/-- an object of the list is another one, its fields lie elsewhere -/
theorem LM.put (h : LM w R L lv fv) {i g c : Nat} (hi : i < L.length) (hlv : lv = .slice (some ⟨g, 0, none⟩) L.length c) {o : Ob} (hf : w.ownsRow 0 3 1 v o.F.length (o.F.map (Value.int .i64))) (hvg : v.ownBlock ≠ some g) (hv : ∀ j, j < L.length → (fv j).ownBlock ≠ none → (fv j).ownBlock ≠ v.ownBlock)
    (hR : ∀ k, R k → R' k) (h2 : ∀ k, v.ownBlock = some k → R' k) (hl : ∀ k, R' k → k < w.heap.size) :
    LM ((((w.setCell ⟨g, i * 4, none⟩ (.int .i64 o.cls)).setCell ⟨g, i * 4 + 1, none⟩ (.int .i64 o.fmt)).setCell ⟨g, i * 4 + 2, none⟩ (.int .i64 o.hash)).setCell ⟨g, i * 4 + 3, none⟩ v) R' (L.set i o) lv (fun j => if j = i then v else fv j) := by
  have hne := h.ne
  have hlb : lv.ownBlock = some g := by rw [hlv]; rfl
  have hset : (L.set i o).length = L.length := List.length_set
  have other : ∀ (base size n : Nat) (e : TypeId) (u : Value) (xs : List Value), w.ownsRow base e size u n xs → u.ownBlock ≠ some g → ((((w.setCell ⟨g, i * 4, none⟩ (.int .i64 o.cls)).setCell ⟨g, i * 4 + 1, none⟩ (.int .i64 o.fmt)).setCell ⟨g, i * 4 + 2, none⟩ (.int .i64 o.hash)).setCell ⟨g, i * 4 + 3, none⟩ v).ownsRow base e size u n xs := fun base size n e u xs hu hne => ownsRow_setCell_other (ownsRow_setCell_other (ownsRow_setCell_other (ownsRow_setCell_other hu hne _) hne _) hne _) hne _
  refine ⟨?_, ?_, ?_, fun k hk => hR k (h.inL k hk), ?_, fun k hk => by have := hl k hk; simpa using this⟩
  · have hown := h.own
    rw [hlv] at hown
    have q0 := (World.ownsRow.stored hown (i * 4 + 0) (.int .i64 o.cls)).1
    rw [rowsL_set hi (by omega)] at q0
    have q1 := (World.ownsRow.stored q0 (i * 4 + 1) (.int .i64 o.fmt)).1
    rw [rowsL_set hi (by omega)] at q1
    have q2 := (World.ownsRow.stored q1 (i * 4 + 2) (.int .i64 o.hash)).1
    rw [rowsL_set hi (by omega)] at q2
    have q3 := (World.ownsRow.stored q2 (i * 4 + 3) v).1
    rw [rowsL_set hi (by omega)] at q3
    rw [hlv]
    show World.ownsRow _ 0 75 4 (.slice (some ⟨g, 0, none⟩) L.length c) (L.set i o).length (rowsL (L.set i o).length 4 (objF (L.set i o) _))
    rw [hset]
    rw [rowsL_congr (G := objF (L.set i o) (fun j => if j = i then v else fv j))] at q3
    · exact q3
    · intro a ha b hb
      by_cases e : a = i
      · subst e
        have ho : (L.set a o)[a]?.getD zeroO = o := by rw [List.getElem?_set_self hi]; rfl
        match b, hb with
        | 0, _ => simp [objF, ho]
        | 1, _ => simp [objF, ho]
        | 2, _ => simp [objF, ho]
        | 3, _ => simp [objF]
      · have ho : (L.set i o).getD a zeroO = L.getD a zeroO := by rw [List.getD_eq_getElem?_getD, List.getD_eq_getElem?_getD, List.getElem?_set_ne (fun q => e q.symm)]
        simp only [e, false_and, if_false]
        match b, hb with
        | 0, _ => simp only [objF, ho]
        | 1, _ => simp only [objF, ho]
        | 2, _ => simp only [objF, ho]
        | 3, _ => simp only [objF, if_neg e]
  · intro j hj
    have hj' : j < L.length := by rw [← hset]; exact hj
    by_cases e : j = i
    · subst e
      have ho : (L.set j o)[j] = o := by rw [List.getElem_set_self]
      rw [ho, if_pos rfl]
      exact other _ _ _ _ _ _ hf hvg
    · have ho : (L.set i o)[j] = L[j] := by rw [List.getElem_set_ne (fun q => e q.symm)]
      rw [ho, if_neg e]
      refine other _ _ _ _ _ _ (h.fields j hj') (fun q => hne j hj' (by rw [q]; simp) (by rw [q, hlb]))
  · intro a b hab hb hn
    rw [hset] at hb
    by_cases ea : a = i
    · rw [if_pos ea] at hn ⊢
      rw [if_neg (by omega)]
      intro q
      exact hv b hb (by rw [← q]; exact hn) q.symm
    · rw [if_neg ea] at hn ⊢
      by_cases eb : b = i
      · rw [if_pos eb]; exact hv a (by omega) hn
      · rw [if_neg eb]; exact h.apart a b hab hb hn
  · intro j hj k hk
    rw [hset] at hj
    by_cases e : j = i
    · rw [if_pos e] at hk; exact h2 k hk
    · rw [if_neg e] at hk; exact hR k (h.inF j hj k hk)
end
end Go.Proofs.Ytfinpgkehjbcpaa
/- Chapter 05: the reference's memory while it is read. -/
namespace Go.Proofs.Ytfinpgkehjbcpaa
open Go.ChangeShapes Go.WideShapes Go.ChangeAt Go.RowKit Go.Deep Go.Joins Go.Maps
set_option linter.unusedVariables false
set_option linter.unusedSimpArgs false
/-- a memory of the reference's that may be none yet: any size, fields that may be none -/
structure RW (w : World) (R : Nat → Prop) (r : Nat) (size : Int) (made : Nat) (L : List Ob) (lv : Value) (fv : Nat → Value) : Prop where
  box : w.heap[r]? = some (.cells #[.int .i64 size, .int .i64 (made : Int), lv] 61 (0, 0))
  lm : LM w R L lv fv
  many : L.length ≤ 1000000
  len : ∀ o, o ∈ L → o.F.length ≤ 256
theorem szs_many : ∀ {L : List Ob}, (∀ o, o ∈ L → o.F.length ≤ 256) → szs L ≤ 259 * L.length
  | [], _ => by simp [szs]
  | o :: l, h => by
    have h1 := h o (List.mem_cons_self ..)
    have h2 := szs_many (L := l) (fun x hx => h x (List.mem_cons_of_mem _ hx))
    simp only [szs, List.length_cons]
    omega
theorem LM.list {w : World} {R : Nat → Prop} {L : List Ob} {lv : Value} {fv : Nat → Value} (h : LM w R L lv fv) : ∃ A c, lv = .slice A L.length c ∧ L.length ≤ c ∧ ∀ (i : Nat) (hi : i < L.length), ∃ g, A = some ⟨g, 0, none⟩ ∧ w.cell? ⟨g, i * 4 + 3, none⟩ = some (fv i) := by
  rcases h.own.2 with ⟨hv, h0⟩ | ⟨g, cap, cur, hv, hg, hh, h1, h2, _⟩
  · exact ⟨none, 0, by rw [h0]; exact hv, by omega, fun i hi => absurd hi (by omega)⟩
  · refine ⟨_, cap, hv, h1, fun i hi => ⟨g, rfl, ?_⟩⟩
    have hown := h.own
    rw [hv] at hown
    have := World.ownsRow.cellAt hown (i * 4 + 3) (by omega)
    rw [this, rowsL_at hi (by omega)]
    rfl
theorem LM.field {w : World} {R : Nat → Prop} {L : List Ob} {lv : Value} {fv : Nat → Value} (h : LM w R L lv fv) {i : Nat} (hi : i < L.length) : ∃ A c, fv i = .slice A L[i].F.length c := by
  have hf := h.fields i hi
  rcases hf.2 with ⟨hv, h0⟩ | ⟨g, cap, cur, hv, hg, hh, h1, h2, _⟩
  · exact ⟨none, 0, by rw [h0]; exact hv⟩
  · exact ⟨_, cap, hv⟩
section
variable {w : World} {R : Nat → Prop} {r : Nat} {size : Int} {made : Nat} {L : List Ob} {lv : Value} {fv : Nat → Value} {w' : World}
theorem RW.c0 (h : RW w R r size made L lv fv) : w.cell? ⟨r, 0, none⟩ = some (.int .i64 size) := by simp [World.cell?, h.box]
theorem RW.c1 (h : RW w R r size made L lv fv) : w.cell? ⟨r, 1, none⟩ = some (.int .i64 (made : Int)) := by simp [World.cell?, h.box]
theorem RW.c2 (h : RW w R r size made L lv fv) : w.cell? ⟨r, 2, none⟩ = some lv := by simp [World.cell?, h.box]
theorem RW.free (h : RW w R r size made L lv fv) (k : Nat) : w.frozen? ⟨r, k, none⟩ = false := by simp [World.frozen?, h.box]
theorem RW.rlt (h : RW w R r size made L lv fv) : r < w.heap.size := by
  have h1 := h.box
  rcases Nat.lt_or_ge r w.heap.size with q | q
  · exact q
  · rw [Array.getElem?_eq_none q] at h1; cases h1
theorem RW.same (h : RW w R r size made L lv fv) (hs : w.heap.size ≤ w'.heap.size) (hr : w'.heap[r]? = w.heap[r]?) (hb : ∀ k, R k → w'.heap[k]? = w.heap[k]?) : RW w' R r size made L lv fv := ⟨hr.trans h.box, h.lm.same hs hb, h.many, h.len⟩
theorem RW.below (h : RW w R r size made L lv fv) (hb : Below w.heap.size w w') : RW w' R r size made L lv fv := h.same hb.size (hb.block r h.rlt) (fun k hk => hb.block k (h.lm.lt k hk))
theorem RW.drewN (h : RW w R r size made L lv fv) (n : Nat) : RW (w.drewN n) R r size made L lv fv := h.same (Nat.le_refl _) rfl (fun _ _ => rfl)
theorem RW.adr (h : RW w R r size made L lv fv) (i : Nat) : adr L i ≤ 260000000 := by
  have h1 := szs_take_le L i
  have h2 := szs_many h.len
  have h3 := h.many
  unfold Go.Proofs.Ytfinpgkehjbcpaa.adr
  omega
theorem RW.rm (h : RW w R r size made L lv fv) {R' : Nat → Prop} (hR : ∀ k, R k → R' k) (hr : R' r) (hl : ∀ k, R' k → k < w.heap.size) (hg : Good ⟨size.toNat, made, L⟩) (hs : 0 ≤ size) : RM w R' r ⟨size.toNat, made, L⟩ lv fv :=
  (h.lm.mono hR hl).rm rfl hg (by have := h.box; rw [show ((size.toNat : Nat) : Int) = size from by omega]; exact this) hr
end
set_option maxRecDepth 100000 in
set_option maxHeartbeats 16000000 in
theorem wat_any {w : World} {R : Nat → Prop} {r : Nat} {size : Int} {made : Nat} {L : List Ob} {lv : Value} {fv : Nat → Value} (h : RW w R r size made L lv fv) (p : Nat) (hp : p ≤ L.length) : Calls Try.prog 32 #[.pointer (some ⟨r, 0, none⟩), .int .i64 (p : Int)] w fun e w' => e = .returned (.int .i64 (ptr L p)) ∧ w' = w := by
  have c2 := h.c2
  obtain ⟨A, c, rfl, hc, hobj⟩ := h.lm.list
  have HOBJ := Lib.hid hobj
  have hlen := h.many
  obtain ⟨nl, hnl⟩ : ∃ nl, L.length = nl := ⟨_, rfl⟩
  have HNL := Lib.hid hnl
  have H := Lib.hid h
  rw [hnl] at c2 hlen hc hp
  clear hobj hnl h
  go_enter Try.func32, Try.ntmps32
  go_wp2_with fail
  go_loop [5, 6] (fun q i => ∃ k : Nat, k ≤ p ∧ i = .int .i64 k ∧ q = .int .i64 (adr L k : Int)) (fun _ i => p - (intOf i).toNat)
  case atStart => exact ⟨0, Nat.zero_le _, rfl, by rw [adr_zero]; rfl⟩
  case round =>
    obtain ⟨k, hk, rfl, rfl⟩ := hrel
    obtain ⟨q, hq⟩ : ∃ q, adr L k = q := ⟨_, rfl⟩
    have HQ := Lib.hid hq
    have hqb := H.out.adr k
    rw [hq] at hqb ⊢
    clear hq
    by_cases hlt : k < p
    · have d1 : decide (k < p) = true := decide_eq_true hlt
      have hkl : k < L.length := by rw [HNL.out]; omega
      obtain ⟨g, rfl, e3⟩ := HOBJ.out k hkl
      obtain ⟨FA, fc, hfv⟩ := H.out.lm.field hkl
      have hfl := H.out.len _ (List.getElem_mem hkl)
      obtain ⟨nf, hnf⟩ : ∃ nf, L[k].F.length = nf := ⟨_, rfl⟩
      have HS : Hid ((adr L (k + 1) : Int) = (q : Int) + 3 + (nf : Int)) := by show _ = _; rw [adr_succ L k hkl, HQ.out, hnf]; omega
      rw [hfv, hnf] at e3
      rw [hnf] at hfl
      clear hfv hnf
      have g0 : (0 : Int) ≤ (k : Int) := by omega
      have g1 : (k : Int) < (nl : Int) := by omega
      go_wp2_with fail
      go_round
      case rel => exact ⟨k + 1, by omega, by go_num, by rw [HS.out]⟩
      case measure => simp [intOf]; omega
    · have hkn : k = p := by omega
      have d1 : decide (k < p) = false := decide_eq_false hlt
      clear hlt
      subst hkn
      go_wp2_with fail
      go_ret
      exact ⟨ret_int (by unfold ptr; rw [HQ.out]), rfl⟩
set_option maxRecDepth 100000 in
set_option maxHeartbeats 16000000 in
theorem wroom_any {w : World} {R : Nat → Prop} {r : Nat} {size : Int} {made : Nat} {L : List Ob} {lv : Value} {fv : Nat → Value} (h : RW w R r size made L lv fv) (h1 : -1000000000 ≤ size) (h2 : size ≤ 1000000000) : Calls Try.prog 22 #[.pointer (some ⟨r, 0, none⟩)] w fun e w' => e = .returned (.int .i64 (size - (adr L L.length : Int))) ∧ ∃ n, w' = w.drewN n := by
  have c0 := h.c0
  have c2 := h.c2
  have ha := h.adr L.length
  obtain ⟨A, c, hlv, hc, _⟩ := h.lm.list
  rw [hlv] at c2
  have hat : ∀ n, Calls Try.prog 32 #[.pointer (some ⟨r, 0, none⟩), .int .i64 (L.length : Int)] (w.drewN n) fun e w' => e = .returned (.int .i64 (2 * (adr L L.length : Int))) ∧ w' = w.drewN n := fun n => wat_any (h.drewN n) _ (Nat.le_refl _)
  obtain ⟨t, ht⟩ : ∃ t, adr L L.length = t := ⟨_, rfl⟩
  rw [ht] at ha hat ⊢
  have HAT := Lib.hid hat
  have hwr : IntKind.i64.wrap (size - (t : Int)) = size - (t : Int) := by rw [IntKind.wrap_i64]; omega
  have hq1 : (2 * (t : Int)).tdiv 2 = (t : Int) := by rw [Int.tdiv_eq_ediv_of_nonneg (by omega)]; omega
  have hq2 : (2 * (t : Int)) / 2 = (t : Int) := by omega
  have hw2 : IntKind.i64.wrap (t : Int) = (t : Int) := by rw [IntKind.wrap_i64]; omega
  clear h ht hat hlv
  go_enter Try.func22, Try.ntmps22
  go_wp2_with fail
  go_quiet ((go_at_call 32; exact Calls.quiet_of_same (HAT.out _)))
  go_wp2_with fail
  go_ret
  exact ⟨rfl, _, rfl⟩
set_option maxRecDepth 100000 in
set_option maxHeartbeats 16000000 in
theorem wobjects_any {w : World} {R : Nat → Prop} {r : Nat} {size : Int} {made : Nat} {L : List Ob} {lv : Value} {fv : Nat → Value} (h : RW w R r size made L lv fv) : Calls Try.prog 12 #[.pointer (some ⟨r, 0, none⟩)] w fun e w' => ∃ A c, e = .returned (.slice A L.length c) ∧ Nums w' A (ptrs L) ∧ (∀ b off, A = some ⟨b, off, none⟩ → w.heap.size ≤ b ∧ b < w'.heap.size) ∧ Below w.heap.size w w' := by
  obtain ⟨i0, hi, hz0, hz1, hz2⟩ := info_parts infoI
  have hlen := h.many
  obtain ⟨nl, hnl⟩ : ∃ nl, L.length = nl := ⟨_, rfl⟩
  have HNL := Lib.hid hnl
  obtain ⟨A, c, hlv, hc, _⟩ := h.lm.list
  have H := Lib.hid h
  rw [hnl] at hlen hc hlv ⊢
  clear hnl h
  have hc2 := H.out.c2
  rw [hlv] at hc2
  clear hlv
  go_enter Try.func12, Try.ntmps12
  go_wp2_with fail
  go_loopw [3, 4] (fun v i wr => ∃ k : Nat, k ≤ nl ∧ i = .int .i64 k ∧ wr.ownsRow w.heap.size 3 1 v k (((List.range k).map (ptr L)).map (Value.int .i64)) ∧ Below w.heap.size w wr) (fun _ i _ => nl - (intOf i).toNat)
  case atStart => exact ⟨0, Nat.zero_le _, rfl, World.ownsRow_nil _ _ _ _, Below.refl _ _⟩
  case round =>
    obtain ⟨k, hk, rfl, hown, hBw⟩ := hrel
    have hws := hBw.size
    have HB := Lib.hid hBw
    have HR := Lib.hid (H.out.below hBw)
    have c2 := HR.out.c2
    rw [show lv = _ from Option.some.inj ((H.out.c2).symm.trans hc2)] at c2
    have HOWN := Lib.hid hown
    clear hown hBw
    by_cases hlt : k < nl
    · have d1 : decide (k < nl) = true := decide_eq_true hlt
      have hat := wat_any HR.out k (by have := HNL.out; omega)
      obtain ⟨q, hq⟩ : ∃ q, ptr L k = q := ⟨_, rfl⟩
      rw [hq] at hat
      have HAT := Lib.hid hat
      have HQ := Lib.hid hq
      clear hat hq
      go_wp2_with (first | (go_at_call 32; (with_reducible refine HAT.out.mono ?_); rintro e w1 ⟨rfl, hw1⟩; replace hw1 := hw1.symm; subst hw1) | (at_builtin; refine wpList_append_own _ rfl _ _ 23 rfl w.heap.size 3 i0 (.int .i64 0) 1 8 Try.underlying23 hi hz0 hz1 hz2 rfl (by decide) _ _ _ rfl (HOWN.out.alloc _) ⟨wr.heap.size, 0, none⟩ 1 1 [.int .i64 q] rfl rfl (cells_newN _ _ _ _ (by simp)) (by simp [Value.oneCell']) (by unfold maxLen; omega) (by omega) (by simp only [World.size_alloc]; omega) ?_; intro v2 w2 hown3 hg2 _))
      go_roundw
      case rel =>
        have hb2 := below_of_append (HOWN.out.alloc (.cells #[.int .i64 q] 3)) hg2 (by simp only [World.size_alloc]; omega)
        refine ⟨k + 1, hlt, by go_num, ?_, ((HB.out.alloc hws _).trans hb2)⟩
        rw [List.range_succ, List.map_append, List.map_append]
        simp only [List.map_cons, List.map_nil]
        rw [HQ.out]
        exact hown3
      case measure => simp [intOf]; omega
    · have hkn : k = nl := by omega
      have d1 : decide (k < nl) = false := decide_eq_false hlt
      clear hlt
      subst hkn
      obtain ⟨A9, c9, hv9⟩ := own_slice HOWN.out
      subst hv9
      go_wp2_with fail
      go_ret
      have hI : Ints wr w.heap.size (.slice A9 k c9) (ptrs L) := by
        unfold Ints ptrs
        have := HOWN.out
        rw [← HNL.out] at this
        simpa [HNL.out] using this
      obtain ⟨A8, c8, e8, _, h8, _⟩ := hI.nums
      cases e8
      exact ⟨_, _, rfl, h8, fun b off e => by subst e; exact World.ownsRow.lt hI b rfl, HB.out⟩
end Go.Proofs.Ytfinpgkehjbcpaa
/- Chapter 05: the reference reads bytes: its states. -/
namespace Go.Proofs.Ytfinpgkehjbcpaa
open Go.ChangeShapes Go.WideShapes Go.ChangeAt Go.RowKit Go.Deep Go.Joins Go.Maps
set_option linter.unusedVariables false
set_option linter.unusedSimpArgs false
theorem LM.objs {w : World} {R : Nat → Prop} {L : List Ob} {lv : Value} {fv : Nat → Value} (h : LM w R L lv fv) {B : Nat} (hB : ∀ k, R k → B ≤ k) : w.ownsRow B 75 4 lv L.length (rowsL L.length 4 (objF L fv)) := by
  refine ⟨h.own.1, ?_⟩
  rcases h.own.2 with h1 | ⟨q, cap, cur, hv, hg, rest⟩
  · exact .inl h1
  · exact .inr ⟨q, cap, cur, hv, hB q (h.inL q (by rw [hv]; rfl)), rest⟩
/-- ahead of the objects: what reads, the memory's box -/
structure PL (w0 w : World) (rb g r : Nat) (σ : RdS) (size : Int) (made : Nat) : Prop where
  rt : RT w rb g σ
  box : w.heap[r]? = some (.cells #[.int .i64 size, .int .i64 (made : Int), .slice none 0 0] 61 (0, 0))
  bl : Below w0.heap.size w0 w
  ord : w0.heap.size ≤ rb ∧ rb < r ∧ g < w0.heap.size
section
variable {w0 w w' : World} {rb g r : Nat} {σ σ' : RdS} {size : Int} {made : Nat}
theorem PL.rlt (h : PL w0 w rb g r σ size made) : r < w.heap.size := by
  have h1 := h.box
  rcases Nat.lt_or_ge r w.heap.size with q | q
  · exact q
  · rw [Array.getElem?_eq_none q] at h1; cases h1
theorem PL.below (h : PL w0 w rb g r σ size made) (hb : Below w.heap.size w w') : PL w0 w' rb g r σ size made := ⟨h.rt.below hb, (hb.block r h.rlt).trans h.box, h.bl.trans (hb.mono h.bl.size), h.ord⟩
theorem PL.read (h : PL w0 w rb g r σ size made) (hr : RT w' rb g σ') (ht : Turns (rset rb) w w') : PL w0 w' rb g r σ' size made :=
  ⟨hr, (ht.block r h.rlt (fun q => by have := h.ord; unfold rset at q; omega)).trans h.box, h.bl.trans (ht.below (fun k q => by have := h.ord; unfold rset at q; omega) h.bl.size), h.ord⟩
theorem PL.set_ (h : PL w0 w rb g r σ size made) (m : Nat) : PL w0 (w.setCell ⟨r, 1, none⟩ (.int .i64 (m : Int))) rb g r σ size m := by
  have ht : Turns (fun k => k = r) w (w.setCell ⟨r, 1, none⟩ (.int .i64 (m : Int))) := (Turns.refl _ _).setCell _ _ rfl
  have ho := h.ord
  refine ⟨h.rt.turns ht (by omega) (by omega), by rw [heap_setCell_same w r 1 _ _ _ h.box]; rfl, h.bl.trans (ht.below (fun k q => by omega) h.bl.size), ho⟩
theorem PL.c1 (h : PL w0 w rb g r σ size made) : w.cell? ⟨r, 1, none⟩ = some (.int .i64 (made : Int)) := by simp [World.cell?, h.box]
theorem PL.free (h : PL w0 w rb g r σ size made) (k : Nat) : w.frozen? ⟨r, k, none⟩ = false := by simp [World.frozen?, h.box]
/-- a row of the call's own, made behind the boxes -/
theorem PL.grow (h : PL w0 w rb g r σ size made) {v : Value} (hg : w.grownBy w' v.ownBlock) (hv : ∀ k, v.ownBlock = some k → r < k) : PL w0 w' rb g r σ size made := by
  have ht : Turns (fun k => v.ownBlock = some k) w w' := ⟨hg.os, hg.tape, hg.output, hg.size, fun k hk hs => hg.block k hk (fun q => hs q.symm)⟩
  have ho := h.ord
  exact ⟨h.rt.turns ht (fun q => by have := hv _ q; omega) (fun q => by have := hv _ q; omega), (ht.block r h.rlt (fun q => by have := hv _ q; omega)).trans h.box, h.bl.trans (ht.below (fun k q => by have := hv _ q; omega) h.bl.size), ho⟩
end
/-- the objects are read -/
structure QL (w0 w : World) (rb g r : Nat) (σ : RdS) (size : Int) (made : Nat) (L : List Ob) (lv : Value) (fv : Nat → Value) (R : Nat → Prop) (B : Nat) : Prop where
  rt : RT w rb g σ
  rw_ : RW w R r size made L lv fv
  bl : Below w0.heap.size w0 w
  ge : ∀ k, R k → B ≤ k
  ord : w0.heap.size ≤ rb ∧ rb < r ∧ r < B ∧ g < w0.heap.size ∧ B ≤ w.heap.size
theorem PL.ql {w0 w w' : World} {rb g r : Nat} {σ σ' : RdS} {size : Int} {made : Nat} (h : PL w0 w rb g r σ size made) : QL w0 w rb g r σ size made [] (.slice none 0 0) (fun _ => .slice none 0 0) (fun _ => False) w.heap.size :=
  ⟨h.rt, ⟨h.box, LM.nil _ _ _ (fun k z => z.elim), by simp, fun o ho => absurd ho (by simp)⟩, h.bl, fun k z => z.elim, by have := h.ord; have := h.rlt; omega⟩
section
variable {w0 w w' : World} {rb g r : Nat} {σ σ' : RdS} {size : Int} {made : Nat} {L : List Ob} {lv : Value} {fv : Nat → Value} {R : Nat → Prop} {B : Nat}
theorem QL.below (h : QL w0 w rb g r σ size made L lv fv R B) (hb : Below w.heap.size w w') : QL w0 w' rb g r σ size made L lv fv R B := ⟨h.rt.below hb, h.rw_.below hb, h.bl.trans (hb.mono h.bl.size), h.ge, by have := h.ord; have := hb.size; omega⟩
theorem QL.read (h : QL w0 w rb g r σ size made L lv fv R B) (hr : RT w' rb g σ') (ht : Turns (rset rb) w w') : QL w0 w' rb g r σ' size made L lv fv R B := by
  have ho := h.ord
  refine ⟨hr, h.rw_.same ht.size (ht.block r h.rw_.rlt (fun q => by unfold rset at q; omega)) (fun k hk => ht.block k (h.rw_.lm.lt k hk) (fun q => by have := h.ge k hk; unfold rset at q; omega)), h.bl.trans (ht.below (fun k q => by unfold rset at q; omega) h.bl.size), h.ge, by have := ht.size; omega⟩
theorem QL.c2 (h : QL w0 w rb g r σ size made L lv fv R B) : w.cell? ⟨r, 2, none⟩ = some lv := h.rw_.c2
theorem QL.slice (h : QL w0 w rb g r σ size made L lv fv R B) : ∃ A c, lv = .slice A L.length c := by obtain ⟨A, c, h1, _⟩ := h.rw_.lm.list; exact ⟨A, c, h1⟩
/-- a row that lies elsewhere grows -/
theorem QL.grow (h : QL w0 w rb g r σ size made L lv fv R B) {v : Value} (hg : w.grownBy w' v.ownBlock) (hv : ∀ k, v.ownBlock = some k → r < k ∧ ¬ R k) : QL w0 w' rb g r σ size made L lv fv R B := by
  have ht : Turns (fun k => v.ownBlock = some k) w w' := ⟨hg.os, hg.tape, hg.output, hg.size, fun k hk hs => hg.block k hk (fun q => hs q.symm)⟩
  have ho := h.ord
  refine ⟨h.rt.turns ht (fun q => by have := (hv _ q).1; omega) (fun q => by have := (hv _ q).1; omega), h.rw_.same ht.size (ht.block r h.rw_.rlt (fun q => by have := (hv _ q).1; omega)) (fun k hk => ht.block k (h.rw_.lm.lt k hk) (fun q => (hv _ q).2 hk)), h.bl.trans (ht.below (fun k q => by have := (hv _ q).1; omega) h.bl.size), h.ge, by have := ht.size; omega⟩
/-- behind the append of an object: the row grows, the box is as it was -/
structure QM (w0 w : World) (rb g r : Nat) (σ : RdS) (size : Int) (made : Nat) (L : List Ob) (lv : Value) (fv : Nat → Value) (R : Nat → Prop) (B : Nat) (lv0 : Value) : Prop where
  rt : RT w rb g σ
  box : w.heap[r]? = some (.cells #[.int .i64 size, .int .i64 (made : Int), lv0] 61 (0, 0))
  lm : LM w R L lv fv
  many : L.length ≤ 1000000
  len : ∀ o, o ∈ L → o.F.length ≤ 256
  bl : Below w0.heap.size w0 w
  ge : ∀ k, R k → B ≤ k
  ord : w0.heap.size ≤ rb ∧ rb < r ∧ r < B ∧ g < w0.heap.size ∧ B ≤ w.heap.size
theorem QM.c2 {lv0 : Value} (h : QM w0 w rb g r σ size made L lv fv R B lv0) : w.cell? ⟨r, 2, none⟩ = some lv0 := by simp [World.cell?, h.box]
theorem QM.free {lv0 : Value} (h : QM w0 w rb g r σ size made L lv fv R B lv0) : w.frozen? ⟨r, 2, none⟩ = false := by simp [World.frozen?, h.box]
theorem QM.store {lv0 : Value} (h : QM w0 w rb g r σ size made L lv fv R B lv0) : QL w0 (w.setCell ⟨r, 2, none⟩ lv) rb g r σ size made L lv fv R B := by
  have ht : Turns (fun k => k = r) w (w.setCell ⟨r, 2, none⟩ lv) := (Turns.refl _ _).setCell _ _ rfl
  have ho := h.ord
  refine ⟨h.rt.turns ht (by omega) (by omega), ⟨by rw [heap_setCell_same w r 2 _ _ _ h.box]; rfl, h.lm.same ht.size (fun k hk => ht.block k (h.lm.lt k hk) (fun q => by have := h.ge k hk; omega)), h.many, h.len⟩, h.bl.trans (ht.below (fun k q => by omega) h.bl.size), h.ge, by have := ht.size; omega⟩
theorem QL.push (h : QL w0 w rb g r σ size made L lv fv R B) {o : Ob} {v lv' : Value} {Bv : Nat} (hRv : ∀ k, R k → k < Bv) (hBv : B ≤ Bv) (hf : w.ownsRow Bv 3 1 v o.F.length (o.F.map (Value.int .i64))) (hF : o.F.length ≤ 256) (hL : L.length < 1000000)
    (hown : w'.ownsRow B 75 4 lv' (L.length + 1) (rowsL L.length 4 (objF L fv) ++ [.int .i64 o.cls, .int .i64 o.fmt, .int .i64 o.hash, v])) (hg : w.grownBy w' lv.ownBlock) :
    ∃ R' fv', QM w0 w' rb g r σ size made (L ++ [o]) lv' fv' R' B lv := by
  have ho := h.ord
  have hlv : ∀ k, lv.ownBlock = some k → R k := h.rw_.lm.inL
  have ht : Turns (fun k => lv.ownBlock = some k) w w' := ⟨hg.os, hg.tape, hg.output, hg.size, fun k hk hs => hg.block k hk (fun q => hs q.symm)⟩
  have hvl : ∀ k, v.ownBlock = some k → Bv ≤ k ∧ k < w.heap.size := fun k hk => World.ownsRow.lt hf k hk
  have hge : ∀ k, lv'.ownBlock = some k → B ≤ k ∧ k < w'.heap.size := fun k hk => World.ownsRow.lt hown k hk
  have hr0 : ¬ lv.ownBlock = some r := fun q => by have := h.ge r (hlv r q); omega
  refine ⟨fun k => R k ∨ lv'.ownBlock = some k ∨ v.ownBlock = some k, (fun i => if i = L.length then v else fv i), h.rt.turns ht (fun q => by have := h.ge _ (hlv _ q); omega) (fun q => by have := h.ge _ (hlv _ q); omega), (ht.block r h.rw_.rlt hr0).trans h.rw_.box, ?_, ?_, ?_, h.bl.trans (ht.below (fun k q => by have := h.ge _ (hlv _ q); omega) h.bl.size), ?_, ?_⟩
  · refine h.rw_.lm.push (ownsRow_mono hown (Nat.zero_le _)) (ownsRow_same (ownsRow_mono hf (Nat.zero_le _)) ht.size (fun k hk => ht.block k (hvl k hk).2 (fun q => by have := hRv k (hlv k q); have := (hvl k hk).1; omega))) ?_ (fun k hk hn => ht.block k (h.rw_.lm.lt k hk) hn) (fun k hk => .inl hk) (fun k hk => .inr (.inl hk)) (fun k hk => .inr (.inr hk)) ?_ ht.size
    · intro i hi hne e
      obtain ⟨k, hk⟩ := Option.ne_none_iff_exists'.1 hne
      have h1 := hRv k (h.rw_.lm.inF i hi k hk)
      rw [hk] at e
      have h2 := (hvl k e.symm).1
      omega
    · rintro k (hk | hk | hk)
      · exact Nat.lt_of_lt_of_le (h.rw_.lm.lt k hk) ht.size
      · exact (hge k hk).2
      · exact Nat.lt_of_lt_of_le (hvl k hk).2 ht.size
  · rw [List.length_append]; simp; omega
  · intro x hx
    rcases List.mem_append.1 hx with q | q
    · exact h.rw_.len x q
    · rw [List.mem_singleton.1 q]; exact hF
  · rintro k (hk | hk | hk)
    · exact h.ge k hk
    · exact (hge k hk).1
    · have h1 := (hvl k hk).1
      omega
  · have := ht.size; omega
end
end Go.Proofs.Ytfinpgkehjbcpaa
