/- Chapter 10, plain: what the laws ask of a method that was read. -/
import Derived.Test.YtnojndgmgkgnpaaCLw
import Derived.Test.YtnojndgmgkgnpaaLPl0
namespace Go.Proofs.Ytnojndgmgkgnpaa
set_option linter.unusedVariables false
set_option linter.unusedSimpArgs false
/-- what is told of a method -/
structure Met (f : Nat) (x : NodT) (fields : List ByteArray) (value : Bool) (m : MetT) : Prop where
 lits : m.lits.length ≤ 60
 code : m.code.length ≤ 400
 may : ∀ i, i ∈ m.code → mayB i = true
 scan : scanC m.code 0 = some m.lits.length
 dis : m.lits.Pairwise (fun a b => sameL b a = false)
 blk : ∀ i, BAt m.code i
theorem start_lw (f : Nat) (x : NodT) (fields : List ByteArray) (value : Bool) : Lw (startC fields) (wholeP (valP f) x value (startC fields)) := wholeP_lw f x value _
theorem readC_met {f : Nat} {x : NodT} {fields : List ByteArray} {value : Bool} {m : MetT} {nm : ByteArray} (h : readC f x fields value = (m, nm, 0)) : Met f x fields value m := by
 rcases readC_cases f x fields value with ⟨nm', e', h1, h2⟩ | ⟨h1, h2, h3, h4, h5⟩
 ·rw [h] at h2; exact absurd (congrArg (fun r => r.2.2) h2).symm h1
 ·rw [h] at h5
  have hm := congrArg Prod.fst h5
  dsimp only at hm
  have hl := start_lw f x fields value
  rw [hm]
  exact ⟨h2, h3, fun i hi => by have h9 := List.all_eq_true.1 h4 i hi; exact h9, hl.lit rfl, hl.dis List.Pairwise.nil, fun i => hl.blk i (Nat.zero_le _)⟩
theorem readC_end {f : Nat} {x : NodT} {fields : List ByteArray} {value : Bool} {m : MetT} {nm : ByteArray} (h : readC (f + 1) x fields value = (m, nm, 0)) : ∃ c i, m.code = c ++ [i] ∧ i.op = 20 ∧ ∀ j, j ∈ c → tgtI j ≤ (c.length : Int) := by
 rcases readC_cases (f + 1) x fields value with ⟨nm', e', h1, h2⟩ | ⟨h1, h2, h3, h4, h5⟩
 ·rw [h] at h2; exact absurd (congrArg (fun r => r.2.2) h2).symm h1
 ·rw [h] at h5
  have hm := congrArg Prod.fst h5
  dsimp only at hm
  rw [hm]
  have hj : JL (declP false x.temps (declP true x.names (startC fields))) := ((declP_lw true x.names (startC fields)).trans (declP_lw false x.temps _)).jmp (fun i hi => absurd hi (by simp [startC]))
  exact wholesP_end f value x.kids _ hj h1
theorem target_tgt (i : Ins) : targetV i = tgtI i := by
 unfold targetV tgtI leadsB
 by_cases h : i.op = 16 ∨ i.op = 17
 ·rw [if_pos (by simpa using h), if_neg (by omega)]; omega
 ·rw [if_neg (by simpa using h), if_pos (by omega)]
/-! ### literals, scanned -/
theorem scan_one (i : Ins) (n : Nat) : scanC [i] n = if litOp i.op = true then (if (n : Int) < i.a then none else some (if i.a = n then n + 1 else n)) else some n := by
 simp only [scanC]
theorem take_more {α : Type} (l : List α) (k : Nat) (h : k < l.length) : l.take (k + 1) = l.take k ++ [l[k]] := by
 rw [List.take_append_getElem]
theorem scan_pre {c : List Ins} {t : Nat} (h : scanC c 0 = some t) (k : Nat) : ∃ n, scanC (c.take k) 0 = some n := by
 rw [← List.take_append_drop k c, scanC_app] at h
 cases hs : scanC (c.take k) 0 with
 | none => rw [hs] at h; cases h
 | some n => exact ⟨n, rfl⟩
theorem scan_step {c : List Ins} {t : Nat} (h : scanC c 0 = some t) {k n : Nat} (hk : k < c.length) (hn : scanC (c.take k) 0 = some n) :
  (litOp c[k].op = true → ¬ (n : Int) < c[k].a) ∧ scanC (c.take (k + 1)) 0 = some (if litOp c[k].op = true ∧ c[k].a = n then n + 1 else n) := by
 obtain ⟨n', hn'⟩ := scan_pre h (k + 1)
 have h1 := hn'
 rw [take_more c k hk, scanC_app, hn] at h1
 have h2 : scanC [c[k]] n = some n' := h1
 rw [scan_one] at h2
 rw [hn']
 split at h2
 ·rename_i hl
  split at h2
  ·cases h2
  ·rename_i hlt
   refine ⟨fun _ => hlt, ?_⟩
   rw [← h2]
   by_cases e : c[k].a = n
   ·rw [if_pos e, if_pos ⟨hl, e⟩]
   ·rw [if_neg e, if_neg (fun z => e z.2)]
 ·rename_i hl
  exact ⟨fun z => absurd z hl, by rw [← h2, if_neg (fun z => hl z.1)]⟩
theorem scan_all {c : List Ins} {t n : Nat} (h : scanC c 0 = some t) (hn : scanC (c.take c.length) 0 = some n) : n = t := by
 rw [List.take_length, h] at hn
 injection hn with hn
 omega
/-! ### jumps -/
theorem end_facts {l c : List Ins} {i : Ins} (h : l = c ++ [i]) (hi : i.op = 20) (hj : ∀ j, j ∈ c → tgtI j ≤ (c.length : Int)) : 0 < l.length ∧ (∀ k (hk : k < l.length), tgtI l[k] < (l.length : Int)) ∧ (∀ hk : l.length - 1 < l.length, l[l.length - 1].op = 20) := by
 subst h
 have hl : (c ++ [i]).length = c.length + 1 := by rw [List.length_append]; rfl
 refine ⟨by omega, fun k hk => ?_, fun hk => ?_⟩
 ·rw [hl] at hk ⊢
  by_cases hc : k < c.length
  ·rw [List.getElem_append_left hc]
   have := hj _ (List.getElem_mem hc)
   omega
  ·have e : k = c.length := by omega
   subst e
   rw [List.getElem_append_right (Nat.le_refl _)]
   simp only [Nat.sub_self, List.getElem_cons_zero]
   unfold tgtI
   rw [if_pos (by omega)]
   omega
 ·have e : (c ++ [i]).length - 1 = c.length := by omega
  rw [List.getElem_append_right (by omega)]
  simp only [hl, Nat.add_sub_cancel, Nat.sub_self, List.getElem_cons_zero]
  exact hi
theorem blk_facts {l : List Ins} (h : ∀ i, BAt l i) {k : Nat} (hk : k < l.length) (ho : l[k].op = 18) : ∃ h1 : k + 1 < l.length, l[k + 1].op = 16 ∧ (k : Int) + 2 < tgtI l[k + 1] := by
 obtain ⟨j, h1, h2, h3⟩ := h k l[k] (List.getElem?_eq_getElem hk) ho
 obtain ⟨h4, h5⟩ := List.getElem?_eq_some_iff.1 h1
 subst h5
 exact ⟨h4, h2, h3⟩
/-- literals that differ -/
theorem dis_facts {l : List LitT} (h : l.Pairwise (fun a b => sameL b a = false)) {i k : Nat} (hi : i < l.length) (hk : k < i) : sameL l[i] l[k] = false := by
 have := List.pairwise_iff_getElem.1 h k i (by omega) hi hk
 exact this
end Go.Proofs.Ytnojndgmgkgnpaa
