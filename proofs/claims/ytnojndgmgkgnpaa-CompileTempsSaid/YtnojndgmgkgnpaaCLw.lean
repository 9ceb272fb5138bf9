/- Chapter 10, plain: what a node's code keeps: what stands ahead; each literal once, and named in its order; jumps lead within. -/
import Derived.Test.YtnojndgmgkgnpaaCTm
namespace Go.Proofs.Ytnojndgmgkgnpaa
set_option linter.unusedVariables false
set_option linter.unusedSimpArgs false
def litOp (op : Int) : Bool := op == 6 || op == 9 || op == 14 || op == 15
/-- the literals that a code names, in their order: how many -/
def scanC : List Ins → Nat → Option Nat
 | [], n => some n
 | i :: r, n => if litOp i.op then (if (n : Int) < i.a then none else scanC r (if i.a = n then n + 1 else n)) else scanC r n
theorem scanC_app : ∀ (l r : List Ins) (n : Nat), scanC (l ++ r) n = (scanC l n).bind (scanC r)
 | [], r, n => rfl
 | i :: l, r, n => by
  simp only [List.cons_append, scanC]
  split
  ·split
   ·rfl
   ·exact scanC_app l r _
  ·exact scanC_app l r n
theorem scanC_set : ∀ (l : List Ins) (p : Nat) (x y : Ins) (n : Nat), l[p]? = some y → litOp y.op = false → litOp x.op = false → scanC (l.set p x) n = scanC l n
 | [], p, x, y, n, h, _, _ => by simp
 | i :: l, 0, x, y, n, h, hy, hx => by
  simp at h
  subst h
  simp only [List.set_cons_zero, scanC, hx, hy]
  simp
 | i :: l, p + 1, x, y, n, h, hy, hx => by
  simp at h
  simp only [List.set_cons_succ, scanC]
  rw [scanC_set l p x y _ h hy hx, scanC_set l p x y _ h hy hx]
/-- where an instruction leads -/
def tgtI (i : Ins) : Int := if i.op ≠ 16 ∧ i.op ≠ 17 then -1 else i.a + 256 * i.b
theorem tgtI_to (op : Int) (h : op = 16 ∨ op = 17) (t : Nat) : tgtI ⟨op, ((t % 256 : Nat) : Int), ((t / 256 : Nat) : Int)⟩ = (t : Int) := by
 unfold tgtI
 rw [if_neg (by dsimp only; omega)]
 dsimp only
 omega
def QL (s : CSt) : Prop := scanC s.code 0 = some s.lits.length
def DL (s : CSt) : Prop := s.lits.Pairwise (fun a b => sameL b a = false)
def JL (s : CSt) : Prop := ∀ i, i ∈ s.code → tgtI i ≤ (s.code.length : Int)
/-- a block's opening at i is followed by a jump over it -/
def BAt (c : List Ins) (i : Nat) : Prop := ∀ x, c[i]? = some x → x.op = 18 → ∃ j, c[i + 1]? = some j ∧ j.op = 16 ∧ (i : Int) + 2 < tgtI j
structure Lw (s t : CSt) : Prop where
 pre : s.code <+: t.code
 err : s.err ≠ 0 → t.err ≠ 0
 lit : QL s → QL t
 dis : DL s → DL t
 jmp : JL s → JL t
 blk : ∀ i, s.code.length ≤ i → BAt t.code i
theorem pre_get {a b : List Ins} (h : a <+: b) {i : Nat} (hi : i < a.length) : b[i]? = a[i]? := by
 obtain ⟨r, rfl⟩ := h
 rw [List.getElem?_append_left hi]
theorem BAt.out {c : List Ins} {i : Nat} (h : c.length ≤ i) : BAt c i := fun x hx => by
 rw [List.getElem?_eq_none h] at hx; cases hx
namespace Lw
theorem refl (s : CSt) : Lw s s := ⟨List.prefix_refl _, id, id, id, id, fun i hi => BAt.out hi⟩
theorem trans {s t u : CSt} (h : Lw s t) (g : Lw t u) : Lw s u := by
 refine ⟨h.pre.trans g.pre, fun z => g.err (h.err z), fun z => g.lit (h.lit z), fun z => g.dis (h.dis z), fun z => g.jmp (h.jmp z), fun i hi => ?_⟩
 rcases Nat.lt_or_ge i t.code.length with q | q
 ·intro x hx h18
  rw [pre_get g.pre q] at hx
  obtain ⟨j, h1, h2, h3⟩ := h.blk i hi x hx h18
  have h4 : i + 1 < t.code.length := by
   rcases Nat.lt_or_ge (i + 1) t.code.length with z | z
   ·exact z
   ·rw [List.getElem?_eq_none z] at h1; cases h1
  exact ⟨j, by rw [pre_get g.pre h4]; exact h1, h2, h3⟩
 ·exact g.blk i q
/-- the code and the literals are the same -/
theorem same {s t : CSt} (hc : t.code = s.code) (hl : t.lits = s.lits) (he : s.err ≠ 0 → t.err ≠ 0) : Lw s t := by
 refine ⟨by rw [hc]; exact List.prefix_refl _, he, fun z => ?_, fun z => ?_, fun z => ?_, fun i hi => BAt.out (by rw [hc]; exact hi)⟩
 ·unfold QL at *; rw [hc, hl]; exact z
 ·unfold DL at *; rw [hl]; exact z
 ·unfold JL at *; rw [hc]; exact z
theorem fail (s : CSt) (n : ByteArray) (x : Int) (hx : x ≠ 0) : Lw s (failP s n x) := by
 unfold failP
 split
 ·exact same rfl rfl (fun _ => hx)
 ·exact refl s
theorem ite_ {s t u : CSt} {c : Prop} [Decidable c] (h : Lw s t) (g : Lw s u) : Lw s (if c then t else u) := by split <;> assumption
theorem emit (s : CSt) (o a b : Int) (h1 : litOp o = false) (h2 : o ≠ 18) (h3 : (o ≠ 16 ∧ o ≠ 17) ∨ (a = 0 ∧ b = 0)) : Lw s (emitP s o a b) := by
 refine ⟨List.prefix_append _ _, id, fun z => ?_, id, fun z => ?_, fun i hi => ?_⟩
 ·unfold QL at *
  show scanC (s.code ++ [⟨o, a, b⟩]) 0 = _
  rw [scanC_app, z]
  simp [scanC, h1, emitP]
 ·intro i hi
  have e : (emitP s o a b).code = s.code ++ [⟨o, a, b⟩] := rfl
  rw [e] at hi ⊢
  rw [List.length_append]
  rcases List.mem_append.1 hi with q | q
  ·have := z i q
   simp
   omega
  ·simp at q
   subst q
   unfold tgtI
   dsimp only
   split
   ·simp; omega
   ·rename_i hn
    have : a = 0 ∧ b = 0 := h3.elim (fun z => absurd z hn) id
    simp
    omega
 ·intro x hx h18
  have e : (emitP s o a b).code = s.code ++ [⟨o, a, b⟩] := rfl
  rw [e, List.getElem?_append_right hi] at hx
  rcases Nat.eq_or_lt_of_le hi with q | q
  ·rw [q, Nat.sub_self] at hx
   simp at hx
   subst hx
   exact absurd h18 h2
  ·rw [List.getElem?_eq_none (by simp; omega)] at hx
   cases hx
/-- a jump that was put is made to lead somewhere -/
theorem to_ {s t : CSt} (h : Lw s t) (p : Nat) (o j : Int) (n : Nat) (ho : o = 16 ∨ o = 17) (hj : j = 16 ∨ j = 17) (hp : s.code.length ≤ p) (hc : t.code[p]? = some ⟨j, 0, 0⟩) (hn : n ≤ t.code.length) : Lw s (toP t p o n) := by
 have e : (toP t p o n).code = t.code.set p ⟨o, ((n % 256 : Nat) : Int), ((n / 256 : Nat) : Int)⟩ := rfl
 have hpl : p < t.code.length := by
  rcases Nat.lt_or_ge p t.code.length with z | z
  ·exact z
  ·rw [List.getElem?_eq_none z] at hc; cases hc
 have hlo : litOp o = false := by rcases ho with rfl | rfl <;> rfl
 have hlj : litOp j = false := by rcases hj with rfl | rfl <;> rfl
 refine ⟨?_, fun z => h.err z, fun z => ?_, fun z => h.dis z, fun z => ?_, fun i hi => ?_⟩
 ·rw [e]
  obtain ⟨r, hr⟩ := h.pre
  rw [← hr, List.set_append_right _ _ hp]
  exact List.prefix_append _ _
 ·have := h.lit z
  unfold QL at this ⊢
  rw [e, scanC_set _ _ _ _ _ hc hlj hlo]
  exact this
 ·have h1 := h.jmp z
  intro i hi
  rw [e] at hi ⊢
  rw [List.length_set]
  rcases List.mem_or_eq_of_mem_set hi with q | q
  ·exact h1 i q
  ·rw [q, tgtI_to o ho]
   omega
 ·intro x hx h18
  rw [e] at hx ⊢
  by_cases hip : i = p
  ·subst hip
   rw [List.getElem?_set_self hpl] at hx
   simp at hx
   subst hx
   have h18' : o = 18 := h18
   omega
  ·rw [List.getElem?_set_ne (fun q => hip q.symm)] at hx
   obtain ⟨k, h1, h2, h3⟩ := h.blk i hi x hx h18
   by_cases hip2 : p = i + 1
   ·subst hip2
    rw [hc] at h1
    simp at h1
    subst h1
    have h5 : tgtI ⟨j, 0, 0⟩ = 0 := by
     unfold tgtI
     rw [if_neg (by dsimp only; omega)]
     rfl
    rw [h5] at h3
    omega
   ·exact ⟨k, by rw [List.getElem?_set_ne hip2]; exact h1, h2, h3⟩
end Lw
mutual
theorem sameL_symm : ∀ a b : LitT, sameL a b = sameL b a
 | .node k s n ks, .node k' s' n' ks' => by
  unfold sameL
  rw [sameLs_symm ks ks']
  have h1 : (k == k') = (k' == k) := BEq.comm
  have h2 : (s.toList == s'.toList) = (s'.toList == s.toList) := BEq.comm
  have h3 : (n == n') = (n' == n) := BEq.comm
  rw [h1, h2, h3]
theorem sameLs_symm : ∀ a b : List LitT, sameLs a b = sameLs b a
 | [], [] => rfl
 | [], _ :: _ => by simp [sameLs]
 | _ :: _, [] => by simp [sameLs]
 | a :: l, b :: r => by
  unfold sameLs
  rw [sameL_symm a b, sameLs_symm l r]
end
/-- a literal's place is put, and named at once -/
theorem place_lw (s : CSt) (l : LitT) (o b : Int) (h1 : litOp o = true) : Lw s (emitP (placeP s l).2 o (placeP s l).1 b) := by
 have ho : o ≠ 18 ∧ o ≠ 16 ∧ o ≠ 17 := by
  refine ⟨?_, ?_, ?_⟩ <;> (intro e; subst e; revert h1; decide)
 have hcode : (placeP s l).2.code = s.code := by unfold placeP; split <;> rfl
 have e : (emitP (placeP s l).2 o (placeP s l).1 b).code = s.code ++ [⟨o, (placeP s l).1, b⟩] := by unfold emitP; rw [hcode]
 have el : (emitP (placeP s l).2 o (placeP s l).1 b).lits = (placeP s l).2.lits := rfl
 have ee : (emitP (placeP s l).2 o (placeP s l).1 b).err = s.err := by unfold placeP; split <;> rfl
 refine ⟨by rw [e]; exact List.prefix_append _ _, fun z => by rw [ee]; exact z, fun z => ?_, fun z => ?_, fun z => ?_, fun i hi => ?_⟩
 ·unfold QL at *
  rw [e, el, scanC_app, z]
  unfold placeP
  split
  ·rename_i i hi
   have hlt : i < s.lits.length := (List.findIdx?_eq_some_iff_getElem.1 hi).1
   simp only [Option.bind, scanC, h1, if_true]
   rw [if_neg (by omega), if_neg (by omega)]
  ·simp only [Option.bind, scanC, h1, if_true]
   rw [if_neg (by omega)]
   simp
 ·unfold DL at *
  rw [el]
  unfold placeP
  split
  ·exact z
  ·rename_i hn
   show (s.lits ++ [l]).Pairwise _
   rw [List.pairwise_append]
   refine ⟨z, by simp, fun a ha b hb => ?_⟩
   simp at hb
   subst hb
   have := List.findIdx?_eq_none_iff.1 hn a ha
   rw [sameL_symm]
   simpa using this
 ·intro i hi
  rw [e] at hi ⊢
  rw [List.length_append]
  rcases List.mem_append.1 hi with q | q
  ·have := z i q
   simp
   omega
  ·simp at q
   subst q
   unfold tgtI
   rw [if_pos ⟨ho.2.1, ho.2.2⟩]
   simp
   omega
 ·intro x hx h18
  rw [e, List.getElem?_append_right hi] at hx
  rcases Nat.eq_or_lt_of_le hi with q | q
  ·rw [q, Nat.sub_self] at hx
   simp at hx
   subst hx
   exact absurd h18 ho.1
  ·rw [List.getElem?_eq_none (by simp; omega)] at hx
   cases hx
theorem badD_lw (s : CSt) (n : ByteArray) : Lw s (badD s n) := by
 unfold badD
 have h1 : Lw s (if (findN s.names n).isSome || ownN n then failP s n 16 else s) := Lw.ite_ (Lw.fail _ _ _ (by decide)) (Lw.refl _)
 generalize (if (findN s.names n).isSome || ownN n then failP s n 16 else s) = s1 at h1
 exact h1.trans (Lw.ite_ (Lw.fail _ _ _ (by decide)) (Lw.refl _))
theorem declP_lw (fixed : Bool) : ∀ (l : List ByteArray) (s : CSt), Lw s (declP fixed l s)
 | [], s => Lw.refl s
 | n :: r, s => by
  unfold declP
  refine Lw.ite_ (badD_lw s n) ?_
  refine (badD_lw s n).trans (Lw.trans ?_ (declP_lw fixed r _))
  exact Lw.same rfl rfl id
mutual
theorem litP_lw : ∀ (x : NodT) (s : CSt), Lw s (litP x s).2
 | .node k t n _ _ ks, s => by
  unfold litP
  split
  ·exact Lw.refl s
  split
  ·exact Lw.refl s
  split
  ·exact Lw.refl s
  split
  ·exact litsP_lw ks s
  ·exact Lw.fail s _ _ (by decide)
theorem litsP_lw : ∀ (l : List NodT) (s : CSt), Lw s (litsP l s).2
 | [], s => Lw.refl s
 | x :: r, s => by
  unfold litsP
  exact (litP_lw x s).trans (litsP_lw r _)
end
theorem emitS (s : CSt) (o a b : Int) (h1 : litOp o = false) (h2 : o ≠ 18) (h3 : o ≠ 16 ∧ o ≠ 17) : Lw s (emitP s o a b) := Lw.emit s o a b h1 h2 (.inl h3)
theorem varP_lw (s : CSt) (n : ByteArray) : Lw s (varP s n) := by
 unfold varP
 split
 ·exact emitS _ _ _ _ rfl (by decide) (by decide)
 split
 ·exact emitS _ _ _ _ rfl (by decide) (by decide)
 split
 ·exact emitS _ _ _ _ rfl (by decide) (by decide)
 split
 ·exact emitS _ _ _ _ rfl (by decide) (by decide)
 split
 ·exact emitS _ _ _ _ rfl (by decide) (by decide)
 have h1 : Lw s (if n.toList = bSuper then failP s n 15 else s) := Lw.ite_ (Lw.fail _ _ _ (by decide)) (Lw.refl _)
 generalize (if n.toList = bSuper then failP s n 15 else s) = s1 at h1
 dsimp only
 split
 ·exact h1.trans (Lw.ite_ (emitS _ _ _ _ rfl (by decide) (by decide)) (emitS _ _ _ _ rfl (by decide) (by decide)))
 ·exact h1.trans (Lw.ite_ (place_lw _ _ _ _ rfl) (Lw.fail _ _ _ (by decide)))
theorem storeP_lw (s : CSt) (k : Option Nm) (n : ByteArray) : Lw s (storeP s k n) := by
 unfold storeP
 repeat' split
 all_goals first | exact emitS _ _ _ _ rfl (by decide) (by decide) | exact Lw.fail _ _ _ (by decide)
section
variable {rec : NodT → CSt → CSt} (hr : ∀ x s, Lw s (rec x s))
include hr
theorem assignP_lw (x : NodT) (s : CSt) : Lw s (assignP rec x s) := by
 unfold assignP
 split
 ·exact (hr _ _).trans (storeP_lw _ _ _)
 ·exact Lw.fail _ _ _ (by decide)
theorem recvP_lw (x : NodT) (s : CSt) : Lw s (recvP rec x s).2 := by
 unfold recvP
 split
 ·exact emitS _ _ _ _ rfl (by decide) (by decide)
 ·exact hr x s
omit hr in
theorem recvP_op (x : NodT) (s : CSt) : litOp (recvP rec x s).1 = true := by
 unfold recvP
 split <;> rfl
theorem argsP_lw : ∀ (l : List NodT) (s : CSt), Lw s (argsP rec l s)
 | [], s => Lw.refl s
 | a :: r, s => by
  unfold argsP
  exact (hr a s).trans (argsP_lw r _)
theorem messP_lw (op : Int) (hop : litOp op = true) (sel : ByteArray) (l : List NodT) (s : CSt) : Lw s (messP rec op sel l s) := by
 unfold messP
 exact (argsP_lw hr l s).trans (place_lw _ _ _ _ hop)
theorem stmtsP_lw : ∀ (b : Bool) (l : List NodT) (s : CSt), Lw s (stmtsP rec b l s)
 | _, [], s => Lw.refl s
 | b, a :: r, s => by
  unfold stmtsP
  have h1 : Lw s (if b then s else emitP s 12 0 0) := Lw.ite_ (Lw.refl _) (emitS _ _ _ _ rfl (by decide) (by decide))
  generalize (if b then s else emitP s 12 0 0) = s0 at h1
  have h2 := h1.trans (hr a s0)
  dsimp only
  generalize rec a s0 = s2 at h2
  have h3 : Lw s2 (if a.kind = 10 then emitP s2 2 0 0 else s2) := Lw.ite_ (emitS _ _ _ _ rfl (by decide) (by decide)) (Lw.refl _)
  exact (h2.trans h3).trans (stmtsP_lw false r _)
theorem bodyP_lw (x : NodT) (s : CSt) : Lw s (bodyP rec x s) := by
 have h1 := ((declP_lw true x.names s).trans (declP_lw false x.temps _)).trans (stmtsP_lw hr true x.kids _)
 have h2 : Lw s (if x.kids.length = 0 then emitP (stmtsP rec true x.kids (declP false x.temps (declP true x.names s))) 2 0 0 else (stmtsP rec true x.kids (declP false x.temps (declP true x.names s)))) := Lw.ite_ (h1.trans (emitS _ _ _ _ rfl (by decide) (by decide))) h1
 exact h2.trans (Lw.same rfl rfl id)
omit hr in
theorem armP_op_lw (hr : ∀ x s, Lw s (rec x s)) (o : Int) (h : o = 2 ∨ o = 3 ∨ o = 4) (kids : List NodT) (s : CSt) : Lw s (armP rec (.op o) kids s) := by
 show Lw s (emitP s o 0 0)
 rcases h with rfl | rfl | rfl <;> exact emitS _ _ _ _ rfl (by decide) (by decide)
/-- an arm of a condition puts no block's opening, and no literal -/
def okArm (a : Arm) : Prop := match a with | .op o => o = 2 ∨ o = 3 ∨ o = 4 | .kid _ => True
theorem armP_lw (a : Arm) (ha : okArm a) (kids : List NodT) (s : CSt) : Lw s (armP rec a kids s) := by
 cases a with
 | op o => exact armP_op_lw hr o ha kids s
 | kid i =>
  unfold armP
  dsimp only
  split
  ·exact bodyP_lw hr _ _
  ·exact Lw.refl _
omit hr in
/-- a jump is put; then more; then it is made to lead somewhere -/
theorem hole_get {s t : CSt} (j : Int) (h : Lw (emitP s j 0 0) t) : t.code[s.code.length]? = some ⟨j, 0, 0⟩ := by
 rw [pre_get h.pre (by simp [emitP])]
 simp [emitP]
theorem branch_core (y n : Arm) (hy : okArm y) (hn : okArm n) (kids : List NodT) (s1 : CSt) : Lw s1 (toP (armP rec n kids (toP (emitP (armP rec y kids (emitP s1 17 0 0)) 16 0 0) s1.code.length 17 (emitP (armP rec y kids (emitP s1 17 0 0)) 16 0 0).code.length)) (armP rec y kids (emitP s1 17 0 0)).code.length 16 (armP rec n kids (toP (emitP (armP rec y kids (emitP s1 17 0 0)) 16 0 0) s1.code.length 17 (emitP (armP rec y kids (emitP s1 17 0 0)) 16 0 0).code.length)).code.length) := by
 have a2 := armP_lw hr y hy kids (emitP s1 17 0 0)
 have a3 : Lw (emitP s1 17 0 0) (emitP (armP rec y kids (emitP s1 17 0 0)) 16 0 0) := a2.trans (Lw.emit _ _ _ _ rfl (by decide) (.inr ⟨rfl, rfl⟩))
 have e1 : Lw s1 (emitP s1 17 0 0) := Lw.emit _ _ _ _ rfl (by decide) (.inr ⟨rfl, rfl⟩)
 have hx2 : (armP rec y kids (emitP s1 17 0 0)).code.length + 1 = (emitP (armP rec y kids (emitP s1 17 0 0)) 16 0 0).code.length := by simp [emitP]
 have hl2 : s1.code.length < (armP rec y kids (emitP s1 17 0 0)).code.length := by
  have h9 := a2.pre.length_le
  have h8 : (emitP s1 17 0 0).code.length = s1.code.length + 1 := by simp [emitP]
  omega
 have hg2 : (emitP (armP rec y kids (emitP s1 17 0 0)) 16 0 0).code[(armP rec y kids (emitP s1 17 0 0)).code.length]? = some ⟨16, 0, 0⟩ := by simp [emitP]
 generalize armP rec y kids (emitP s1 17 0 0) = s2 at a2 a3 hx2 hl2 hg2 ⊢
 have h1 := hole_get 17 a3
 have a4 : Lw s1 (toP (emitP s2 16 0 0) s1.code.length 17 (emitP s2 16 0 0).code.length) := (e1.trans a3).to_ _ _ 17 _ (.inr rfl) (.inr rfl) (Nat.le_refl _) h1 (Nat.le_refl _)
 have hg3 : (toP (emitP s2 16 0 0) s1.code.length 17 (emitP s2 16 0 0).code.length).code[s2.code.length]? = some ⟨16, 0, 0⟩ := by
  unfold toP
  dsimp only
  rw [List.getElem?_set_ne (by omega)]
  exact hg2
 have hl3 : s2.code.length < (toP (emitP s2 16 0 0) s1.code.length 17 (emitP s2 16 0 0).code.length).code.length := by simp [toP, emitP]
 generalize toP (emitP s2 16 0 0) s1.code.length 17 (emitP s2 16 0 0).code.length = s3 at a4 hg3 hl3 ⊢
 have a5 := armP_lw hr n hn kids s3
 have hg4 : (armP rec n kids s3).code[s2.code.length]? = some ⟨16, 0, 0⟩ := by rw [pre_get a5.pre hl3]; exact hg3
 generalize armP rec n kids s3 = s4 at a5 hg4 ⊢
 exact (a4.trans a5).to_ _ _ 16 _ (.inl rfl) (.inl rfl) (by omega) hg4 (Nat.le_refl _)
theorem branchP_lw (y n : Arm) (hy : okArm y) (hn : okArm n) (kids : List NodT) (s : CSt) : Lw s (branchP rec y n kids s) := by
 cases kids with
 | nil => exact branch_core hr y n hy hn [] s
 | cons k r => exact (hr k s).trans (branch_core hr y n hy hn (k :: r) (rec k s))
theorem loopP_lw (w : Bool) (k0 k1 : NodT) (s : CSt) : Lw s (loopP rec w k0 k1 s) := by
 have a0 := bodyP_lw hr k0 s
 unfold loopP
 dsimp only
 generalize bodyP rec k0 s = s1 at a0 ⊢
 have e1 : Lw s1 (emitP s1 17 0 0) := Lw.emit _ _ _ _ rfl (by decide) (.inr ⟨rfl, rfl⟩)
 have l1 : (emitP s1 17 0 0).code.length = s1.code.length + 1 := by simp [emitP]
 have e2 : Lw (emitP s1 17 0 0) (emitP (emitP s1 17 0 0) 16 0 0) := Lw.emit _ _ _ _ rfl (by decide) (.inr ⟨rfl, rfl⟩)
 cases w with
 | true =>
  simp only [if_true]
  have a2 := bodyP_lw hr k1 (emitP s1 17 0 0)
  generalize bodyP rec k1 (emitP s1 17 0 0) = t3 at a2 ⊢
  have e3 : Lw t3 (emitP t3 12 0 0) := emitS _ _ _ _ rfl (by decide) (by decide)
  have e4 : Lw (emitP t3 12 0 0) (emitP (emitP t3 12 0 0) 16 0 0) := Lw.emit _ _ _ _ rfl (by decide) (.inr ⟨rfl, rfl⟩)
  have hls : s.code.length ≤ (emitP (emitP t3 12 0 0) 16 0 0).code.length := by
   have h1 := ((((a0.trans e1).trans a2).trans e3).trans e4).pre.length_le
   exact h1
  have a5 : Lw t3 (toP (emitP (emitP t3 12 0 0) 16 0 0) (emitP t3 12 0 0).code.length 16 s.code.length) := (e3.trans e4).to_ _ _ 16 _ (.inl rfl) (.inl rfl) e3.pre.length_le (by simp [emitP]) hls
  have a6 := a2.trans a5
  have hg := hole_get 17 a6
  generalize toP (emitP (emitP t3 12 0 0) 16 0 0) (emitP t3 12 0 0).code.length 16 s.code.length = s5 at a5 a6 hg ⊢
  have a7 : Lw s1 (toP s5 s1.code.length 17 s5.code.length) := (e1.trans a6).to_ _ _ 17 _ (.inr rfl) (.inr rfl) (Nat.le_refl _) hg (Nat.le_refl _)
  exact (a0.trans a7).trans (emitS _ _ _ _ rfl (by decide) (by decide))
 | false =>
  simp only [Bool.false_eq_true, if_false]
  have hg1 := hole_get 17 e2
  have a2 : Lw s1 (toP (emitP (emitP s1 17 0 0) 16 0 0) s1.code.length 17 ((emitP s1 17 0 0).code.length + 1)) := (e1.trans e2).to_ _ _ 17 _ (.inr rfl) (.inr rfl) (Nat.le_refl _) hg1 (by simp [emitP])
  have hg2 : (toP (emitP (emitP s1 17 0 0) 16 0 0) s1.code.length 17 ((emitP s1 17 0 0).code.length + 1)).code[(emitP s1 17 0 0).code.length]? = some ⟨16, 0, 0⟩ := by
   unfold toP
   dsimp only
   rw [List.getElem?_set_ne (by omega)]
   simp [emitP]
  have hl2 : (emitP s1 17 0 0).code.length < (toP (emitP (emitP s1 17 0 0) 16 0 0) s1.code.length 17 ((emitP s1 17 0 0).code.length + 1)).code.length := by simp [toP, emitP]
  generalize toP (emitP (emitP s1 17 0 0) 16 0 0) s1.code.length 17 ((emitP s1 17 0 0).code.length + 1) = s3 at a2 hg2 hl2 ⊢
  have a3 := bodyP_lw hr k1 s3
  generalize bodyP rec k1 s3 = t3 at a3 ⊢
  have e3 : Lw t3 (emitP t3 12 0 0) := emitS _ _ _ _ rfl (by decide) (by decide)
  have e4 : Lw (emitP t3 12 0 0) (emitP (emitP t3 12 0 0) 16 0 0) := Lw.emit _ _ _ _ rfl (by decide) (.inr ⟨rfl, rfl⟩)
  have hls : s.code.length ≤ (emitP (emitP t3 12 0 0) 16 0 0).code.length := ((((a0.trans a2).trans a3).trans e3).trans e4).pre.length_le
  have a5 : Lw t3 (toP (emitP (emitP t3 12 0 0) 16 0 0) (emitP t3 12 0 0).code.length 16 s.code.length) := (e3.trans e4).to_ _ _ 16 _ (.inl rfl) (.inl rfl) e3.pre.length_le (by simp [emitP]) hls
  have a6 := a3.trans a5
  have hg : (toP (emitP (emitP t3 12 0 0) 16 0 0) (emitP t3 12 0 0).code.length 16 s.code.length).code[(emitP s1 17 0 0).code.length]? = some ⟨16, 0, 0⟩ := by rw [pre_get a6.pre hl2]; exact hg2
  generalize toP (emitP (emitP t3 12 0 0) 16 0 0) (emitP t3 12 0 0).code.length 16 s.code.length = s5 at a5 a6 hg ⊢
  have a7 : Lw s1 (toP s5 (emitP s1 17 0 0).code.length 16 s5.code.length) := (a2.trans a6).to_ _ _ 16 _ (.inl rfl) (.inl rfl) (by omega) hg (Nat.le_refl _)
  exact (a0.trans a7).trans (emitS _ _ _ _ rfl (by decide) (by decide))
omit hr in
theorem brOf_ok (t : ByteArray) {y n : Arm} {m : Nat} (h : brOf t = some (y, n, m)) : okArm y ∧ okArm n := by
 unfold brOf at h
 repeat' split at h
 all_goals first
  | (cases h; exact ⟨by simp [okArm], by simp [okArm]⟩)
  | cases h
theorem sendP_lw (x : NodT) (s : CSt) : Lw s (sendP rec x s) := by
 unfold sendP
 split
 ·exact Lw.fail _ _ _ (by decide)
 ·split
  ·rename_i y n hb
   have h2 : okArm y ∧ okArm n := by
    unfold isBr at hb
    split at hb
    ·rename_i y' n' m hq
     split at hb
     ·cases hb
      exact brOf_ok _ hq
     ·cases hb
    ·cases hb
   exact branchP_lw hr _ _ h2.1 h2.2 _ _
  ·split
   ·exact loopP_lw hr _ _ _ _
   ·exact (recvP_lw hr _ _).trans (messP_lw hr _ (recvP_op _ _) _ _ _)
theorem cascsP_lw (op : Int) (hop : litOp op = true) : ∀ (l : List NodT) (s : CSt), Lw s (cascsP rec op l s)
 | [], s => Lw.refl s
 | m :: r, s => by
  unfold cascsP
  have h1 : Lw s (if m.kind ≠ 7 then failP s eB 1 else s) := Lw.ite_ (Lw.fail _ _ _ (by decide)) (Lw.refl _)
  generalize (if m.kind ≠ 7 then failP s eB 1 else s) = s1 at h1
  dsimp only
  refine Lw.ite_ (h1.trans (messP_lw hr _ hop _ _ _)) ?_
  exact (h1.trans (((emitS _ _ _ _ rfl (by decide) (by decide)).trans (messP_lw hr op hop m.text m.kids (emitP s1 13 0 0))).trans (emitS _ _ _ _ rfl (by decide) (by decide)))).trans (cascsP_lw op hop r _)
theorem cascP_lw (x : NodT) (s : CSt) : Lw s (cascP rec x s) := by
 unfold cascP
 split
 ·exact (recvP_lw hr _ _).trans (cascsP_lw hr _ (recvP_op _ _) _ _)
 ·exact Lw.fail _ _ _ (by decide)
/-- a block: its opening, a jump, its body, its end; the jump leads behind it -/
theorem blockP_lw (x : NodT) (s : CSt) : Lw s (blockP rec x s) := by
 unfold blockP
 dsimp only
 obtain ⟨s1, hs1⟩ : ∃ s1, emitP s 18 s.temps x.names.length = s1 := ⟨_, rfl⟩
 rw [hs1]
 have c1 : s1.code = s.code ++ [⟨18, s.temps, x.names.length⟩] := by rw [← hs1]; rfl
 have l1 : s1.lits = s.lits ∧ s1.err = s.err := by rw [← hs1]; exact ⟨rfl, rfl⟩
 have n1 : s1.code.length = s.code.length + 1 := by rw [c1]; simp
 obtain ⟨s2, hs2⟩ : ∃ s2, emitP s1 16 0 0 = s2 := ⟨_, rfl⟩
 rw [hs2]
 have c2 : s2.code = s1.code ++ [⟨16, 0, 0⟩] := by rw [← hs2]; rfl
 have l2 : s2.lits = s1.lits ∧ s2.err = s1.err := by rw [← hs2]; exact ⟨rfl, rfl⟩
 have n2 : s2.code.length = s.code.length + 2 := by rw [c2]; simp [n1]
 have a3 := (bodyP_lw hr x s2).trans (emitS (bodyP rec x s2) 19 0 0 rfl (by decide) (by decide))
 have n3 : s.code.length + 3 ≤ (emitP (bodyP rec x s2) 19 0 0).code.length := by
  have h1 := (bodyP_lw hr x s2).pre.length_le
  have h2 : (emitP (bodyP rec x s2) 19 0 0).code.length = (bodyP rec x s2).code.length + 1 := by simp [emitP]
  omega
 generalize emitP (bodyP rec x s2) 19 0 0 = s3 at a3 n3 ⊢
 have hpre : s.code <+: s2.code := by rw [c2, c1, List.append_assoc]; exact List.prefix_append _ _
 have hp3 := hpre.trans a3.pre
 have g0 : s3.code[s.code.length]? = some ⟨18, s.temps, x.names.length⟩ := by
  rw [pre_get a3.pre (by omega), c2, c1]
  simp
 have g1 : s3.code[s1.code.length]? = some ⟨16, 0, 0⟩ := by
  rw [pre_get a3.pre (by omega), c2]
  simp
 have ec : (toP s3 s1.code.length 16 s3.code.length).code = s3.code.set s1.code.length ⟨16, ((s3.code.length % 256 : Nat) : Int), ((s3.code.length / 256 : Nat) : Int)⟩ := rfl
 have hpl : s1.code.length < s3.code.length := by omega
 refine ⟨?_, fun z => a3.err (by rw [l2.2, l1.2]; exact z), fun z => ?_, fun z => ?_, fun z => ?_, fun i hi => ?_⟩
 ·rw [ec]
  obtain ⟨r, hr⟩ := hp3
  rw [← hr, List.set_append_right _ _ (by omega)]
  exact List.prefix_append _ _
 ·have h1 : QL s2 := by
   unfold QL at *
   rw [c2, c1, scanC_app, scanC_app, z, l2.1, l1.1]
   rfl
  have h2 := a3.lit h1
  unfold QL at h2 ⊢
  rw [ec, scanC_set _ _ _ _ _ g1 rfl rfl]
  exact h2
 ·have h1 : DL s2 := by unfold DL at *; rw [l2.1, l1.1]; exact z
  exact a3.dis h1
 ·have h1 : JL s2 := by
   intro i hi
   rw [c2, c1] at hi
   rw [n2]
   simp only [List.mem_append, List.mem_singleton] at hi
   rcases hi with (q | q) | q
   ·have := z i q
    omega
   ·subst q
    unfold tgtI
    rw [if_pos ⟨by show (18 : Int) ≠ 16; decide, by show (18 : Int) ≠ 17; decide⟩]
    omega
   ·subst q
    have : tgtI ⟨16, 0, 0⟩ = 0 := rfl
    rw [this]
    omega
  have h2 := a3.jmp h1
  intro i hi
  rw [ec] at hi ⊢
  rw [List.length_set]
  rcases List.mem_or_eq_of_mem_set hi with q | q
  ·exact h2 i q
  ·rw [q, tgtI_to 16 (.inl rfl)]
   omega
 ·intro y hy h18
  rw [ec] at hy ⊢
  by_cases h0 : i = s.code.length
  ·subst h0
   refine ⟨_, by rw [← n1]; exact List.getElem?_set_self hpl, rfl, ?_⟩
   rw [tgtI_to 16 (.inl rfl)]
   omega
  ·by_cases h1 : i = s1.code.length
   ·subst h1
    rw [List.getElem?_set_self hpl] at hy
    simp at hy
    subst hy
    exact absurd (show (16 : Int) = 18 from h18) (by decide)
   ·rw [List.getElem?_set_ne (fun q => h1 q.symm)] at hy
    obtain ⟨j, k1, k2, k3⟩ := a3.blk i (by omega) y hy h18
    exact ⟨j, by rw [List.getElem?_set_ne (by omega)]; exact k1, k2, k3⟩
theorem stepP_lw (x : NodT) (s : CSt) : Lw s (stepP rec x s) := by
 unfold stepP
 split
 ·exact Lw.refl s
 split
 ·exact (litP_lw x s).trans (place_lw _ _ _ _ rfl)
 split
 ·exact varP_lw s _
 split
 ·exact assignP_lw hr x s
 split
 ·exact sendP_lw hr x s
 split
 ·exact cascP_lw hr x s
 split
 ·exact blockP_lw hr x s
 split
 ·split
  ·exact (hr _ _).trans (emitS _ _ _ _ rfl (by decide) (by decide))
  ·exact Lw.fail _ _ _ (by decide)
 ·exact Lw.fail _ _ _ (by decide)
end
theorem valP_lw : ∀ (f : Nat) (x : NodT) (s : CSt), Lw s (valP f x s)
 | 0, x, s => Lw.refl s
 | f + 1, x, s => stepP_lw (valP_lw f) x s
theorem wholesP_lw (f : Nat) (value : Bool) : ∀ (l : List NodT) (s : CSt), Lw s (wholesP (valP f) value l s)
 | [], s => by
  unfold wholesP
  exact Lw.trans (Lw.ite_ (emitS _ _ _ _ rfl (by decide) (by decide)) (emitS _ _ _ _ rfl (by decide) (by decide))) (emitS _ _ _ _ rfl (by decide) (by decide))
 | k :: r, s => by
  unfold wholesP
  dsimp only
  have h1 := valP_lw f k s
  refine Lw.ite_ h1 (Lw.ite_ (h1.trans (emitS _ _ _ _ rfl (by decide) (by decide))) (Lw.ite_ (h1.trans (wholesP_lw f value r _)) ?_))
  exact (h1.trans (emitS _ _ _ _ rfl (by decide) (by decide))).trans (wholesP_lw f value r _)
theorem wholeP_lw (f : Nat) (x : NodT) (value : Bool) (s : CSt) : Lw s (wholeP (valP f) x value s) :=
 ((declP_lw true x.names s).trans (declP_lw false x.temps _)).trans (wholesP_lw f value x.kids _)
/-- the code ends with a return, and jumps lead to what stands ahead of it or to it -/
def End20 (s : CSt) : Prop := ∃ c i, s.code = c ++ [i] ∧ i.op = 20 ∧ ∀ j, j ∈ c → tgtI j ≤ (c.length : Int)
theorem end20_emit (s : CSt) (h : JL s) : End20 (emitP s 20 0 0) := ⟨s.code, ⟨20, 0, 0⟩, rfl, rfl, h⟩
theorem wholesP_end (f : Nat) (value : Bool) : ∀ (l : List NodT) (s : CSt), JL s → (wholesP (valP (f + 1)) value l s).err = 0 → End20 (wholesP (valP (f + 1)) value l s)
 | [], s, h, he => by
  unfold wholesP
  refine end20_emit _ ?_
  split
  ·exact (emitS s 2 0 0 rfl (by decide) (by decide)).jmp h
  ·exact (emitS s 1 0 0 rfl (by decide) (by decide)).jmp h
 | k :: r, s, h, he => by
  unfold wholesP at he ⊢
  dsimp only at he ⊢
  have h1 := (valP_lw (f + 1) k s).jmp h
  split
  ·rename_i hq
   rw [if_pos hq] at he
   have e : valP (f + 1) k s = stepP (valP f) k s := rfl
   rw [e] at he ⊢
   unfold stepP at he ⊢
   split
   ·rename_i hs
    rw [if_pos hs] at he
    exact absurd he hs
   ·rename_i hs
    have hk := hq.2
    rw [if_neg hs, if_neg (by omega), if_neg (by omega), if_neg (by omega), if_neg (by omega), if_neg (by omega), if_neg (by omega), if_pos hk] at he
    rw [if_neg (by omega), if_neg (by omega), if_neg (by omega), if_neg (by omega), if_neg (by omega), if_neg (by omega), if_pos hk]
    split
    ·rename_i k' hkk
     exact end20_emit _ ((valP_lw f k' s).jmp h)
    ·rename_i hkk
     exfalso
     revert he
     split
     ·rename_i k' hk2
      exact absurd hk2 (hkk k')
     ·intro he
      unfold failP at he
      rw [if_pos (Decidable.not_not.1 hs)] at he
      exact absurd (show (1 : Int) = 0 from he) (by decide)
  ·rename_i hq
   rw [if_neg hq] at he
   split
   ·rename_i hv
    exact end20_emit _ h1
   ·rename_i hv
    rw [if_neg hv] at he
    split
    ·rename_i hk
     rw [if_pos hk] at he
     exact wholesP_end f value r _ h1 he
    ·rename_i hk
     rw [if_neg hk] at he
     exact wholesP_end f value r _ ((emitS (valP (f + 1) k s) 12 0 0 rfl (by decide) (by decide)).jmp h1) he
end Go.Proofs.Ytnojndgmgkgnpaa
