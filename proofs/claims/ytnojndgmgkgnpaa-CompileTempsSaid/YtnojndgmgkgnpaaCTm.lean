/- Chapter 10, plain: temporaries are never given up. -/
import Derived.Test.YtnojndgmgkgnpaaCGrow
namespace Go.Proofs.Ytnojndgmgkgnpaa
set_option linter.unusedVariables false
set_option linter.unusedSimpArgs false
/-- neither the temporaries nor the code become fewer -/
structure Tm (s t : CSt) : Prop where
 temps : s.temps ≤ t.temps
 code : s.code.length ≤ t.code.length
namespace Tm
theorem refl (s : CSt) : Tm s s := ⟨Nat.le_refl _, Nat.le_refl _⟩
theorem trans {s t u : CSt} (h : Tm s t) (g : Tm t u) : Tm s u := ⟨Nat.le_trans h.temps g.temps, Nat.le_trans h.code g.code⟩
theorem fail (s : CSt) (n : ByteArray) (x : Int) : Tm s (failP s n x) := by unfold failP; split <;> exact ⟨Nat.le_refl _, Nat.le_refl _⟩
theorem emit (s : CSt) (o a b : Int) : Tm s (emitP s o a b) := ⟨Nat.le_refl _, by simp [emitP]⟩
theorem to_ (s : CSt) (a : Nat) (o : Int) (t : Nat) : Tm s (toP s a o t) := ⟨Nat.le_refl _, by simp [toP]⟩
theorem place (s : CSt) (l : LitT) : Tm s (placeP s l).2 := by unfold placeP; split <;> exact ⟨Nat.le_refl _, Nat.le_refl _⟩
theorem sym (s : CSt) (t : ByteArray) : Tm s (symP s t).2 := place s _
theorem ite_ {s t u : CSt} {c : Prop} [Decidable c] (h : Tm s t) (g : Tm s u) : Tm s (if c then t else u) := by split <;> assumption
end Tm
theorem badD_tm (s : CSt) (n : ByteArray) : Tm s (badD s n) := by
 unfold badD
 have h1 : Tm s (if (findN s.names n).isSome || ownN n then failP s n 16 else s) := Tm.ite_ (Tm.fail _ _ _) (Tm.refl _)
 generalize (if (findN s.names n).isSome || ownN n then failP s n 16 else s) = s1 at h1
 exact h1.trans (Tm.ite_ (Tm.fail _ _ _) (Tm.refl _))
theorem declP_tm (fixed : Bool) : ∀ (l : List ByteArray) (s : CSt), Tm s (declP fixed l s)
 | [], s => Tm.refl s
 | n :: r, s => by
  unfold declP
  refine Tm.ite_ (badD_tm s n) ?_
  refine (badD_tm s n).trans (Tm.trans ?_ (declP_tm fixed r _))
  exact ⟨Nat.le_succ _, Nat.le_refl _⟩
mutual
theorem litP_tm : ∀ (x : NodT) (s : CSt), Tm s (litP x s).2
 | .node k t n _ _ ks, s => by
  unfold litP
  split
  ·exact Tm.refl s
  split
  ·exact Tm.refl s
  split
  ·exact Tm.refl s
  split
  ·exact litsP_tm ks s
  ·exact Tm.fail s _ _
theorem litsP_tm : ∀ (l : List NodT) (s : CSt), Tm s (litsP l s).2
 | [], s => Tm.refl s
 | x :: r, s => by
  unfold litsP
  exact (litP_tm x s).trans (litsP_tm r _)
end
theorem varP_tm (s : CSt) (n : ByteArray) : Tm s (varP s n) := by
 unfold varP
 split
 ·exact Tm.emit _ _ _ _
 split
 ·exact Tm.emit _ _ _ _
 split
 ·exact Tm.emit _ _ _ _
 split
 ·exact Tm.emit _ _ _ _
 split
 ·exact Tm.emit _ _ _ _
 have h1 : Tm s (if n.toList = bSuper then failP s n 15 else s) := Tm.ite_ (Tm.fail _ _ _) (Tm.refl _)
 generalize (if n.toList = bSuper then failP s n 15 else s) = s1 at h1
 dsimp only
 split
 ·exact h1.trans (Tm.ite_ (Tm.emit _ _ _ _) (Tm.emit _ _ _ _))
 ·exact h1.trans (Tm.ite_ ((Tm.sym _ _).trans (Tm.emit _ _ _ _)) (Tm.fail _ _ _))
theorem storeP_tm (s : CSt) (k : Option Nm) (n : ByteArray) : Tm s (storeP s k n) := by
 unfold storeP
 repeat' split
 all_goals first | exact Tm.emit _ _ _ _ | exact Tm.fail _ _ _
section
variable {rec : NodT → CSt → CSt} (hr : ∀ x s, Tm s (rec x s))
include hr
theorem assignP_tm (x : NodT) (s : CSt) : Tm s (assignP rec x s) := by
 unfold assignP
 split
 ·exact (hr _ _).trans (storeP_tm _ _ _)
 ·exact Tm.fail _ _ _
theorem recvP_tm (x : NodT) (s : CSt) : Tm s (recvP rec x s).2 := by
 unfold recvP
 split
 ·exact Tm.emit _ _ _ _
 ·exact hr x s
theorem argsP_tm : ∀ (l : List NodT) (s : CSt), Tm s (argsP rec l s)
 | [], s => Tm.refl s
 | a :: r, s => by
  unfold argsP
  exact (hr a s).trans (argsP_tm r _)
theorem messP_tm (op : Int) (sel : ByteArray) (l : List NodT) (s : CSt) : Tm s (messP rec op sel l s) := by
 unfold messP
 exact (argsP_tm hr l s).trans ((Tm.sym _ _).trans (Tm.emit _ _ _ _))
theorem stmtsP_tm : ∀ (b : Bool) (l : List NodT) (s : CSt), Tm s (stmtsP rec b l s)
 | _, [], s => Tm.refl s
 | b, a :: r, s => by
  unfold stmtsP
  have h1 : Tm s (if b then s else emitP s 12 0 0) := Tm.ite_ (Tm.refl _) (Tm.emit _ _ _ _)
  generalize (if b then s else emitP s 12 0 0) = s0 at h1
  have h2 := h1.trans (hr a s0)
  dsimp only
  generalize rec a s0 = s2 at h2
  have h3 : Tm s2 (if a.kind = 10 then emitP s2 2 0 0 else s2) := Tm.ite_ (Tm.emit _ _ _ _) (Tm.refl _)
  exact (h2.trans h3).trans (stmtsP_tm false r _)
theorem bodyP_tm (x : NodT) (s : CSt) : Tm s (bodyP rec x s) := by
 have h1 := ((declP_tm true x.names s).trans (declP_tm false x.temps _)).trans (stmtsP_tm hr true x.kids _)
 have h2 : Tm s (if x.kids.length = 0 then emitP (stmtsP rec true x.kids (declP false x.temps (declP true x.names s))) 2 0 0 else (stmtsP rec true x.kids (declP false x.temps (declP true x.names s)))) := Tm.ite_ (h1.trans (Tm.emit _ _ _ _)) h1
 exact ⟨h2.temps, h2.code⟩
theorem armP_tm (a : Arm) (kids : List NodT) (s : CSt) : Tm s (armP rec a kids s) := by
 cases a with
 | op o => exact Tm.emit _ _ _ _
 | kid i =>
  unfold armP
  dsimp only
  split
  ·exact bodyP_tm hr _ _
  ·exact Tm.refl _
theorem branchP_tm (y n : Arm) (kids : List NodT) (s : CSt) : Tm s (branchP rec y n kids s) := by
 unfold branchP
 dsimp only
 refine Tm.trans ?_ (Tm.to_ _ _ _ _)
 refine Tm.trans ?_ (armP_tm hr _ _ _)
 refine Tm.trans ?_ (Tm.to_ _ _ _ _)
 refine Tm.trans ?_ (Tm.emit _ _ _ _)
 refine Tm.trans ?_ (armP_tm hr _ _ _)
 refine Tm.trans ?_ (Tm.emit _ _ _ _)
 split
 ·exact hr _ _
 ·exact Tm.refl _
theorem loopP_tm (w : Bool) (k0 k1 : NodT) (s : CSt) : Tm s (loopP rec w k0 k1 s) := by
 have a0 := bodyP_tm hr k0 s
 unfold loopP
 dsimp only
 generalize bodyP rec k0 s = s1 at a0 ⊢
 have a1 : Tm s1 (if w then emitP s1 17 0 0 else toP (emitP (emitP s1 17 0 0) 16 0 0) s1.code.length 17 ((emitP s1 17 0 0).code.length + 1)) := by
  split
  ·exact Tm.emit _ _ _ _
  ·exact ((Tm.emit _ _ _ _).trans (Tm.emit _ _ _ _)).trans (Tm.to_ _ _ _ _)
 generalize (if w then emitP s1 17 0 0 else toP (emitP (emitP s1 17 0 0) 16 0 0) s1.code.length 17 ((emitP s1 17 0 0).code.length + 1)) = s3 at a1 ⊢
 have a3 := bodyP_tm hr k1 s3
 generalize bodyP rec k1 s3 = t3 at a3 ⊢
 have a5 : Tm t3 (toP (emitP (emitP t3 12 0 0) 16 0 0) (emitP t3 12 0 0).code.length 16 s.code.length) :=
  ((Tm.emit _ _ _ _).trans (Tm.emit _ _ _ _)).trans (Tm.to_ _ _ _ _)
 generalize toP (emitP (emitP t3 12 0 0) 16 0 0) (emitP t3 12 0 0).code.length 16 s.code.length = s5 at a5 ⊢
 have a6 : ∀ (u : CSt) (a b c d : Nat) (o p : Int), Tm s5 (emitP (if w then toP s5 a o b else toP s5 c p d) 2 0 0) := fun u a b c d o p => by
  split
  ·exact (Tm.to_ _ _ _ _).trans (Tm.emit _ _ _ _)
  ·exact (Tm.to_ _ _ _ _).trans (Tm.emit _ _ _ _)
 exact (((a0.trans a1).trans a3).trans a5).trans (a6 s _ _ _ _ _ _)
theorem sendP_tm (x : NodT) (s : CSt) : Tm s (sendP rec x s) := by
 unfold sendP
 split
 ·exact Tm.fail _ _ _
 ·split
  ·exact branchP_tm hr _ _ _ _
  ·split
   ·exact loopP_tm hr _ _ _ _
   ·exact (recvP_tm hr _ _).trans (messP_tm hr _ _ _ _)
theorem cascsP_tm (op : Int) : ∀ (l : List NodT) (s : CSt), Tm s (cascsP rec op l s)
 | [], s => Tm.refl s
 | m :: r, s => by
  unfold cascsP
  have h1 : Tm s (if m.kind ≠ 7 then failP s eB 1 else s) := Tm.ite_ (Tm.fail _ _ _) (Tm.refl _)
  generalize (if m.kind ≠ 7 then failP s eB 1 else s) = s1 at h1
  dsimp only
  refine Tm.ite_ (h1.trans (messP_tm hr _ _ _ _)) ?_
  exact (h1.trans (((Tm.emit _ _ _ _).trans (messP_tm hr op m.text m.kids (emitP s1 13 0 0))).trans (Tm.emit _ _ _ _))).trans (cascsP_tm op r _)
theorem cascP_tm (x : NodT) (s : CSt) : Tm s (cascP rec x s) := by
 unfold cascP
 split
 ·exact (recvP_tm hr _ _).trans (cascsP_tm hr _ _ _)
 ·exact Tm.fail _ _ _
theorem blockP_tm (x : NodT) (s : CSt) : Tm s (blockP rec x s) := by
 unfold blockP
 exact ((((Tm.emit _ _ _ _).trans (Tm.emit _ _ _ _)).trans (bodyP_tm hr _ _)).trans (Tm.emit _ _ _ _)).trans (Tm.to_ _ _ _ _)
theorem stepP_tm (x : NodT) (s : CSt) : Tm s (stepP rec x s) := by
 unfold stepP
 split
 ·exact Tm.refl s
 split
 ·exact (litP_tm x s).trans ((Tm.place _ _).trans (Tm.emit _ _ _ _))
 split
 ·exact varP_tm s _
 split
 ·exact assignP_tm hr x s
 split
 ·exact sendP_tm hr x s
 split
 ·exact cascP_tm hr x s
 split
 ·exact blockP_tm hr x s
 split
 ·split
  ·exact (hr _ _).trans (Tm.emit _ _ _ _)
  ·exact Tm.fail _ _ _
 ·exact Tm.fail _ _ _
end
theorem valP_tm : ∀ (f : Nat) (x : NodT) (s : CSt), Tm s (valP f x s)
 | 0, x, s => Tm.refl s
 | f + 1, x, s => stepP_tm (valP_tm f) x s
end Go.Proofs.Ytnojndgmgkgnpaa
