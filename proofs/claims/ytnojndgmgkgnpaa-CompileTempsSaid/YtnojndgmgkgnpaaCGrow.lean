/- Chapter 10, plain: how far a method's code grows by a node. -/
import Derived.Test.YtnojndgmgkgnpaaCPlain
namespace Go.Proofs.Ytnojndgmgkgnpaa
set_option linter.unusedVariables false
set_option linter.unusedSimpArgs false
/-- from s to t: at most c operations and k literals more -/
structure Gr (s t : CSt) (c k : Nat) : Prop where
 code : t.code.length ≤ s.code.length + c
 lits : t.lits.length ≤ s.lits.length + k
 names : t.names = s.names
namespace Gr
theorem refl (s : CSt) : Gr s s 0 0 := ⟨by omega, by omega, rfl⟩
theorem trans {s t u : CSt} {a b c d : Nat} (h : Gr s t a b) (g : Gr t u c d) : Gr s u (a + c) (b + d) :=
 ⟨by have := h.code; have := g.code; omega, by have := h.lits; have := g.lits; omega, g.names.trans h.names⟩
theorem mono {s t : CSt} {a b c d : Nat} (h : Gr s t a b) (h1 : a ≤ c) (h2 : b ≤ d) : Gr s t c d :=
 ⟨by have := h.code; omega, by have := h.lits; omega, h.names⟩
theorem fail (s : CSt) (n : ByteArray) (x : Int) : Gr s (failP s n x) 0 0 := by unfold failP; split <;> exact ⟨by simp, by simp, rfl⟩
theorem emit (s : CSt) (o a b : Int) : Gr s (emitP s o a b) 1 0 := ⟨by simp [emitP], by simp [emitP], rfl⟩
theorem to_ (s : CSt) (a : Nat) (o : Int) (t : Nat) : Gr s (toP s a o t) 0 0 := ⟨by simp [toP], by simp [toP], rfl⟩
theorem place (s : CSt) (l : LitT) : Gr s (placeP s l).2 0 1 := by unfold placeP; split <;> exact ⟨by simp, by simp, rfl⟩
theorem sym (s : CSt) (t : ByteArray) : Gr s (symP s t).2 0 1 := place s _
end Gr
/-- but for the names -/
theorem declP_same (fixed : Bool) : ∀ (l : List ByteArray) (s : CSt), (declP fixed l s).code = s.code ∧ (declP fixed l s).lits = s.lits
 | [], s => ⟨rfl, rfl⟩
 | n :: r, s => by
  have hb : (badD s n).code = s.code ∧ (badD s n).lits = s.lits := by
   have hf : ∀ (s : CSt) (x : Int), (failP s n x).code = s.code ∧ (failP s n x).lits = s.lits := fun s x => by
    unfold failP; split <;> exact ⟨rfl, rfl⟩
   have h1 : (if (findN s.names n).isSome || ownN n then failP s n 16 else s).code = s.code ∧ (if (findN s.names n).isSome || ownN n then failP s n 16 else s).lits = s.lits := by
    split
    ·exact hf s 16
    ·exact ⟨rfl, rfl⟩
   unfold badD
   generalize (if (findN s.names n).isSome || ownN n then failP s n 16 else s) = s1 at h1
   dsimp only
   split
   ·exact ⟨(hf s1 18).1.trans h1.1, (hf s1 18).2.trans h1.2⟩
   ·exact h1
  unfold declP
  split
  ·exact hb
  ·have ih := declP_same fixed r (addP (badD s n) n fixed)
   exact ⟨ih.1.trans hb.1, ih.2.trans hb.2⟩
mutual
theorem litP_gr : ∀ (x : NodT) (s : CSt), Gr s (litP x s).2 0 0
 | .node k t n _ _ ks, s => by
  unfold litP
  split
  ·exact Gr.refl s
  split
  ·exact Gr.refl s
  split
  ·exact Gr.refl s
  split
  ·exact litsP_gr ks s
  ·exact Gr.fail s _ _
theorem litsP_gr : ∀ (l : List NodT) (s : CSt), Gr s (litsP l s).2 0 0
 | [], s => Gr.refl s
 | x :: r, s => by
  unfold litsP
  exact (litP_gr x s).trans (litsP_gr r _)
end
theorem varP_gr (s : CSt) (n : ByteArray) : Gr s (varP s n) 1 1 := by
 unfold varP
 split
 ·exact (Gr.emit _ _ _ _).mono (by omega) (by omega)
 split
 ·exact (Gr.emit _ _ _ _).mono (by omega) (by omega)
 split
 ·exact (Gr.emit _ _ _ _).mono (by omega) (by omega)
 split
 ·exact (Gr.emit _ _ _ _).mono (by omega) (by omega)
 split
 ·exact (Gr.emit _ _ _ _).mono (by omega) (by omega)
 have h1 : Gr s (if n.toList = bSuper then failP s n 15 else s) 0 0 := by
  split
  ·exact Gr.fail _ _ _
  ·exact Gr.refl s
 generalize (if n.toList = bSuper then failP s n 15 else s) = s1 at h1
 dsimp only
 split
 ·split
  ·exact (h1.trans (Gr.emit _ _ _ _)).mono (by omega) (by omega)
  ·exact (h1.trans (Gr.emit _ _ _ _)).mono (by omega) (by omega)
 ·split
  ·exact (h1.trans ((Gr.sym _ _).trans (Gr.emit _ _ _ _))).mono (by omega) (by omega)
  ·exact (h1.trans (Gr.fail _ _ _)).mono (by omega) (by omega)
section
variable (rec : NodT → CSt → CSt) (f : Nat)
def GrR : Prop := ∀ (x : NodT) (s : CSt), x.size ≤ f → Gr s (rec x s) (8 * x.size - 2) x.size
variable {rec f}
theorem storeP_gr (s : CSt) (k : Option Nm) (n : ByteArray) : Gr s (storeP s k n) 1 0 := by
 unfold storeP
 repeat' split
 all_goals first | exact (Gr.emit _ _ _ _) | exact (Gr.fail _ _ _).mono (by omega) (by omega)
theorem size_one {x k : NodT} (h : x.kids = [k]) : x.size = k.size + 1 := by
 have := NodT.size_kids x; rw [h] at this; unfold NodT.sizes NodT.sizes at this; omega
theorem assignP_gr (hr : GrR rec f) {x : NodT} (hx : x.size ≤ f + 1) (s : CSt) : Gr s (assignP rec x s) (8 * x.size - 2) x.size := by
 have h0 := x.size_pos
 unfold assignP
 split
 ·rename_i k hk
  have h1 := size_one hk
  have h2 := k.size_pos
  exact ((hr k s (by omega)).trans (storeP_gr _ _ _)).mono (by omega) (by omega)
 ·exact (Gr.fail _ _ _).mono (by omega) (by omega)
theorem recvP_gr (hr : GrR rec f) {x : NodT} (hx : x.size ≤ f) (s : CSt) : Gr s (recvP rec x s).2 (8 * x.size - 2) x.size := by
 have h0 := x.size_pos
 unfold recvP
 split
 ·exact (Gr.emit _ _ _ _).mono (by omega) (by omega)
 ·exact hr x s hx
theorem argsP_gr (hr : GrR rec f) : ∀ (l : List NodT) (s : CSt), NodT.sizes l ≤ f → Gr s (argsP rec l s) (8 * NodT.sizes l) (NodT.sizes l)
 | [], s, _ => (Gr.refl s).mono (by omega) (by omega)
 | a :: r, s, h => by
  unfold NodT.sizes at h ⊢
  unfold argsP
  exact ((hr a s (by omega)).trans (argsP_gr hr r _ (by omega))).mono (by omega) (by omega)
theorem messP_gr (hr : GrR rec f) (op : Int) (sel : ByteArray) (l : List NodT) (s : CSt) (h : NodT.sizes l ≤ f) : Gr s (messP rec op sel l s) (8 * NodT.sizes l + 1) (NodT.sizes l + 1) := by
 unfold messP
 exact ((argsP_gr hr l s h).trans ((Gr.sym _ _).trans (Gr.emit _ _ _ _))).mono (by omega) (by omega)
theorem stmtsP_gr (hr : GrR rec f) : ∀ (b : Bool) (l : List NodT) (s : CSt), NodT.sizes l ≤ f → Gr s (stmtsP rec b l s) (8 * NodT.sizes l) (NodT.sizes l)
 | _, [], s, _ => (Gr.refl s).mono (by omega) (by omega)
 | b, a :: r, s, h => by
  have h0 := a.size_pos
  unfold NodT.sizes at h ⊢
  unfold stmtsP
  have h1 : Gr s (if b then s else emitP s 12 0 0) 1 0 := by
   split
   ·exact (Gr.refl s).mono (by omega) (by omega)
   ·exact Gr.emit _ _ _ _
  generalize (if b then s else emitP s 12 0 0) = s0 at h1
  have h2 := h1.trans (hr a s0 (by omega))
  dsimp only
  generalize rec a s0 = s2 at h2
  have h3 : Gr s2 (if a.kind = 10 then emitP s2 2 0 0 else s2) 1 0 := by
   split
   ·exact Gr.emit _ _ _ _
   ·exact (Gr.refl _).mono (by omega) (by omega)
  exact ((h2.trans h3).trans (stmtsP_gr hr false r _ (by omega))).mono (by omega) (by omega)
theorem bodyP_gr (hr : GrR rec f) {x : NodT} (hx : x.size ≤ f + 1) (s : CSt) : Gr s (bodyP rec x s) (8 * x.size - 7) (x.size - 1) := by
 have h0 := NodT.size_kids x
 have hd1 := declP_same true x.names s
 have hd2 := declP_same false x.temps (declP true x.names s)
 have h1 := stmtsP_gr hr true x.kids (declP false x.temps (declP true x.names s)) (by omega)
 have h2 : Gr (stmtsP rec true x.kids (declP false x.temps (declP true x.names s))) (if x.kids.length = 0 then emitP (stmtsP rec true x.kids (declP false x.temps (declP true x.names s))) 2 0 0 else (stmtsP rec true x.kids (declP false x.temps (declP true x.names s)))) 1 0 := by
  split
  ·exact Gr.emit _ _ _ _
  ·exact (Gr.refl _).mono (by omega) (by omega)
 have h3 := h1.trans h2
 refine ⟨?_, ?_, rfl⟩
 ·have := h3.code
  rw [hd2.1, hd1.1] at this
  show List.length (ite _ _ _ : CSt).code ≤ _
  omega
 ·have := h3.lits
  rw [hd2.2, hd1.2] at this
  show List.length (ite _ _ _ : CSt).lits ≤ _
  omega
theorem sizes_drop (l : List NodT) (i : Nat) (h : i < l.length) : (l[i]).size ≤ NodT.sizes l := NodT.size_mem (List.getElem_mem h)
def armSz (a : Arm) (kids : List NodT) : Nat := match a with
 | .op _ => 0
 | .kid i => match kids[i]? with
  | some k => k.size
  | none => 0
theorem armP_gr (hr : GrR rec f) {kids : List NodT} (hk : NodT.sizes kids ≤ f) (a : Arm) (s : CSt) : Gr s (armP rec a kids s) (8 * armSz a kids + 1) (armSz a kids) := by
 cases a with
 | op o => exact (Gr.emit _ _ _ _).mono (by unfold armSz; omega) (by unfold armSz; omega)
 | kid i =>
  unfold armP armSz
  dsimp only
  cases e : kids[i]? with
  | none => exact (Gr.refl s).mono (by omega) (by omega)
  | some k =>
   obtain ⟨hi, rfl⟩ := List.getElem?_eq_some_iff.1 e
   have h1 := sizes_drop kids i hi
   exact (bodyP_gr hr (x := kids[i]) (by omega) s).mono (by dsimp only; omega) (by dsimp only; omega)
theorem brOf_cases {t : ByteArray} {y n : Arm} {m : Nat} (h : brOf t = some (y, n, m)) : (y = .kid 1 ∧ n = .op 2 ∧ m = 2) ∨ (y = .op 2 ∧ n = .kid 1 ∧ m = 2) ∨ (y = .kid 1 ∧ n = .op 4 ∧ m = 2) ∨ (y = .op 3 ∧ n = .kid 1 ∧ m = 2) ∨ (y = .kid 1 ∧ n = .kid 2 ∧ m = 3) ∨ (y = .kid 2 ∧ n = .kid 1 ∧ m = 3) := by
 unfold brOf at h
 repeat' split at h
 all_goals first
  | (cases h; done)
  | (cases h; simp)
theorem isBr_some {x : NodT} {y n : Arm} (h : isBr x = some (y, n)) : ∃ m, brOf x.text = some (y, n, m) ∧ x.kids.length = m ∧ (x.kids.drop 1).all plainN = true := by
 unfold isBr at h
 split at h
 ·rename_i y' n' m e
  split at h
  ·rename_i c
   cases h
   exact ⟨m, e, c⟩
  ·cases h
 ·cases h
theorem sizes_two {a b : NodT} : NodT.sizes [a, b] = a.size + b.size := by simp [NodT.sizes]
theorem arms_le {x k : NodT} {r : List NodT} {y n : Arm} (h : isBr x = some (y, n)) (hk : x.kids = k :: r) : k.size + armSz y x.kids + armSz n x.kids ≤ NodT.sizes x.kids := by
 obtain ⟨m, hb, hl, _⟩ := isBr_some h
 have hc := brOf_cases hb
 clear h hb
 rcases hc with ⟨rfl, rfl, rfl⟩ | ⟨rfl, rfl, rfl⟩ | ⟨rfl, rfl, rfl⟩ | ⟨rfl, rfl, rfl⟩ | ⟨rfl, rfl, rfl⟩ | ⟨rfl, rfl, rfl⟩
 all_goals
  rw [hk] at hl ⊢
  match r, hl with
  | [b], _ => simp [armSz, NodT.sizes]
  | [b, c], _ => simp [armSz, NodT.sizes]; try omega
theorem branchP_gr (hr : GrR rec f) {x : NodT} (hx : x.size ≤ f + 1) {y n : Arm} (h : isBr x = some (y, n)) (s : CSt) {k : NodT} {r : List NodT} (hk : x.kids = k :: r) : Gr s (branchP rec y n x.kids s) (8 * x.size - 2) x.size := by
 have h0 := NodT.size_kids x
 have h1 := arms_le h hk
 have hkf : NodT.sizes x.kids ≤ f := by omega
 have h2 := k.size_pos
 have e : branchP rec y n x.kids s = (let s1 := rec k s
  let s2 := armP rec y x.kids (emitP s1 17 0 0)
  let s3 := emitP s2 16 0 0
  let s4 := armP rec n x.kids (toP s3 s1.code.length 17 s3.code.length)
  toP s4 s2.code.length 16 s4.code.length) := by unfold branchP; rw [hk]
 rw [e]
 dsimp only
 exact ((((((hr k s (by omega)).trans (Gr.emit _ _ _ _)).trans (armP_gr hr hkf _ _)).trans (Gr.emit _ _ _ _)).trans (Gr.to_ _ _ _ _)).trans (armP_gr hr hkf _ _) |>.trans (Gr.to_ _ _ _ _)).mono (by omega) (by omega)
theorem loopP_gr (hr : GrR rec f) {k0 k1 : NodT} (hk : k0.size + k1.size ≤ f) (w : Bool) (s : CSt) : Gr s (loopP rec w k0 k1 s) (8 * (k0.size + k1.size) - 9) (k0.size + k1.size) := by
 have h0 := k0.size_pos
 have h1 := k1.size_pos
 have a0 := bodyP_gr hr (x := k0) (by omega) s
 unfold loopP
 dsimp only
 generalize bodyP rec k0 s = s1 at a0 ⊢
 have a1 : Gr s1 (if w then emitP s1 17 0 0 else toP (emitP (emitP s1 17 0 0) 16 0 0) s1.code.length 17 ((emitP s1 17 0 0).code.length + 1)) 2 0 := by
  split
  ·exact (Gr.emit _ _ _ _).mono (by omega) (by omega)
  ·exact (((Gr.emit _ _ _ _).trans (Gr.emit _ _ _ _)).trans (Gr.to_ _ _ _ _)).mono (by omega) (by omega)
 generalize (if w then emitP s1 17 0 0 else toP (emitP (emitP s1 17 0 0) 16 0 0) s1.code.length 17 ((emitP s1 17 0 0).code.length + 1)) = s3 at a1 ⊢
 have a3 := bodyP_gr hr (x := k1) (by omega) s3
 generalize bodyP rec k1 s3 = t3 at a3 ⊢
 have a5 : Gr t3 (toP (emitP (emitP t3 12 0 0) 16 0 0) (emitP t3 12 0 0).code.length 16 s.code.length) 2 0 :=
  (((Gr.emit _ _ _ _).trans (Gr.emit _ _ _ _)).trans (Gr.to_ _ _ _ _)).mono (by omega) (by omega)
 generalize toP (emitP (emitP t3 12 0 0) 16 0 0) (emitP t3 12 0 0).code.length 16 s.code.length = s5 at a5 ⊢
 have a6 : ∀ (u : CSt) (a b c d : Nat) (o p : Int), Gr s5 (emitP (if w then toP s5 a o b else toP s5 c p d) 2 0 0) 1 0 := fun u a b c d o p => by
  split
  ·exact ((Gr.to_ _ _ _ _).trans (Gr.emit _ _ _ _)).mono (by omega) (by omega)
  ·exact ((Gr.to_ _ _ _ _).trans (Gr.emit _ _ _ _)).mono (by omega) (by omega)
 exact ((((a0.trans a1).trans a3).trans a5).trans (a6 s _ _ _ _ _ _)).mono (by omega) (by omega)
theorem isLoop_some {x a b : NodT} {w : Bool} (h : isLoop x = some (w, a, b)) : x.kids = [a, b] ∧ plainN a = true ∧ plainN b = true ∧ w = decide (x.text.toList = bWhileTrue) ∧ (x.text.toList = bWhileTrue ∨ x.text.toList = bWhileFalse) := by
 unfold isLoop at h
 split at h
 ·rename_i c
  split at h
  ·rename_i a' b' e
   split at h
   ·rename_i p
    cases h
    simp only [Bool.and_eq_true] at p
    exact ⟨e, p.1, p.2, rfl, c⟩
   ·cases h
  ·cases h
 ·cases h
theorem sendP_gr (hr : GrR rec f) {x : NodT} (hx : x.size ≤ f + 1) (s : CSt) : Gr s (sendP rec x s) (8 * x.size - 2) x.size := by
 have h0 := NodT.size_kids x
 have h00 := x.size_pos
 unfold sendP
 split
 ·exact (Gr.fail _ _ _).mono (by omega) (by omega)
 ·rename_i k args hk
  have hs : NodT.sizes x.kids = k.size + NodT.sizes args := by rw [hk, NodT.sizes]
  have hkp := k.size_pos
  split
  ·rename_i y n hb
   exact branchP_gr hr hx hb s hk
  ·split
   ·rename_i w a b hl
    have h1 := (isLoop_some hl).1
    have h2 : NodT.sizes x.kids = a.size + b.size := by rw [h1, sizes_two]
    exact (loopP_gr hr (k0 := a) (k1 := b) (by omega) w s).mono (by omega) (by omega)
   ·exact ((recvP_gr hr (x := k) (by omega) s).trans (messP_gr hr _ _ _ _ (by omega))).mono (by omega) (by omega)
theorem cascsP_gr (hr : GrR rec f) (op : Int) : ∀ (l : List NodT) (s : CSt), NodT.sizes l ≤ f → Gr s (cascsP rec op l s) (8 * NodT.sizes l) (NodT.sizes l)
 | [], s, _ => (Gr.refl s).mono (by omega) (by omega)
 | m :: r, s, h => by
  unfold NodT.sizes at h ⊢
  have hm := NodT.size_kids m
  unfold cascsP
  have h1 : Gr s (if m.kind ≠ 7 then failP s eB 1 else s) 0 0 := by
   split
   ·exact Gr.fail _ _ _
   ·exact Gr.refl s
  generalize (if m.kind ≠ 7 then failP s eB 1 else s) = s1 at h1
  dsimp only
  split
  ·exact (h1.trans (messP_gr hr _ _ _ _ (by omega))).mono (by omega) (by omega)
  ·exact ((h1.trans (((Gr.emit _ _ _ _).trans (messP_gr hr op m.text m.kids (emitP s1 13 0 0) (by omega))).trans (Gr.emit _ _ _ _))).trans (cascsP_gr hr op r _ (by omega))).mono (by omega) (by omega)
theorem cascP_gr (hr : GrR rec f) {x : NodT} (hx : x.size ≤ f + 1) (s : CSt) : Gr s (cascP rec x s) (8 * x.size - 2) x.size := by
 have h0 := NodT.size_kids x
 have h00 := x.size_pos
 unfold cascP
 split
 ·rename_i k m r hk
  have hs : NodT.sizes x.kids = k.size + NodT.sizes (m :: r) := by rw [hk, NodT.sizes]
  have hkp := k.size_pos
  have hmp := m.size_pos
  have h3 : NodT.sizes (m :: r) = m.size + NodT.sizes r := by rw [NodT.sizes]
  exact ((recvP_gr hr (x := k) (by omega) s).trans (cascsP_gr hr _ (m :: r) _ (by omega))).mono (by omega) (by omega)
 ·exact (Gr.fail _ _ _).mono (by omega) (by omega)
theorem blockP_gr (hr : GrR rec f) {x : NodT} (hx : x.size ≤ f + 1) (s : CSt) : Gr s (blockP rec x s) (8 * x.size - 2) x.size := by
 have h00 := x.size_pos
 unfold blockP
 exact (((((Gr.emit _ _ _ _).trans (Gr.emit _ _ _ _)).trans (bodyP_gr hr hx _)).trans (Gr.emit _ _ _ _)).trans (Gr.to_ _ _ _ _)).mono (by omega) (by omega)
theorem stepP_gr (hr : GrR rec f) {x : NodT} (hx : x.size ≤ f + 1) (s : CSt) : Gr s (stepP rec x s) (8 * x.size - 2) x.size := by
 have h00 := x.size_pos
 unfold stepP
 split
 ·exact (Gr.refl s).mono (by omega) (by omega)
 split
 ·exact ((litP_gr x s).trans ((Gr.place _ _).trans (Gr.emit _ _ _ _))).mono (by omega) (by omega)
 split
 ·exact (varP_gr s _).mono (by omega) (by omega)
 split
 ·exact assignP_gr hr hx s
 split
 ·exact sendP_gr hr hx s
 split
 ·exact cascP_gr hr hx s
 split
 ·exact blockP_gr hr hx s
 split
 ·split
  ·rename_i k hk
   have h1 := size_one hk
   have h2 := k.size_pos
   exact ((hr k s (by omega)).trans (Gr.emit _ _ _ _)).mono (by omega) (by omega)
  ·exact (Gr.fail _ _ _).mono (by omega) (by omega)
 ·exact (Gr.fail _ _ _).mono (by omega) (by omega)
end
theorem valP_gr : ∀ (f : Nat), GrR (valP f) f
 | 0 => fun x s h => by have := x.size_pos; omega
 | f + 1 => fun x s h => stepP_gr (valP_gr f) h s
end Go.Proofs.Ytnojndgmgkgnpaa
