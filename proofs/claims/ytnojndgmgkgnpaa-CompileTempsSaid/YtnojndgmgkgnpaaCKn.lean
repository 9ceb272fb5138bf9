/- Chapter 10, plain: how many names a node makes known, and how many temporaries its code has. -/
import Derived.Test.YtnojndgmgkgnpaaCLw
import Derived.Test.YtnojndgmgkgnpaaPPlain
namespace Go.Proofs.Ytnojndgmgkgnpaa
set_option linter.unusedVariables false
set_option linter.unusedSimpArgs false
mutual
def knN : NodT → Nat
 | .node _ _ _ ns ts ks => ns.length + ts.length + knNs ks
def knNs : List NodT → Nat
 | [] => 0
 | x :: l => knN x + knNs l
end
mutual
/-- names stand in blocks alone, and what is a literal or a variable makes none known -/
def okK : NodT → Prop
 | .node k _ _ ns ts ks => (k ≠ 9 → ns = [] ∧ ts = []) ∧ ((k = 1 ∨ k = 2 ∨ k = 3 ∨ k = 4 ∨ k = 5) → knNs ks = 0) ∧ okKs ks
def okKs : List NodT → Prop
 | [] => True
 | x :: l => okK x ∧ okKs l
end
theorem knN_def (x : NodT) : knN x = x.names.length + x.temps.length + knNs x.kids := by cases x; unfold knN; rfl
theorem okK_def (x : NodT) : okK x ↔ (x.kind ≠ 9 → x.names = [] ∧ x.temps = []) ∧ ((x.kind = 1 ∨ x.kind = 2 ∨ x.kind = 3 ∨ x.kind = 4 ∨ x.kind = 5) → knNs x.kids = 0) ∧ okKs x.kids := by cases x; unfold okK; exact Iff.rfl
theorem okK.kids {x : NodT} (h : okK x) : okKs x.kids := ((okK_def x).1 h).2.2
theorem okK.kn {x : NodT} (h : okK x) (hk : x.kind ≠ 9) : knN x = knNs x.kids := by
 obtain ⟨h1, h2⟩ := ((okK_def x).1 h).1 hk
 rw [knN_def, h1, h2]; simp
theorem okK.zero {x : NodT} (h : okK x) (hk : x.kind = 1 ∨ x.kind = 2 ∨ x.kind = 3 ∨ x.kind = 4 ∨ x.kind = 5) : knN x = 0 := by
 rw [h.kn (by omega)]
 exact ((okK_def x).1 h).2.1 hk
theorem okKs_app : ∀ {l r : List NodT}, okKs l → okKs r → okKs (l ++ r)
 | [], r, _, h => h
 | x :: l, r, g, h => ⟨g.1, okKs_app g.2 h⟩
theorem knNs_app : ∀ (l r : List NodT), knNs (l ++ r) = knNs l + knNs r
 | [], r => by simp [knNs]
 | x :: l, r => by simp only [List.cons_append, knNs, knNs_app l r]; omega
theorem okKs_mem : ∀ {l : List NodT} {x : NodT}, okKs l → x ∈ l → okK x
 | a :: l, x, h, hx => (List.mem_cons.1 hx).elim (fun e => by rw [e]; exact h.1) (fun z => okKs_mem h.2 z)
/-- from s to t: so many temporaries more, if there is no error -/
structure KnT (s t : CSt) (c : Nat) : Prop where
 err : s.err ≠ 0 → t.err ≠ 0
 eq : t.err = 0 → t.temps = s.temps + c
 top : s.temps ≤ 24 → t.temps ≤ 24
namespace KnT
theorem refl (s : CSt) : KnT s s 0 := ⟨id, fun _ => rfl, id⟩
theorem trans {s t u : CSt} {a b : Nat} (h : KnT s t a) (g : KnT t u b) : KnT s u (a + b) := ⟨fun z => g.err (h.err z), fun z => by
 have h1 : t.err = 0 := Decidable.byContradiction (fun q => g.err q z)
 rw [g.eq z, h.eq h1]; omega, fun z => g.top (h.top z)⟩
theorem fail (s : CSt) (n : ByteArray) (x : Int) (hx : x ≠ 0) (c : Nat) : KnT s (failP s n x) c := by
 unfold failP
 split
 ·exact ⟨fun _ => hx, fun z => absurd z hx, id⟩
 ·rename_i h
  exact ⟨id, fun z => absurd z h, id⟩
theorem same {s t : CSt} (he : t.err = s.err) (ht : t.temps = s.temps) : KnT s t 0 := ⟨fun z => by rw [he]; exact z, fun _ => ht, fun z => by rw [ht]; exact z⟩
theorem emit (s : CSt) (o a b : Int) : KnT s (emitP s o a b) 0 := same rfl rfl
theorem to_ (s : CSt) (a : Nat) (o : Int) (t : Nat) : KnT s (toP s a o t) 0 := same rfl rfl
theorem place (s : CSt) (l : LitT) : KnT s (placeP s l).2 0 := by unfold placeP; split <;> exact same rfl rfl
theorem ite_ {s t u : CSt} {c : Prop} {n : Nat} [Decidable c] (h : KnT s t n) (g : KnT s u n) : KnT s (if c then t else u) n := by split <;> assumption
theorem of {s t : CSt} {a b : Nat} (h : KnT s t a) (e : a = b) : KnT s t b := e ▸ h
/-- an error is there: it does not matter how many -/
theorem bad {s t : CSt} {a : Nat} (h : KnT s t a) (he : t.err ≠ 0) (b : Nat) : KnT s t b := ⟨h.err, fun z => absurd z he, h.top⟩
end KnT
theorem badD_kn (s : CSt) (n : ByteArray) : KnT s (badD s n) 0 := by
 unfold badD
 have h1 : KnT s (if (findN s.names n).isSome || ownN n then failP s n 16 else s) 0 := KnT.ite_ (KnT.fail _ _ _ (by decide) _) (KnT.refl _)
 generalize (if (findN s.names n).isSome || ownN n then failP s n 16 else s) = s1 at h1
 exact (h1.trans (KnT.ite_ (KnT.fail _ _ _ (by decide) _) (KnT.refl _))).of rfl
theorem badD_24 (s : CSt) (n : ByteArray) (h : (badD s n).err = 0) : (badD s n).temps ≠ 24 := by
 unfold badD at h ⊢
 generalize (if (findN s.names n).isSome || ownN n then failP s n 16 else s) = s1 at h ⊢
 dsimp only at h ⊢
 split
 ·rename_i q
  rw [if_pos q] at h
  exfalso
  unfold failP at h
  split at h
  ·exact absurd (show (18 : Int) = 0 from h) (by decide)
  ·rename_i q2; exact q2 h
 ·assumption
theorem declP_kn (fixed : Bool) : ∀ (l : List ByteArray) (s : CSt), KnT s (declP fixed l s) l.length
 | [], s => KnT.refl s
 | n :: r, s => by
  have hb := badD_kn s n
  have h24 := badD_24 s n
  unfold declP
  split
  ·rename_i h
   exact hb.bad h _
  ·rename_i h
   have h0 : (badD s n).err = 0 := Decidable.not_not.1 h
   have ih := declP_kn fixed r (addP (badD s n) n fixed)
   generalize badD s n = s1 at hb h24 h0 ih ⊢
   have h1 : KnT s1 (addP s1 n fixed) 1 := ⟨id, fun _ => rfl, fun z => by
    have := h24 h0
    show s1.temps + 1 ≤ 24
    omega⟩
   exact ((hb.trans h1).trans ih).of (by simp; omega)
mutual
theorem litP_kn : ∀ (x : NodT) (s : CSt), KnT s (litP x s).2 0
 | .node k t n _ _ ks, s => by
  unfold litP
  split
  ·exact KnT.refl s
  split
  ·exact KnT.refl s
  split
  ·exact KnT.refl s
  split
  ·exact litsP_kn ks s
  ·exact KnT.fail s _ _ (by decide) _
theorem litsP_kn : ∀ (l : List NodT) (s : CSt), KnT s (litsP l s).2 0
 | [], s => KnT.refl s
 | x :: r, s => by
  unfold litsP
  exact ((litP_kn x s).trans (litsP_kn r _)).of rfl
end
theorem varP_kn (s : CSt) (n : ByteArray) : KnT s (varP s n) 0 := by
 unfold varP
 split
 ·exact KnT.emit _ _ _ _
 split
 ·exact KnT.emit _ _ _ _
 split
 ·exact KnT.emit _ _ _ _
 split
 ·exact KnT.emit _ _ _ _
 split
 ·exact KnT.emit _ _ _ _
 have h1 : KnT s (if n.toList = bSuper then failP s n 15 else s) 0 := KnT.ite_ (KnT.fail _ _ _ (by decide) _) (KnT.refl _)
 generalize (if n.toList = bSuper then failP s n 15 else s) = s1 at h1
 dsimp only
 split
 ·exact (h1.trans (KnT.ite_ (KnT.emit _ _ _ _) (KnT.emit _ _ _ _))).of rfl
 ·exact (h1.trans (KnT.ite_ (((KnT.place _ _).trans (KnT.emit _ _ _ _)).of rfl) (KnT.fail _ _ _ (by decide) _))).of rfl
theorem storeP_kn (s : CSt) (k : Option Nm) (n : ByteArray) : KnT s (storeP s k n) 0 := by
 unfold storeP
 repeat' split
 all_goals first | exact KnT.emit _ _ _ _ | exact KnT.fail _ _ _ (by decide) _
section
variable {rec : NodT → CSt → CSt} {f : Nat} (hr : ∀ x s, x.size ≤ f → okK x → KnT s (rec x s) (knN x))
include hr
theorem argsP_kn : ∀ (l : List NodT) (s : CSt), NodT.sizes l ≤ f → okKs l → KnT s (argsP rec l s) (knNs l)
 | [], s, _, _ => KnT.refl s
 | a :: r, s, h, g => by
  unfold NodT.sizes at h
  unfold argsP
  exact ((hr a s (by omega) g.1).trans (argsP_kn r _ (by omega) g.2)).of (by simp [knNs])
theorem messP_kn (op : Int) (sel : ByteArray) (l : List NodT) (s : CSt) (h : NodT.sizes l ≤ f) (g : okKs l) : KnT s (messP rec op sel l s) (knNs l) := by
 unfold messP
 exact ((argsP_kn hr l s h g).trans ((KnT.place _ _).trans (KnT.emit _ _ _ _))).of rfl
theorem recvP_kn (x : NodT) (s : CSt) (h : x.size ≤ f) (g : okK x) : KnT s (recvP rec x s).2 (knN x) := by
 unfold recvP
 split
 ·rename_i hs
  unfold superN at hs
  simp only [Bool.and_eq_true, decide_eq_true_eq] at hs
  exact (KnT.emit _ _ _ _).of (g.zero (by omega)).symm
 ·exact hr x s h g
theorem stmtsP_kn : ∀ (b : Bool) (l : List NodT) (s : CSt), NodT.sizes l ≤ f → okKs l → KnT s (stmtsP rec b l s) (knNs l)
 | _, [], s, _, _ => KnT.refl s
 | b, a :: r, s, h, g => by
  unfold NodT.sizes at h
  unfold stmtsP
  have h1 : KnT s (if b then s else emitP s 12 0 0) 0 := KnT.ite_ (KnT.refl _) (KnT.emit _ _ _ _)
  generalize (if b then s else emitP s 12 0 0) = s0 at h1
  have h2 := h1.trans (hr a s0 (by omega) g.1)
  dsimp only
  generalize rec a s0 = s2 at h2
  have h3 : KnT s2 (if a.kind = 10 then emitP s2 2 0 0 else s2) 0 := KnT.ite_ (KnT.emit _ _ _ _) (KnT.refl _)
  exact ((h2.trans h3).trans (stmtsP_kn false r _ (by omega) g.2)).of (by simp [knNs])
theorem bodyP_kn (x : NodT) (s : CSt) (h : x.size ≤ f) (g : okK x) : KnT s (bodyP rec x s) (knN x) := by
 rw [NodT.size_kids] at h
 have h1 := ((declP_kn true x.names s).trans (declP_kn false x.temps _)).trans (stmtsP_kn hr true x.kids _ (by omega) g.kids)
 have h2 : KnT s (if x.kids.length = 0 then emitP (stmtsP rec true x.kids (declP false x.temps (declP true x.names s))) 2 0 0 else (stmtsP rec true x.kids (declP false x.temps (declP true x.names s)))) (knN x) := by
  rw [knN_def]
  exact KnT.ite_ ((h1.trans (KnT.emit _ _ _ _)).of rfl) h1
 exact (h2.trans (KnT.same (t := { (if x.kids.length = 0 then emitP (stmtsP rec true x.kids (declP false x.temps (declP true x.names s))) 2 0 0 else (stmtsP rec true x.kids (declP false x.temps (declP true x.names s)))) with names := s.names }) rfl rfl)).of rfl
def armK (a : Arm) (kids : List NodT) : Nat := match a with
 | .op _ => 0
 | .kid i => match kids[i]? with
  | some k => knN k
  | none => 0
theorem armP_kn (a : Arm) (kids : List NodT) (s : CSt) (h : NodT.sizes kids ≤ f) (g : okKs kids) : KnT s (armP rec a kids s) (armK a kids) := by
 cases a with
 | op o => exact KnT.emit _ _ _ _
 | kid i =>
  unfold armP armK
  dsimp only
  cases hk : kids[i]? with
  | some k =>
   have hm : k ∈ kids := List.mem_of_getElem? hk
   exact bodyP_kn hr _ _ (Nat.le_trans (NodT.size_mem hm) h) (okKs_mem g hm)
  | none => exact KnT.refl _
theorem branchP_kn (y n : Arm) (k : NodT) (r : List NodT) (s : CSt) (h : NodT.sizes (k :: r) ≤ f) (g : okKs (k :: r)) : KnT s (branchP rec y n (k :: r) s) (knN k + armK y (k :: r) + armK n (k :: r)) := by
 have hk : k.size ≤ f := by unfold NodT.sizes at h; omega
 unfold branchP
 dsimp only
 have a1 := hr k s hk g.1
 generalize rec k s = s1 at a1
 have a2 := (KnT.emit s1 17 0 0).trans (armP_kn hr y (k :: r) (emitP s1 17 0 0) h g)
 generalize armP rec y (k :: r) (emitP s1 17 0 0) = s2 at a2 ⊢
 have a3 := (KnT.emit s2 16 0 0).trans (KnT.to_ (emitP s2 16 0 0) s1.code.length 17 (emitP s2 16 0 0).code.length)
 generalize toP (emitP s2 16 0 0) s1.code.length 17 (emitP s2 16 0 0).code.length = s3 at a3 ⊢
 have a4 := armP_kn hr n (k :: r) s3 h g
 generalize armP rec n (k :: r) s3 = s4 at a4 ⊢
 exact ((((a1.trans a2).trans a3).trans a4).trans (KnT.to_ _ _ _ _)).of (by omega)
theorem loopP_kn (w : Bool) (k0 k1 : NodT) (s : CSt) (h0 : k0.size ≤ f) (h1 : k1.size ≤ f) (g0 : okK k0) (g1 : okK k1) : KnT s (loopP rec w k0 k1 s) (knN k0 + knN k1) := by
 have a0 := bodyP_kn hr k0 s h0 g0
 unfold loopP
 dsimp only
 generalize bodyP rec k0 s = s1 at a0 ⊢
 have a1 : KnT s1 (if w then emitP s1 17 0 0 else toP (emitP (emitP s1 17 0 0) 16 0 0) s1.code.length 17 ((emitP s1 17 0 0).code.length + 1)) 0 := by
  split <;> exact KnT.same rfl rfl
 generalize (if w then emitP s1 17 0 0 else toP (emitP (emitP s1 17 0 0) 16 0 0) s1.code.length 17 ((emitP s1 17 0 0).code.length + 1)) = s3 at a1 ⊢
 have a3 := bodyP_kn hr k1 s3 h1 g1
 generalize bodyP rec k1 s3 = t3 at a3 ⊢
 have a5 : KnT t3 (toP (emitP (emitP t3 12 0 0) 16 0 0) (emitP t3 12 0 0).code.length 16 s.code.length) 0 := KnT.same rfl rfl
 generalize toP (emitP (emitP t3 12 0 0) 16 0 0) (emitP t3 12 0 0).code.length 16 s.code.length = s5 at a5 ⊢
 have a6 : ∀ (a b c d : Nat) (o p : Int), KnT s5 (emitP (if w then toP s5 a o b else toP s5 c p d) 2 0 0) 0 := fun a b c d o p => by
  split <;> exact KnT.same rfl rfl
 exact ((((a0.trans a1).trans a3).trans a5).trans (a6 _ _ _ _ _ _)).of (by omega)
omit hr in
theorem br_arms {x : NodT} {y n : Arm} (h : isBr x = some (y, n)) : ∃ k r, x.kids = k :: r ∧ armK y (k :: r) + armK n (k :: r) = knNs r := by
 unfold isBr at h
 split at h
 ·rename_i y' n' m hq
  split at h
  ·rename_i hm
   cases h
   have h2 : m = 2 ∨ m = 3 := by
    unfold brOf at hq
    repeat' split at hq
    all_goals first | (cases hq; omega) | cases hq
   have hl := hm.1
   rcases hkk : x.kids with _ | ⟨a, _ | ⟨b, _ | ⟨c, _ | ⟨d, l⟩⟩⟩⟩
   ·rw [hkk] at hl; simp at hl; omega
   ·rw [hkk] at hl; simp at hl; omega
   ·refine ⟨a, [b], rfl, ?_⟩
    rw [hkk] at hl
    simp at hl
    subst hl
    unfold brOf at hq
    repeat' split at hq
    all_goals first | (cases hq; simp [armK, knNs]) | cases hq
   ·refine ⟨a, [b, c], rfl, ?_⟩
    rw [hkk] at hl
    simp at hl
    subst hl
    unfold brOf at hq
    repeat' split at hq
    all_goals first | (cases hq; simp [armK, knNs]; omega) | (cases hq; simp [armK, knNs]) | cases hq
   ·rw [hkk] at hl; simp at hl; omega
  ·cases h
 ·cases h
theorem sendP_kn (x : NodT) (s : CSt) (h : NodT.sizes x.kids ≤ f) (g : okKs x.kids) : KnT s (sendP rec x s) (knNs x.kids) := by
 unfold sendP
 split
 ·exact KnT.fail _ _ _ (by decide) _
 ·rename_i k args hk
  split
  ·rename_i y n hb
   obtain ⟨k', r', e, ha⟩ := br_arms hb
   rw [e] at h g ⊢
   exact (branchP_kn hr y n k' r' s h g).of (by simp only [knNs]; omega)
  ·split
   ·rename_i w a b hl
    unfold isLoop at hl
    split at hl
    ·split at hl
     ·rename_i a' b' hkk
      split at hl
      ·cases hl
       rw [hkk] at h g ⊢
       unfold NodT.sizes NodT.sizes at h
       exact (loopP_kn hr _ _ _ s (by omega) (by omega) g.1 g.2.1).of (by simp [knNs])
      ·cases hl
     ·cases hl
    ·cases hl
   ·rw [hk] at h g ⊢
    have h1 : k.size + NodT.sizes args ≤ f := by unfold NodT.sizes at h; exact h
    exact ((recvP_kn hr k s (by omega) g.1).trans (messP_kn hr _ _ args _ (by omega) g.2)).of (by simp [knNs])
theorem cascsP_kn (op : Int) : ∀ (l : List NodT) (s : CSt), NodT.sizes l ≤ f → okKs l → KnT s (cascsP rec op l s) (knNs l)
 | [], s, _, _ => KnT.refl s
 | m :: r, s, h, g => by
  have hm : m.size + NodT.sizes r ≤ f := by unfold NodT.sizes at h; exact h
  have hmk : NodT.sizes m.kids ≤ f := by have := NodT.size_kids m; omega
  unfold cascsP
  dsimp only
  have h1 : KnT s (if m.kind ≠ 7 then failP s eB 1 else s) (knN m - knNs m.kids) := by
   split
   ·exact KnT.fail _ _ _ (by decide) _
   ·rename_i hk
    have h7 : m.kind = 7 := Decidable.not_not.1 hk
    exact (KnT.refl s).of (by rw [g.1.kn (by omega)]; omega)
  have hge : knNs m.kids ≤ knN m := by rw [knN_def]; omega
  generalize (if m.kind ≠ 7 then failP s eB 1 else s) = s1 at h1
  split
  ·rename_i hl
   have hr0 : r = [] := List.eq_nil_of_length_eq_zero hl
   subst hr0
   exact (h1.trans (messP_kn hr op m.text m.kids s1 hmk g.1.kids)).of (by simp [knNs]; omega)
  ·have a2 := (KnT.emit s1 13 0 0).trans ((messP_kn hr op m.text m.kids (emitP s1 13 0 0) hmk g.1.kids).trans (KnT.emit _ 12 0 0))
   exact ((h1.trans a2).trans (cascsP_kn op r _ (by omega) g.2)).of (by simp [knNs]; omega)
theorem cascP_kn (x : NodT) (s : CSt) (h : NodT.sizes x.kids ≤ f) (g : okKs x.kids) : KnT s (cascP rec x s) (knNs x.kids) := by
 unfold cascP
 split
 ·rename_i k m r hk
  rw [hk] at h g ⊢
  have h1 : k.size + NodT.sizes (m :: r) ≤ f := by unfold NodT.sizes at h; exact h
  exact ((recvP_kn hr k s (by omega) g.1).trans (cascsP_kn hr _ (m :: r) _ (by omega) g.2)).of (by simp [knNs])
 ·exact KnT.fail _ _ _ (by decide) _
theorem stepP_kn (x : NodT) (s : CSt) (h : x.size ≤ f + 1) (g : okK x) : KnT s (stepP rec x s) (knN x) := by
 have hk : NodT.sizes x.kids ≤ f := by have := NodT.size_kids x; omega
 unfold stepP
 split
 ·rename_i he
  exact (KnT.refl s).bad he _
 split
 ·rename_i hq
  exact (((litP_kn x s).trans ((KnT.place _ _).trans (KnT.emit _ _ _ _)))).of (by rw [g.zero (by omega)])
 split
 ·rename_i hq
  exact (varP_kn s _).of (g.zero (by omega)).symm
 split
 ·rename_i hq
  rw [g.kn (by omega)]
  unfold assignP
  split
  ·rename_i k hkk
   have gk := g.kids
   rw [hkk] at hk gk ⊢
   unfold NodT.sizes NodT.sizes at hk
   exact ((hr k s (by omega) gk.1).trans (storeP_kn _ _ _)).of (by simp [knNs])
  ·exact KnT.fail _ _ _ (by decide) _
 split
 ·rename_i hq
  rw [g.kn (by omega)]
  exact sendP_kn hr x s hk g.kids
 split
 ·rename_i hq
  rw [g.kn (by omega)]
  exact cascP_kn hr x s hk g.kids
 split
 ·rename_i hq
  unfold blockP
  dsimp only
  have hb : ∀ s, KnT s (bodyP rec x s) (knN x) := fun s => by
   have h1 := ((declP_kn true x.names s).trans (declP_kn false x.temps _)).trans (stmtsP_kn hr true x.kids _ hk g.kids)
   have h2 : KnT s (if x.kids.length = 0 then emitP (stmtsP rec true x.kids (declP false x.temps (declP true x.names s))) 2 0 0 else (stmtsP rec true x.kids (declP false x.temps (declP true x.names s)))) (knN x) := by
    rw [knN_def]
    exact KnT.ite_ ((h1.trans (KnT.emit _ _ _ _)).of rfl) h1
   exact (h2.trans (KnT.same (t := { (if x.kids.length = 0 then emitP (stmtsP rec true x.kids (declP false x.temps (declP true x.names s))) 2 0 0 else (stmtsP rec true x.kids (declP false x.temps (declP true x.names s)))) with names := s.names }) rfl rfl)).of rfl
  exact (((((KnT.emit s 18 _ _).trans (KnT.emit _ 16 0 0)).trans (hb _)).trans (KnT.emit _ 19 0 0)).trans (KnT.to_ _ _ _ _)).of (by omega)
 split
 ·rename_i hq
  rw [g.kn (by omega)]
  split
  ·rename_i k hkk
   have gk := g.kids
   rw [hkk] at hk gk ⊢
   unfold NodT.sizes NodT.sizes at hk
   exact ((hr k s (by omega) gk.1).trans (KnT.emit _ _ _ _)).of (by simp [knNs])
  ·exact KnT.fail _ _ _ (by decide) _
 ·exact KnT.fail _ _ _ (by decide) _
end
theorem valP_kn : ∀ (f : Nat) (x : NodT) (s : CSt), x.size ≤ f → okK x → KnT s (valP f x s) (knN x)
 | 0, x, s, h, _ => by have := x.size_pos; omega
 | f + 1, x, s, h, g => stepP_kn (valP_kn f) x s h g
theorem wholesP_kn (f : Nat) (value : Bool) : ∀ (l : List NodT) (s : CSt), NodT.sizes l ≤ f → okKs l → KnT s (wholesP (valP f) value l s) (knNs l)
 | [], s, _, _ => by
  unfold wholesP
  exact ((KnT.ite_ (c := value = true) (KnT.emit s 2 0 0) (KnT.emit s 1 0 0)).trans (KnT.emit _ _ _ _)).of rfl
 | k :: r, s, h, g => by
  have h0 : k.size + NodT.sizes r ≤ f := by unfold NodT.sizes at h; exact h
  unfold wholesP
  dsimp only
  have h1 := valP_kn f k s (by omega) g.1
  generalize valP f k s = s1 at h1
  split
  ·rename_i hq
   have hr0 : r = [] := List.eq_nil_of_length_eq_zero hq.1
   subst hr0
   exact h1.of (by simp [knNs])
  split
  ·rename_i hq
   have hr0 : r = [] := List.eq_nil_of_length_eq_zero hq.1
   subst hr0
   exact (h1.trans (KnT.emit _ _ _ _)).of (by simp [knNs])
  split
  ·exact (h1.trans (wholesP_kn f value r _ (by omega) g.2)).of (by simp [knNs])
  ·exact ((h1.trans (KnT.emit s1 12 0 0)).trans (wholesP_kn f value r _ (by omega) g.2)).of (by simp [knNs])
theorem wholeP_kn (f : Nat) (x : NodT) (value : Bool) (s : CSt) (h : x.size ≤ f) (g : okKs x.kids) : KnT s (wholeP (valP f) x value s) (knN x) := by
 rw [knN_def]
 have := NodT.size_kids x
 exact ((declP_kn true x.names s).trans (declP_kn false x.temps _)).trans (wholesP_kn f value x.kids _ (by omega) g)
/-- the parser's nodes -/
structure KR (R : Rc) : Prop where
 expr : ∀ s, okK (R.expr s).1
 prim : ∀ s, okK (R.prim s).1
 bin : ∀ x s, okK x → okK (R.bin x s).1
 kw : ∀ x s, okK x → okK (R.kw x s).1
 msg : ∀ s, okK (R.msg s).1
 lits : ∀ s, okK (R.lits s).1 ∧ knN (R.lits s).1 = 0
 blk : ∀ s, okK (R.blk s).1
 stmts : ∀ s, okKs (R.stmts s).1
theorem ok_leaf (k n : Int) (t : ByteArray) : okK (.node k t n [] [] []) ∧ knN (.node k t n [] [] []) = 0 := by
 refine ⟨?_, by simp [knN, knNs]⟩
 unfold okK
 exact ⟨fun _ => ⟨rfl, rfl⟩, fun _ => rfl, trivial⟩
theorem ok_node {k n : Int} {t : ByteArray} {l : List NodT} (h : okKs l) (hk : ¬ (k = 1 ∨ k = 2 ∨ k = 3 ∨ k = 4 ∨ k = 5)) : okK (.node k t n [] [] l) := by
 unfold okK
 exact ⟨fun _ => ⟨rfl, rfl⟩, fun z => absurd z hk, h⟩
theorem nd0_ok : okK nd0 ∧ knN nd0 = 0 := ok_leaf _ _ _
section
variable {T : Tks}
theorem plain_ok (s : PSt) : okK (plainT T s).1 ∧ knN (plainT T s).1 = 0 := by
 unfold plainT
 repeat' split
 all_goals exact ok_leaf _ _ _
theorem unL_ok : ∀ (g : Nat) (x : NodT) (s : PSt), okK x → okK (unL T g x s).1
 | 0, x, s, h => h
 | g + 1, x, s, h => by
  unfold unL
  split
  ·exact unL_ok g _ _ (ok_node ⟨h, trivial⟩ (by decide))
  ·exact h
theorem un_ok (x : NodT) (s : PSt) (h : okK x) : okK (unT T x s).1 := unL_ok _ x s h
variable {R : Rc} (hr : KR R)
include hr
theorem cascL_ok : ∀ (g : Nat) (l : List NodT) (s : PSt), okKs l → okKs (cascL T R g l s).1
 | 0, l, s, h => h
 | g + 1, l, s, h => by
  unfold cascL
  split
  ·exact cascL_ok g _ _ (okKs_app h ⟨hr.msg _, trivial⟩)
  ·exact h
theorem exprS_ok (s : PSt) : okK (exprS T R s).1 := by
 unfold exprS
 split
 ·exact ok_node ⟨hr.expr _, trivial⟩ (by decide)
 ·dsimp only
  have h3 := hr.kw _ (R.bin (unT T (R.prim s).1 (R.prim s).2).1 (unT T (R.prim s).1 (R.prim s).2).2).2 (hr.bin _ (unT T (R.prim s).1 (R.prim s).2).2 (un_ok (T := T) _ (R.prim s).2 (hr.prim s)))
  generalize R.kw _ (R.bin (unT T (R.prim s).1 (R.prim s).2).1 (unT T (R.prim s).1 (R.prim s).2).2).2 = r3 at h3
  split
  ·split
   ·exact h3
   ·have hk := h3.kids
    refine ok_node (cascL_ok hr _ _ _ ?_) (by decide)
    cases hkk : r3.1.kids with
    | nil => exact ⟨nd0_ok.1, ok_node (by simp [okKs]) (by decide), trivial⟩
    | cons a l =>
     rw [hkk] at hk
     exact ⟨hk.1, ok_node hk.2 (by decide), trivial⟩
  ·exact h3
theorem msgL_ok : ∀ (g : Nat) (t : ByteArray) (l : List NodT) (s : PSt), okKs l → okKs (msgL T R g t l s).2.1
 | 0, t, l, s, h => h
 | g + 1, t, l, s, h => by
  unfold msgL
  split
  ·exact msgL_ok g _ _ _ (okKs_app h ⟨hr.bin _ _ (un_ok _ _ (hr.prim _)), trivial⟩)
  ·exact h
theorem msgS_ok (s : PSt) : okK (msgS T R s).1 := by
 unfold msgS
 split
 ·exact (ok_leaf _ _ _).1
 split
 ·exact ok_node ⟨un_ok _ _ (hr.prim _), trivial⟩ (by decide)
 ·exact ok_node (msgL_ok hr _ _ _ _ trivial) (by decide)
theorem kwS_ok (x : NodT) (s : PSt) (h : okK x) : okK (kwS T R x s).1 := by
 unfold kwS
 split
 ·exact ok_node ⟨h, (hr.msg s).kids⟩ (by decide)
 ·exact h
theorem binL_ok : ∀ (g : Nat) (x : NodT) (s : PSt), okK x → okK (binL T R g x s).1
 | 0, x, s, h => h
 | g + 1, x, s, h => by
  unfold binL
  split
  ·exact binL_ok g _ _ (ok_node ⟨h, un_ok _ _ (hr.prim _), trivial⟩ (by decide))
  ·exact h
theorem primS_ok (s : PSt) : okK (primS T R s).1 := by
 unfold primS
 split
 ·exact nd0_ok.1
 split
 ·exact (plain_ok s).1
 split
 ·exact (ok_leaf _ _ _).1
 split
 ·exact (hr.lits s).1
 split
 ·split
  ·exact hr.expr _
  ·exact nd0_ok.1
 split
 ·exact hr.blk s
 ·exact nd0_ok.1
theorem litOne_ok (s : PSt) : okK (litOne T R s).1 ∧ knN (litOne T R s).1 = 0 := by
 unfold litOne
 split
 ·exact plain_ok s
 split
 ·exact hr.lits s
 ·exact nd0_ok
theorem litsL_ok : ∀ (g : Nat) (l : List NodT) (s : PSt), okKs l → knNs l = 0 → okKs (litsL T R g l s).1 ∧ knNs (litsL T R g l s).1 = 0
 | 0, l, s, h, k => ⟨h, k⟩
 | g + 1, l, s, h, k => by
  unfold litsL
  split
  ·have h1 := litOne_ok (T := T) hr s
   exact litsL_ok g _ _ (okKs_app h ⟨h1.1, trivial⟩) (by rw [knNs_app, k]; simp [knNs, h1.2])
  ·exact ⟨h, k⟩
theorem litsS_ok (s : PSt) : okK (litsS T R s).1 ∧ knN (litsS T R s).1 = 0 := by
 unfold litsS
 dsimp only
 have h1 : okKs (if (openT T s).1 then litsL T R (T.length + 1) [] (openT T s).2 else ([], (openT T s).2)).1 ∧ knNs (if (openT T s).1 then litsL T R (T.length + 1) [] (openT T s).2 else ([], (openT T s).2)).1 = 0 := by
  split
  ·exact litsL_ok hr _ _ _ trivial rfl
  ·exact ⟨trivial, rfl⟩
 refine ⟨?_, by simp [knN]; exact h1.2⟩
 unfold okK
 exact ⟨fun _ => ⟨rfl, rfl⟩, fun _ => h1.2, h1.1⟩
theorem blkS_ok (s : PSt) : okK (blkS T R s).1 := by
 unfold blkS
 split
 ·unfold okK
  exact ⟨fun z => absurd rfl z, fun z => absurd z (by decide), hr.stmts _⟩
 ·unfold okK
  exact ⟨fun z => absurd rfl z, fun z => absurd z (by decide), trivial⟩
theorem stmtsL_ok : ∀ (g : Nat) (l : List NodT) (s : PSt), okKs l → okKs (stmtsL T R g l s).1
 | 0, l, s, h => h
 | g + 1, l, s, h => by
  unfold stmtsL
  split
  ·split
   ·exact okKs_app h ⟨ok_node ⟨hr.expr _, trivial⟩ (by decide), trivial⟩
   ·dsimp only
    split
    ·exact stmtsL_ok g _ _ (okKs_app h ⟨hr.expr _, trivial⟩)
    ·exact okKs_app h ⟨hr.expr _, trivial⟩
  ·exact h
theorem stepR_ok : KR (stepR T R) where
 expr := exprS_ok hr
 prim := primS_ok hr
 bin := fun x s h => binL_ok hr _ x s h
 kw := kwS_ok hr
 msg := msgS_ok hr
 lits := litsS_ok hr
 blk := blkS_ok hr
 stmts := fun s => stmtsL_ok hr _ _ _ trivial
end
theorem rcF_ok (T : Tks) : ∀ f, KR (rcF T f)
 | 0 => ⟨fun _ => nd0_ok.1, fun _ => nd0_ok.1, fun _ _ h => h, fun _ _ h => h, fun _ => nd0_ok.1, fun _ => nd0_ok, fun _ => nd0_ok.1, fun _ => trivial⟩
 | f + 1 => stepR_ok (rcF_ok T f)
theorem readT7_ok (T : Tks) (m : Bool) : okKs (readT7 T m).1.kids := by
 have h : ∀ (t : PSt), okKs ((rcF T (fuelT T)).stmts t).1 := fun t => (rcF_ok T _).stmts t
 have h2 : ∀ (c : Prop) [Decidable c] (a b : NodT × Int × Int), okKs a.1.kids → okKs b.1.kids → okKs (if c then a else b).1.kids := fun c _ a b ha hb => by split <;> assumption
 unfold readT7
 exact h2 _ _ _ trivial (h _)
end Go.Proofs.Ytnojndgmgkgnpaa
