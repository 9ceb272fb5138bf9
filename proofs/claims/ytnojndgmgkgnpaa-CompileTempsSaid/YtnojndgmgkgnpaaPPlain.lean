/- Chapter 10, plain: the reference's parse, as it does it: total functions on the tokens, with fuel. -/
import Derived.Test.YtnojndgmgkgnpaaCPlain
import Derived.Test.YtnojndgmgkgnpaaXPlain
import Derived.Test.YtnojndgmgkgnpaaCGrow
namespace Go.Proofs.Ytnojndgmgkgnpaa
set_option linter.unusedVariables false
set_option linter.unusedSimpArgs false
abbrev Tks := List Lx.ATok
/-- the parser: a place, how deep, an error and where -/
structure PSt where
 i : Nat
 deep : Int
 e : Int
 at_ : Int
abbrev wrp (x : Int) : Int := Go.RowKit.wrap64 x
def tx (t : Lx.ATok) : ByteArray := Lx.strB t.text
def noTok : Lx.ATok := ⟨0, [], 0, 0⟩
def nd0 : NodT := .node 0 eB 0 [] [] []
def ahd (T : Tks) (s : PSt) (k : Nat) : Lx.ATok := if T.length ≤ s.i + k then T.getD (T.length - 1) noTok else T.getD (s.i + k) noTok
def failT (s : PSt) (t : Lx.ATok) (e : Int) : PSt := if s.e = 0 then { s with e := e, at_ := (t.at_ : Int) } else s
def isT (T : Tks) (s : PSt) (k : Int) (text : ByteArray) : Bool := s.e == 0 && ((ahd T s 0).kind == k && (text.toList == [] || (tx (ahd T s 0)).toList == text.toList))
def takeT (s : PSt) : PSt := { s with i := s.i + 1 }
def needT (T : Tks) (s : PSt) (k : Int) (text : ByteArray) : Lx.ATok × PSt := if isT T s k text then (ahd T s 0, takeT s) else (noTok, failT s (ahd T s 0) 13)
abbrev bLess : ByteArray := ⟨#[60]⟩
abbrev bMore : ByteArray := ⟨#[62]⟩
abbrev bPrim : ByteArray := ⟨#[112, 114, 105, 109, 105, 116, 105, 118, 101, 58]⟩
abbrev bDoIt : ByteArray := ⟨#[100, 111, 73, 116]⟩
abbrev bBar : ByteArray := ⟨#[124]⟩
abbrev bHat : ByteArray := ⟨#[94]⟩
abbrev bDot : ByteArray := ⟨#[46]⟩
abbrev bSemi : ByteArray := ⟨#[59]⟩
abbrev bPar : ByteArray := ⟨#[40]⟩
abbrev bRap : ByteArray := ⟨#[41]⟩
abbrev bBra : ByteArray := ⟨#[91]⟩
abbrev bKet : ByteArray := ⟨#[93]⟩
abbrev bMinus : ByteArray := ⟨#[45]⟩
/-- some names, and one more -/
def namesT (T : Tks) (k : Int) (l : List ByteArray) (s : PSt) : List ByteArray × PSt :=
 let n := needT T s k eB
 (l ++ [tx n.1], if n.2.e = 0 ∧ l.length = 4 then failT n.2 n.1 18 else n.2)
/-- names, as long as there are any: g rounds at most -/
def tempsL (T : Tks) : Nat → List ByteArray → PSt → List ByteArray × PSt
 | 0, l, s => (l, s)
 | g + 1, l, s => if isT T s 1 eB then tempsL T g (l ++ [tx (ahd T s 0)]) (takeT s) else (l, s)
def tempsT (T : Tks) (s : PSt) : List ByteArray × PSt :=
 if isT T s 10 bBar then
  let r := tempsL T (T.length + 1) [] (takeT s)
  (r.1, (needT T r.2 10 bBar).2)
 else ([], s)
/-- a number, a string, a symbol -/
def plainT (T : Tks) (s : PSt) : NodT × Bool × PSt :=
 if isT T s 3 bMinus && ((ahd T s 1).kind == 4 && ((ahd T s 1).at_ : Int) == wrp (((ahd T s 0).at_ : Int) + 1)) then (.node 1 eB (wrp (-(ahd T (takeT s) 0).num)) [] [] [], true, takeT (takeT s))
 else if isT T s 4 eB then (.node 1 eB (ahd T s 0).num [] [] [], true, takeT s)
 else if isT T s 5 eB then (.node 2 (tx (ahd T s 0)) 0 [] [] [], true, takeT s)
 else if isT T s 6 eB then (.node 3 (tx (ahd T s 0)) 0 [] [] [], true, takeT s)
 else (nd0, false, s)
/-- a bracket -/
def openT (T : Tks) (s : PSt) : Bool × PSt :=
 if s.deep = 20 then (false, failT (takeT s) (ahd T s 0) 14) else (true, { takeT s with deep := wrp (s.deep + 1) })
def shutT (s : PSt) : PSt := { s with deep := wrp (s.deep - 1) }
def unL (T : Tks) : Nat → NodT → PSt → NodT × PSt
 | 0, x, s => (x, s)
 | g + 1, x, s => if isT T s 1 eB then unL T g (.node 7 (tx (ahd T s 0)) 0 [] [] [x]) (takeT s) else (x, s)
def unT (T : Tks) (x : NodT) (s : PSt) : NodT × PSt := unL T (T.length + 1) x s
/-- the parts that call one another -/
structure Rc where
 expr : PSt → NodT × PSt
 prim : PSt → NodT × PSt
 bin : NodT → PSt → NodT × PSt
 kw : NodT → PSt → NodT × PSt
 msg : PSt → NodT × PSt
 lits : PSt → NodT × PSt
 blk : PSt → NodT × PSt
 stmts : PSt → List NodT × PSt
section
variable (T : Tks) (R : Rc)
def cascL : Nat → List NodT → PSt → List NodT × PSt
 | 0, l, s => (l, s)
 | g + 1, l, s => if isT T s 10 bSemi then cascL g (l ++ [(R.msg (takeT s)).1]) (R.msg (takeT s)).2 else (l, s)
def exprS (s : PSt) : NodT × PSt :=
 if isT T s 1 eB && (ahd T s 1).kind == 9 then
  let r := R.expr (takeT (takeT s))
  (.node 6 (tx (ahd T s 0)) 0 [] [] [r.1], r.2)
 else
  let r0 := R.prim s
  let r1 := unT T r0.1 r0.2
  let r2 := R.bin r1.1 r1.2
  let r3 := R.kw r2.1 r2.2
  if isT T r3.2 10 bSemi then
   if r3.1.kind ≠ 7 then (r3.1, failT r3.2 (ahd T r3.2 0) 13)
   else
    let r := cascL T R (T.length + 1) [r3.1.kids.headD nd0, .node 7 r3.1.text 0 [] [] (r3.1.kids.drop 1)] r3.2
    (.node 8 eB 0 [] [] r.1, r.2)
  else r3
def msgL : Nat → ByteArray → List NodT → PSt → ByteArray × List NodT × PSt
 | 0, t, l, s => (t, l, s)
 | g + 1, t, l, s =>
  if isT T s 2 eB then
   let r0 := R.prim (takeT s)
   let r1 := unT T r0.1 r0.2
   let r2 := R.bin r1.1 r1.2
   msgL g (t ++ tx (ahd T s 0)) (l ++ [r2.1]) r2.2
  else (t, l, s)
def msgS (s : PSt) : NodT × PSt :=
 if isT T s 1 eB then (.node 7 (tx (ahd T s 0)) 0 [] [] [], takeT s)
 else if isT T s 3 eB then
  let r0 := R.prim (takeT s)
  let r1 := unT T r0.1 r0.2
  (.node 7 (tx (ahd T s 0)) 0 [] [] [r1.1], r1.2)
 else
  let s1 := if isT T s 2 eB then s else failT s (ahd T s 0) 13
  let r := msgL T R (T.length + 1) eB [] s1
  (.node 7 r.1 0 [] [] r.2.1, r.2.2)
def kwS (x : NodT) (s : PSt) : NodT × PSt :=
 if isT T s 2 eB then
  let r := R.msg s
  (.node 7 r.1.text 0 [] [] (x :: r.1.kids), r.2)
 else (x, s)
def binL : Nat → NodT → PSt → NodT × PSt
 | 0, x, s => (x, s)
 | g + 1, x, s =>
  if isT T s 3 eB then
   let r0 := R.prim (takeT s)
   let r1 := unT T r0.1 r0.2
   binL g (.node 7 (tx (ahd T s 0)) 0 [] [] [x, r1.1]) r1.2
  else (x, s)
def binS (x : NodT) (s : PSt) : NodT × PSt := binL T R (T.length + 1) x s
def primS (s : PSt) : NodT × PSt :=
 if s.e ≠ 0 then (nd0, s)
 else if (plainT T s).2.1 then ((plainT T s).1, (plainT T s).2.2)
 else if isT T s 1 eB then (.node 5 (tx (ahd T s 0)) 0 [] [] [], takeT s)
 else if isT T s 7 eB then R.lits s
 else if isT T s 10 bPar then
  if (openT T s).1 then
   let r := R.expr (openT T s).2
   (r.1, shutT (needT T r.2 10 bRap).2)
  else (nd0, (openT T s).2)
 else if isT T s 10 bBra then R.blk s
 else (nd0, failT s (ahd T s 0) 13)
/-- one more literal of a row -/
def litOne (s : PSt) : NodT × PSt :=
 if (plainT T s).2.1 then ((plainT T s).1, (plainT T s).2.2)
 else if isT T s 7 eB || isT T s 10 bPar then R.lits s
 else (nd0, failT s (ahd T s 0) 13)
def litsL : Nat → List NodT → PSt → List NodT × PSt
 | 0, l, s => (l, s)
 | g + 1, l, s => if s.e == 0 && !isT T s 10 bRap then litsL g (l ++ [(litOne T R s).1]) (litOne T R s).2 else (l, s)
def litsS (s : PSt) : NodT × PSt :=
 let o := openT T s
 let r := if o.1 then litsL T R (T.length + 1) [] o.2 else ([], o.2)
 (.node 4 eB 0 [] [] r.1, if r.2.e = 0 then shutT (takeT r.2) else r.2)
def parL : Nat → List ByteArray → PSt → List ByteArray × PSt
 | 0, l, s => (l, s)
 | g + 1, l, s => if isT T s 8 eB then parL g (namesT T 8 l s).1 (namesT T 8 l s).2 else (l, s)
def blkS (s : PSt) : NodT × PSt :=
 if (openT T s).1 then
  let r := parL T (T.length + 1) [] (openT T s).2
  let s2 := if 0 < r.1.length ∧ isT T r.2 10 bKet = false then (needT T r.2 10 bBar).2 else r.2
  let t := tempsT T s2
  let k := R.stmts t.2
  (.node 9 eB 0 r.1 t.1 k.1, shutT (needT T k.2 10 bKet).2)
 else (.node 9 eB 0 [] [] [], (openT T s).2)
def stmtsL : Nat → List NodT → PSt → List NodT × PSt
 | 0, l, s => (l, s)
 | g + 1, l, s =>
  if s.e == 0 && (!isT T s 0 eB && !isT T s 10 bKet) then
   if isT T s 10 bHat then
    let r := R.expr (takeT s)
    (l ++ [.node 10 eB 0 [] [] [r.1]], if isT T r.2 10 bDot then takeT r.2 else r.2)
   else
    let r := R.expr s
    if isT T r.2 10 bDot then stmtsL g (l ++ [r.1]) (takeT r.2) else (l ++ [r.1], r.2)
  else (l, s)
def stmtsS (s : PSt) : List NodT × PSt := stmtsL T R (T.length + 1) [] s
def stepR : Rc := ⟨exprS T R, primS T R, binS T R, kwS T R, msgS T R, litsS T R, blkS T R, stmtsS T R⟩
end
def rcF (T : Tks) : Nat → Rc
 | 0 => ⟨fun s => (nd0, failT s noTok 1), fun s => (nd0, failT s noTok 1), fun x s => (x, s), fun x s => (x, s), fun s => (nd0, if s.i < T.length then takeT s else s), fun s => (nd0, failT s noTok 1), fun s => (nd0, failT s noTok 1), fun s => ([], s)⟩
 | f + 1 => stepR T (rcF T f)
/-- keywords of a pattern -/
def headL (T : Tks) : Nat → ByteArray → List ByteArray → PSt → ByteArray × List ByteArray × PSt
 | 0, t, l, s => (t, l, s)
 | g + 1, t, l, s => if isT T s 2 eB then headL T g (t ++ tx (ahd T s 0)) (namesT T 1 l (takeT s)).1 (namesT T 1 l (takeT s)).2 else (t, l, s)
def patT (T : Tks) (s : PSt) : ByteArray × List ByteArray × PSt :=
 if isT T s 1 eB then (tx (ahd T s 0), [], takeT s)
 else if isT T s 3 eB then (tx (ahd T s 0), (namesT T 1 [] (takeT s)).1, (namesT T 1 [] (takeT s)).2)
 else
  let n := needT T s 2 eB
  let m := namesT T 1 [] n.2
  headL T (T.length + 1) (tx n.1) m.1 m.2
/-- pattern and primitive: the text, the names, the number -/
def headT (T : Tks) (s : PSt) : ByteArray × List ByteArray × Int × PSt :=
 let p := patT T s
 if isT T p.2.2 3 bLess then
  let s1 := (needT T (takeT p.2.2) 2 bPrim).2
  let n := needT T s1 4 eB
  let s2 := if 255 < n.1.num then failT n.2 n.1 2 else n.2
  (p.1, p.2.1, n.1.num, (needT T s2 3 bMore).2)
 else (p.1, p.2.1, 0, p.2.2)
def fuelT (T : Tks) : Nat := 8 * T.length + 16
/-- what is read off tokens: a node, where it failed, why -/
def readT7 (T : Tks) (method : Bool) : NodT × Int × Int :=
 let s0 : PSt := ⟨0, 0, 0, 0⟩
 let h := if method then headT T s0 else (bDoIt, [], 0, s0)
 let t := tempsT T h.2.2.2
 let k := (rcF T (fuelT T)).stmts t.2
 let s := (needT T k.2 0 eB).2
 if s.e ≠ 0 then (nd0, s.at_, s.e) else (.node 11 h.1 h.2.2.1 h.2.1 t.1 k.1, 0, 0)
def read7 (s : ByteArray) (method : Bool) : NodT × Int × Int :=
 if 2000 < s.size then (nd0, 0, 12)
 else match Lx.toksV s.data.toList with
  | .err a e => (nd0, a, e)
  | .ok T => readT7 T method
end Go.Proofs.Ytnojndgmgkgnpaa
/- Chapter 10, plain: how far the parser goes, and how great a node becomes. -/
namespace Go.Proofs.Ytnojndgmgkgnpaa
set_option linter.unusedVariables false
set_option linter.unusedSimpArgs false
/-- from s to s': no token is given back; an error stays; none is read behind the end -/
structure Go7 (T : Tks) (s s' : PSt) : Prop where
 le : s.i ≤ s'.i
 top : s.i ≤ T.length → s'.i ≤ T.length
 err : s.e ≠ 0 → s'.e ≠ 0
namespace Go7
variable {T : Tks}
theorem refl (s : PSt) : Go7 T s s := ⟨Nat.le_refl _, id, id⟩
theorem trans {s t u : PSt} (h : Go7 T s t) (g : Go7 T t u) : Go7 T s u := ⟨Nat.le_trans h.le g.le, fun z => g.top (h.top z), fun z => g.err (h.err z)⟩
theorem fail (s : PSt) (t : Lx.ATok) (e : Int) (he : e ≠ 0) : Go7 T s (failT s t e) := by
 unfold failT
 split
 ·exact ⟨Nat.le_refl _, id, fun _ => he⟩
 ·exact refl s
theorem take {s : PSt} (h : s.i < T.length) : Go7 T s (takeT s) := ⟨Nat.le_succ _, fun _ => h, id⟩
theorem shut (s : PSt) : Go7 T s (shutT s) := ⟨Nat.le_refl _, id, id⟩
end Go7
theorem failT_i (s : PSt) (t : Lx.ATok) (e : Int) : (failT s t e).i = s.i := by unfold failT; split <;> rfl
theorem failT_e (s : PSt) (t : Lx.ATok) (e : Int) (he : e ≠ 0) : (failT s t e).e ≠ 0 := by
 unfold failT
 split
 ·exact he
 ·assumption
structure TokPos (T : Tks) : Prop where
 pos : 0 < T.length
 last : (T.getD (T.length - 1) noTok).kind = 0
theorem is_lt {T : Tks} {s : PSt} {k : Int} {text : ByteArray} (h : isT T s k text = true) (hok : TokPos T) (hk : k ≠ 0) : s.i < T.length := by
 unfold isT at h
 simp only [Bool.and_eq_true, beq_iff_eq] at h
 rcases Nat.lt_or_ge s.i T.length with q | q
 ·exact q
 ·have := h.2.1
  unfold ahd at this
  rw [if_pos (by omega), hok.last] at this
  exact absurd this.symm hk
theorem is_e {T : Tks} {s : PSt} {k : Int} {text : ByteArray} (h : isT T s k text = true) : s.e = 0 := by
 unfold isT at h
 simp only [Bool.and_eq_true, beq_iff_eq] at h
 exact h.1
section
variable {T : Tks} (hok : TokPos T)
include hok
theorem need_go (s : PSt) (k : Int) (text : ByteArray) (hk : k ≠ 0) : Go7 T s (needT T s k text).2 := by
 unfold needT
 split
 ·rename_i h
  exact Go7.take (is_lt h hok hk)
 ·exact Go7.fail _ _ _ (by decide)
theorem names_go (s : PSt) (k : Int) (l : List ByteArray) (hk : k ≠ 0) : Go7 T s (namesT T k l s).2 := by
 unfold namesT
 dsimp only
 split
 ·exact (need_go hok s k eB hk).trans (Go7.fail _ _ _ (by decide))
 ·exact need_go hok s k eB hk
theorem tempsL_go : ∀ (g : Nat) (l : List ByteArray) (s : PSt), Go7 T s (tempsL T g l s).2
 | 0, l, s => Go7.refl s
 | g + 1, l, s => by
  unfold tempsL
  split
  ·rename_i h
   exact (Go7.take (is_lt h hok (by decide))).trans (tempsL_go g _ _)
  ·exact Go7.refl s
theorem temps_go (s : PSt) : Go7 T s (tempsT T s).2 := by
 unfold tempsT
 split
 ·rename_i h
  exact ((Go7.take (is_lt h hok (by decide))).trans (tempsL_go hok _ _ _)).trans (need_go hok _ _ _ (by decide))
 ·exact Go7.refl s
/-- what a literal's reading does: one that is there is taken -/
theorem plain_go (s : PSt) : Go7 T s (plainT T s).2.2 ∧ ((plainT T s).2.1 = true → s.i < (plainT T s).2.2.i) ∧ ((plainT T s).2.1 = false → (plainT T s).1 = nd0 ∧ (plainT T s).2.2 = s) ∧ (plainT T s).1.size = 1 ∧ ((plainT T s).1.kind ≠ 7) := by
 have one : ∀ (k n : Int) (t : ByteArray), (NodT.node k t n [] [] []).size = 1 := fun k n t => by unfold NodT.size NodT.sizes; rfl
 have kn : ∀ (k n : Int) (t : ByteArray), k ≠ 7 → (NodT.node k t n [] [] []).kind ≠ 7 := fun _ _ _ h => h
 unfold plainT
 split
 ·rename_i h
  rw [Bool.and_eq_true] at h
  have h1 := is_lt h.1 hok (by decide)
  refine ⟨?_, fun _ => (by show s.i < s.i + 1 + 1; omega), fun z => (by cases z), one _ _ _, kn _ _ _ (by decide)⟩
  by_cases h2 : s.i + 1 < T.length
  ·exact (Go7.take h1).trans (Go7.take h2)
  ·exfalso
   have h3 := h.2
   rw [Bool.and_eq_true] at h3
   have h4 := h3.1
   unfold ahd at h4
   rw [if_pos (by omega), hok.last] at h4
   exact absurd h4 (by decide)
 split
 ·rename_i h
  exact ⟨Go7.take (is_lt h hok (by decide)), fun _ => Nat.lt_succ_self _, fun z => (by cases z), one _ _ _, kn _ _ _ (by decide)⟩
 split
 ·rename_i h
  exact ⟨Go7.take (is_lt h hok (by decide)), fun _ => Nat.lt_succ_self _, fun z => (by cases z), one _ _ _, kn _ _ _ (by decide)⟩
 split
 ·rename_i h
  exact ⟨Go7.take (is_lt h hok (by decide)), fun _ => Nat.lt_succ_self _, fun z => (by cases z), one _ _ _, kn _ _ _ (by decide)⟩
 ·exact ⟨Go7.refl s, fun z => (by cases z), fun _ => ⟨rfl, rfl⟩, one _ _ _, kn _ _ _ (by decide)⟩
omit hok in
theorem open_go {s : PSt} (h : s.i < T.length) : Go7 T s (openT T s).2 ∧ (openT T s).2.i = s.i + 1 ∧ ((openT T s).1 = false → (openT T s).2.e ≠ 0) := by
 unfold openT
 split
 ·exact ⟨(Go7.take h).trans (Go7.fail _ _ _ (by decide)), failT_i _ _ _, fun _ => failT_e _ _ _ (by decide)⟩
 ·exact ⟨⟨Nat.le_succ _, fun _ => h, id⟩, rfl, fun z => (by cases z)⟩
end
/-- a node that a send makes has a receiver -/
def HasK (x : NodT) : Prop := x.kind = 7 → x.kids ≠ []
theorem HasK.of {k : Int} {t : ByteArray} {n : Int} {a b : List ByteArray} {l : List NodT} (h : k ≠ 7 ∨ l ≠ []) : HasK (.node k t n a b l) := fun e => h.elim (fun z => absurd e z) id
theorem nd0_k : HasK nd0 := HasK.of (.inl (by decide))
theorem nd0_size : nd0.size = 1 := by unfold nd0 NodT.size NodT.sizes; rfl
theorem node_size (k : Int) (t : ByteArray) (n : Int) (a b : List ByteArray) (l : List NodT) : (NodT.node k t n a b l).size = 1 + NodT.sizes l := by unfold NodT.size; rfl
theorem sizes_app : ∀ (l r : List NodT), NodT.sizes (l ++ r) = NodT.sizes l + NodT.sizes r
 | [], r => by simp [NodT.sizes]
 | a :: l, r => by simp only [List.cons_append, NodT.sizes, sizes_app l r]; omega
theorem NodT.sizes_two'' {a b : NodT} : NodT.sizes [a, b] = a.size + b.size := by simp [NodT.sizes]
theorem sizes_single (a : NodT) : NodT.sizes [a] = a.size := by simp [NodT.sizes]
/-- how far a part goes, and how great its node is -/
structure Gp (T : Tks) (s : PSt) (r : NodT × PSt) (c : Nat) : Prop where
 go : Go7 T s r.2
 size : r.1.size ≤ c + 6 * (r.2.i - s.i)
 kids : HasK r.1
structure GoR (T : Tks) (R : Rc) : Prop where
 expr : ∀ s, Gp T s (R.expr s) 1
 prim : ∀ s, Gp T s (R.prim s) 1
 bin : ∀ x s, HasK x → Gp T s (R.bin x s) x.size
 kw : ∀ x s, HasK x → Gp T s (R.kw x s) x.size
 msg : ∀ s, Go7 T s (R.msg s).2 ∧ NodT.sizes (R.msg s).1.kids ≤ 6 * ((R.msg s).2.i - s.i) - 5
 msg2 : ∀ s, isT T s 2 eB = true → s.i < (R.msg s).2.i
 exprC : ∀ s, (R.expr s).2.e = 0 → s.i < (R.expr s).2.i
 primC : ∀ s, (R.prim s).2.e = 0 → s.i < (R.prim s).2.i
 litsC : ∀ s, s.i < T.length → (R.lits s).2.e = 0 → s.i < (R.lits s).2.i
 litsB : ∀ s, s.i < T.length → (R.lits s).2.e = 0 → (R.lits s).1.size ≤ 6 * ((R.lits s).2.i - s.i)
 blkC : ∀ s, s.i < T.length → (R.blk s).2.e = 0 → s.i < (R.blk s).2.i
 lits : ∀ s, s.i < T.length → Gp T s (R.lits s) 1
 blk : ∀ s, s.i < T.length → Gp T s (R.blk s) 1
 stmts : ∀ s, Go7 T s (R.stmts s).2 ∧ NodT.sizes (R.stmts s).1 ≤ 6 * ((R.stmts s).2.i - s.i) + 1
section
variable {T : Tks} (hok : TokPos T)
include hok
theorem unL_gp : ∀ (g : Nat) (x : NodT) (s : PSt), HasK x → Gp T s (unL T g x s) x.size
 | 0, x, s, h => ⟨Go7.refl s, by show x.size ≤ _; omega, h⟩
 | g + 1, x, s, h => by
  unfold unL
  split
  ·rename_i hq
   have h1 := unL_gp g (.node 7 (tx (ahd T s 0)) 0 [] [] [x]) (takeT s) (HasK.of (.inr (by simp)))
   have h2 := h1.size
   have h3 := h1.go.le
   rw [node_size, sizes_single] at h2
   have h4 : (takeT s).i = s.i + 1 := rfl
   exact ⟨(Go7.take (is_lt hq hok (by decide))).trans h1.go, by omega, h1.kids⟩
  ·exact ⟨Go7.refl s, by show x.size ≤ _; omega, h⟩
theorem un_gp (x : NodT) (s : PSt) (h : HasK x) : Gp T s (unT T x s) x.size := unL_gp hok _ x s h
variable {R : Rc} (hr : GoR T R)
include hr
theorem cascL_gp : ∀ (g : Nat) (l : List NodT) (s : PSt), Go7 T s (cascL T R g l s).2 ∧ NodT.sizes (cascL T R g l s).1 + 5 * (if isT T s 10 bSemi = true ∧ 0 < g then 1 else 0) ≤ NodT.sizes l + 6 * ((cascL T R g l s).2.i - s.i)
 | 0, l, s => ⟨Go7.refl s, by simp [cascL]⟩
 | g + 1, l, s => by
  unfold cascL
  split
  ·rename_i hq
   have h0 := Go7.take (is_lt hq hok (by decide))
   obtain ⟨m1, m2⟩ := hr.msg (takeT s)
   obtain ⟨h1, h2⟩ := cascL_gp g (l ++ [(R.msg (takeT s)).1]) (R.msg (takeT s)).2
   refine ⟨(h0.trans m1).trans h1, ?_⟩
   rw [sizes_app, sizes_single, NodT.size_kids] at h2
   have h4 : (takeT s).i = s.i + 1 := rfl
   have h5 := m1.le
   have h6 := h1.le
   rw [if_pos ⟨hq, Nat.succ_pos _⟩]
   omega
  ·rename_i hq
   refine ⟨Go7.refl s, ?_⟩
   rw [if_neg (fun z => hq z.1)]
   dsimp only
   omega
theorem exprS_gp (s : PSt) : Gp T s (exprS T R s) 1 := by
 unfold exprS
 split
 ·rename_i hq
  rw [Bool.and_eq_true] at hq
  have hlt := is_lt hq.1 hok (by decide)
  have hlt2 : s.i + 1 < T.length := by
   rcases Nat.lt_or_ge (s.i + 1) T.length with q | q
   ·exact q
   ·have h4 := hq.2
    unfold ahd at h4
    rw [if_pos (by omega), hok.last] at h4
    exact absurd h4 (by decide)
  have h0 := (Go7.take hlt).trans (Go7.take (s := takeT s) hlt2)
  have h1 := hr.expr (takeT (takeT s))
  have h2 := h1.size
  have h3 := h1.go.le
  have h4 : (takeT (takeT s)).i = s.i + 2 := rfl
  refine ⟨h0.trans h1.go, ?_, HasK.of (.inl (by decide))⟩
  dsimp only
  rw [node_size, sizes_single]
  omega
 ·dsimp only
  have h0 := hr.prim s
  generalize R.prim s = r0 at h0
  have h1 := un_gp hok r0.1 r0.2 h0.kids
  generalize unT T r0.1 r0.2 = r1 at h1
  have h2 := hr.bin r1.1 r1.2 h1.kids
  generalize R.bin r1.1 r1.2 = r2 at h2
  have h3 := hr.kw r2.1 r2.2 h2.kids
  generalize R.kw r2.1 r2.2 = r3 at h3
  have hg := ((h0.go.trans h1.go).trans h2.go).trans h3.go
  have l0 := h0.go.le
  have l1 := h1.go.le
  have l2 := h2.go.le
  have l3 := h3.go.le
  have s0 := h0.size
  have s1 := h1.size
  have s2 := h2.size
  have s3 := h3.size
  split
  ·rename_i hs
   split
   ·exact ⟨hg.trans (Go7.fail _ _ _ (by decide)), by rw [failT_i]; dsimp only; omega, h3.kids⟩
   ·rename_i hk
    have hk7 : r3.1.kind = 7 := Decidable.not_not.1 hk
    obtain ⟨c1, c2⟩ := cascL_gp hok hr (T.length + 1) [r3.1.kids.headD nd0, .node 7 r3.1.text 0 [] [] (r3.1.kids.drop 1)] r3.2
    have c3 := c1.le
    refine ⟨hg.trans c1, ?_, HasK.of (.inl (by decide))⟩
    rw [if_pos ⟨hs, Nat.succ_pos _⟩] at c2
    dsimp only
    rw [node_size]
    have hne := h3.kids hk7
    have e9 : NodT.sizes [r3.1.kids.headD nd0, .node 7 r3.1.text 0 [] [] (r3.1.kids.drop 1)] = r3.1.size := by
     rw [NodT.size_kids r3.1]
     cases hkk : r3.1.kids with
     | nil => exact absurd hkk hne
     | cons a l => simp [NodT.sizes, NodT.size]; omega
    rw [e9] at c2
    omega
  ·exact ⟨hg, by omega, h3.kids⟩
theorem msgL_gp : ∀ (g : Nat) (t : ByteArray) (l : List NodT) (s : PSt), Go7 T s (msgL T R g t l s).2.2 ∧ NodT.sizes (msgL T R g t l s).2.1 ≤ NodT.sizes l + (6 * ((msgL T R g t l s).2.2.i - s.i) - 5)
 | 0, t, l, s => ⟨Go7.refl s, by simp [msgL]⟩
 | g + 1, t, l, s => by
  unfold msgL
  split
  ·rename_i hq
   dsimp only
   have h0 := hr.prim (takeT s)
   generalize R.prim (takeT s) = r0 at h0
   have h1 := un_gp hok r0.1 r0.2 h0.kids
   generalize unT T r0.1 r0.2 = r1 at h1
   have h2 := hr.bin r1.1 r1.2 h1.kids
   generalize R.bin r1.1 r1.2 = r2 at h2
   obtain ⟨h3, h4⟩ := msgL_gp g (t ++ tx (ahd T s 0)) (l ++ [r2.1]) r2.2
   have l0 := h0.go.le
   have l1 := h1.go.le
   have l2 := h2.go.le
   have l3 := h3.le
   have s0 := h0.size
   have s1 := h1.size
   have s2 := h2.size
   have h5 : (takeT s).i = s.i + 1 := rfl
   refine ⟨((((Go7.take (is_lt hq hok (by decide))).trans h0.go).trans h1.go).trans h2.go).trans h3, ?_⟩
   rw [sizes_app, sizes_single] at h4
   omega
  ·exact ⟨Go7.refl s, by dsimp only; omega⟩
theorem msgS_gp (s : PSt) : Go7 T s (msgS T R s).2 ∧ NodT.sizes (msgS T R s).1.kids ≤ 6 * ((msgS T R s).2.i - s.i) - 5 := by
 unfold msgS
 split
 ·rename_i hq
  exact ⟨Go7.take (is_lt hq hok (by decide)), by simp [NodT.kids, NodT.sizes]⟩
 split
 ·rename_i hq
  dsimp only
  have h0 := hr.prim (takeT s)
  generalize R.prim (takeT s) = r0 at h0
  have h1 := un_gp hok r0.1 r0.2 h0.kids
  generalize unT T r0.1 r0.2 = r1 at h1
  have l0 := h0.go.le
  have l1 := h1.go.le
  have s0 := h0.size
  have s1 := h1.size
  have h5 : (takeT s).i = s.i + 1 := rfl
  refine ⟨((Go7.take (is_lt hq hok (by decide))).trans h0.go).trans h1.go, ?_⟩
  show NodT.sizes [r1.1] ≤ _
  rw [sizes_single]
  omega
 ·dsimp only
  have h0 : Go7 T s (if isT T s 2 eB then s else failT s (ahd T s 0) 13) ∧ (if isT T s 2 eB then s else failT s (ahd T s 0) 13).i = s.i := by
   split
   ·exact ⟨Go7.refl s, rfl⟩
   ·exact ⟨Go7.fail _ _ _ (by decide), failT_i _ _ _⟩
  generalize (if isT T s 2 eB then s else failT s (ahd T s 0) 13) = s1 at h0
  obtain ⟨h1, h2⟩ := msgL_gp hok hr (T.length + 1) eB [] s1
  refine ⟨h0.1.trans h1, ?_⟩
  show NodT.sizes (msgL T R (T.length + 1) eB [] s1).2.1 ≤ _
  have h3 : NodT.sizes ([] : List NodT) = 0 := rfl
  have h4 := h0.2
  omega
omit hok in
theorem kwS_gp (x : NodT) (s : PSt) (hx : HasK x) : Gp T s (kwS T R x s) x.size := by
 unfold kwS
 split
 ·rename_i hq
  dsimp only
  obtain ⟨h1, h2⟩ := hr.msg s
  refine ⟨h1, ?_, HasK.of (.inr (by simp))⟩
  rw [node_size]
  simp only [NodT.sizes]
  have h3 := hr.msg2 s hq
  omega
 ·exact ⟨Go7.refl s, by dsimp only; omega, hx⟩
theorem binL_gp : ∀ (g : Nat) (x : NodT) (s : PSt), HasK x → Gp T s (binL T R g x s) x.size
 | 0, x, s, h => ⟨Go7.refl s, by show x.size ≤ _; omega, h⟩
 | g + 1, x, s, h => by
  unfold binL
  split
  ·rename_i hq
   dsimp only
   have h0 := hr.prim (takeT s)
   generalize R.prim (takeT s) = r0 at h0
   have h1 := un_gp hok r0.1 r0.2 h0.kids
   generalize unT T r0.1 r0.2 = r1 at h1
   have h2 := binL_gp g (.node 7 (tx (ahd T s 0)) 0 [] [] [x, r1.1]) r1.2 (HasK.of (.inr (by simp)))
   have l0 := h0.go.le
   have l1 := h1.go.le
   have l2 := h2.go.le
   have s0 := h0.size
   have s1 := h1.size
   have s2 := h2.size
   rw [node_size, NodT.sizes_two''] at s2
   have h5 : (takeT s).i = s.i + 1 := rfl
   exact ⟨(((Go7.take (is_lt hq hok (by decide))).trans h0.go).trans h1.go).trans h2.go, by omega, h2.kids⟩
  ·exact ⟨Go7.refl s, by dsimp only; omega, h⟩
theorem primS_gp (s : PSt) : Gp T s (primS T R s) 1 ∧ ((primS T R s).2.e = 0 → s.i < (primS T R s).2.i) := by
 have hp := plain_go hok s
 unfold primS
 split
 ·rename_i he
  exact ⟨⟨Go7.refl s, by show nd0.size ≤ _; rw [nd0_size]; omega, nd0_k⟩, fun z => absurd z he⟩
 split
 ·rename_i hb
  exact ⟨⟨hp.1, by dsimp only; rw [hp.2.2.2.1]; omega, fun e => absurd e hp.2.2.2.2⟩, fun _ => hp.2.1 hb⟩
 split
 ·rename_i hq
  exact ⟨⟨Go7.take (is_lt hq hok (by decide)), by rw [node_size]; simp [NodT.sizes], HasK.of (.inl (by decide))⟩, fun _ => Nat.lt_succ_self _⟩
 split
 ·rename_i hq
  have hlt := is_lt hq hok (by decide)
  exact ⟨hr.lits s hlt, hr.litsC s hlt⟩
 split
 ·rename_i hq
  have hlt := is_lt hq hok (by decide)
  obtain ⟨o1, o2, o3⟩ := open_go hlt
  split
  ·dsimp only
   have h1 := hr.expr (openT T s).2
   generalize R.expr (openT T s).2 = r at h1
   have h2 := need_go hok r.2 10 bRap (by decide)
   have l1 := h1.go.le
   have l2 := h2.le
   have s1 := h1.size
   have e9 : (shutT (needT T r.2 10 bRap).2).i = (needT T r.2 10 bRap).2.i := rfl
   exact ⟨⟨((o1.trans h1.go).trans h2).trans (Go7.shut _), by dsimp only; omega, h1.kids⟩, fun _ => by omega⟩
  ·rename_i hb
   exact ⟨⟨o1, by show nd0.size ≤ _; rw [nd0_size]; omega, nd0_k⟩, fun z => absurd z (o3 (by simpa using hb))⟩
 split
 ·rename_i hq
  have hlt := is_lt hq hok (by decide)
  exact ⟨hr.blk s hlt, hr.blkC s hlt⟩
 ·exact ⟨⟨Go7.fail _ _ _ (by decide), by show nd0.size ≤ _; rw [nd0_size]; omega, nd0_k⟩, fun z => absurd z (failT_e _ _ _ (by decide))⟩
theorem litOne_gp (s : PSt) : Gp T s (litOne T R s) 1 ∧ ((litOne T R s).2.e = 0 → s.i < (litOne T R s).2.i ∧ (litOne T R s).1.size ≤ 6 * ((litOne T R s).2.i - s.i)) := by
 have hp := plain_go hok s
 unfold litOne
 split
 ·rename_i hb
  have h1 := hp.2.1 hb
  exact ⟨⟨hp.1, by dsimp only; rw [hp.2.2.2.1]; omega, fun e => absurd e hp.2.2.2.2⟩, fun _ => ⟨h1, by dsimp only; rw [hp.2.2.2.1]; omega⟩⟩
 split
 ·rename_i hq
  rw [Bool.or_eq_true] at hq
  have hlt : s.i < T.length := hq.elim (fun z => is_lt z hok (by decide)) (fun z => is_lt z hok (by decide))
  exact ⟨hr.lits s hlt, fun z => ⟨hr.litsC s hlt z, hr.litsB s hlt z⟩⟩
 ·exact ⟨⟨Go7.fail _ _ _ (by decide), by show nd0.size ≤ _; rw [nd0_size]; omega, nd0_k⟩, fun z => absurd z (failT_e _ _ _ (by decide))⟩
theorem litsL_gp : ∀ (g : Nat) (l : List NodT) (s : PSt), Go7 T s (litsL T R g l s).2 ∧ NodT.sizes (litsL T R g l s).1 ≤ NodT.sizes l + 6 * ((litsL T R g l s).2.i - s.i) + 1 ∧ ((litsL T R g l s).2.e = 0 → NodT.sizes (litsL T R g l s).1 ≤ NodT.sizes l + 6 * ((litsL T R g l s).2.i - s.i))
 | 0, l, s => ⟨Go7.refl s, by dsimp only [litsL]; omega, fun _ => by dsimp only [litsL]; omega⟩
 | g + 1, l, s => by
  unfold litsL
  split
  ·obtain ⟨h1, h2⟩ := litOne_gp hok hr s
   have l1 := h1.go.le
   have s1 := h1.size
   by_cases he : (litOne T R s).2.e = 0
   ·obtain ⟨h3, h4, h5⟩ := litsL_gp g (l ++ [(litOne T R s).1]) (litOne T R s).2
    rw [sizes_app, sizes_single] at h4 h5
    have l3 := h3.le
    have h6 := (h2 he).2
    exact ⟨h1.go.trans h3, by omega, fun z => by have := h5 z; omega⟩
   ·have hstop : litsL T R g (l ++ [(litOne T R s).1]) (litOne T R s).2 = (l ++ [(litOne T R s).1], (litOne T R s).2) := by
     cases g with
     | zero => rfl
     | succ g =>
      unfold litsL
      rw [if_neg (fun z => by rw [Bool.and_eq_true, beq_iff_eq] at z; exact he z.1)]
    rw [hstop]
    refine ⟨h1.go, ?_, fun z => absurd z he⟩
    dsimp only
    rw [sizes_app, sizes_single]
    omega
  ·exact ⟨Go7.refl s, by dsimp only; omega, fun _ => by dsimp only; omega⟩
theorem litsL_end : ∀ (g : Nat) (l : List NodT) (s : PSt), s.i ≤ T.length → T.length < g + s.i → (litsL T R g l s).2.e = 0 → isT T (litsL T R g l s).2 10 bRap = true
 | 0, l, s, h1, h2, _ => by omega
 | g + 1, l, s, h1, h2, h3 => by
  unfold litsL at h3 ⊢
  split at h3
  ·rename_i hc
   rw [if_pos hc]
   obtain ⟨k1, k2⟩ := litOne_gp hok hr s
   by_cases he : (litOne T R s).2.e = 0
   ·exact litsL_end g _ _ (k1.go.top h1) (by have := (k2 he).1; omega) h3
   ·exact absurd h3 ((litsL_gp hok hr g _ _).1.err he)
  ·rename_i hc
   rw [if_neg hc]
   dsimp only at h3 ⊢
   cases hq : isT T s 10 bRap with
   | true => rfl
   | false => exact absurd (by rw [h3, hq]; rfl) hc
theorem litsS_gp (s : PSt) (hlt : s.i < T.length) : Gp T s (litsS T R s) 1 ∧ ((litsS T R s).2.e = 0 → s.i < (litsS T R s).2.i ∧ (litsS T R s).1.size ≤ 6 * ((litsS T R s).2.i - s.i)) := by
 obtain ⟨o1, o2, o3⟩ := open_go hlt
 have h30 : NodT.sizes ([] : List NodT) = 0 := rfl
 unfold litsS
 dsimp only
 cases ho : (openT T s).1 with
 | false =>
  have he := o3 ho
  simp only [Bool.false_eq_true, if_false]
  rw [if_neg he]
  exact ⟨⟨o1, by dsimp only; rw [node_size]; omega, HasK.of (.inl (by decide))⟩, fun z => absurd z he⟩
 | true =>
  simp only [if_true]
  obtain ⟨h1, h2, h3⟩ := litsL_gp hok hr (T.length + 1) [] (openT T s).2
  have h4 := litsL_end hok hr (T.length + 1) [] (openT T s).2 (by omega) (by omega)
  generalize litsL T R (T.length + 1) [] (openT T s).2 = r at h1 h2 h3 h4
  have l1 := h1.le
  split
  ·rename_i he
   have h5 := is_lt (h4 he) hok (by decide)
   have h6 := h3 he
   have e9 : (shutT (takeT r.2)).i = r.2.i + 1 := rfl
   refine ⟨⟨(o1.trans h1).trans ((Go7.take h5).trans (Go7.shut _)), ?_, HasK.of (.inl (by decide))⟩, fun _ => ⟨by rw [e9]; omega, ?_⟩⟩
   ·try dsimp only
    rw [node_size, e9]
    omega
   ·try dsimp only
    rw [node_size, e9]
    omega
  ·rename_i he
   refine ⟨⟨o1.trans h1, ?_, HasK.of (.inl (by decide))⟩, fun z => absurd z he⟩
   dsimp only
   rw [node_size]
   omega
omit hr in
theorem parL_go : ∀ (g : Nat) (l : List ByteArray) (s : PSt), Go7 T s (parL T g l s).2
 | 0, l, s => Go7.refl s
 | g + 1, l, s => by
  unfold parL
  split
  ·exact (names_go hok s 8 l (by decide)).trans (parL_go g _ _)
  ·exact Go7.refl s
theorem blkS_gp (s : PSt) (hlt : s.i < T.length) : Gp T s (blkS T R s) 1 ∧ ((blkS T R s).2.e = 0 → s.i < (blkS T R s).2.i) := by
 obtain ⟨o1, o2, o3⟩ := open_go hlt
 unfold blkS
 split
 ·dsimp only
  have h1 := parL_go hok (T.length + 1) [] (openT T s).2
  generalize parL T (T.length + 1) [] (openT T s).2 = r at h1
  have h2 : Go7 T r.2 (if 0 < r.1.length ∧ isT T r.2 10 bKet = false then (needT T r.2 10 bBar).2 else r.2) := by
   split
   ·exact need_go hok _ _ _ (by decide)
   ·exact Go7.refl _
  generalize (if 0 < r.1.length ∧ isT T r.2 10 bKet = false then (needT T r.2 10 bBar).2 else r.2) = s2 at h2
  have h3 := temps_go hok s2
  generalize tempsT T s2 = t at h3
  obtain ⟨h4, h5⟩ := hr.stmts t.2
  generalize R.stmts t.2 = k at h4 h5
  have h6 := need_go hok k.2 10 bKet (by decide)
  have l1 := h1.le
  have l2 := h2.le
  have l3 := h3.le
  have l4 := h4.le
  have l6 := h6.le
  have e9 : (shutT (needT T k.2 10 bKet).2).i = (needT T k.2 10 bKet).2.i := rfl
  refine ⟨⟨(((((o1.trans h1).trans h2).trans h3).trans h4).trans h6).trans (Go7.shut _), ?_, HasK.of (.inl (by decide))⟩, fun _ => by omega⟩
  dsimp only
  rw [node_size, e9]
  omega
 ·rename_i ho
  exact ⟨⟨o1, by rw [node_size]; simp [NodT.sizes], HasK.of (.inl (by decide))⟩, fun z => absurd z (o3 (by simpa using ho))⟩
theorem exprS_c (s : PSt) (he : (exprS T R s).2.e = 0) : s.i < (exprS T R s).2.i := by
 unfold exprS at he ⊢
 split at he
 ·rename_i hq
  rw [if_pos hq]
  have h1 := (hr.expr (takeT (takeT s))).go.le
  have h4 : (takeT (takeT s)).i = s.i + 2 := rfl
  dsimp only
  omega
 ·rename_i hq
  rw [if_neg hq]
  dsimp only at he ⊢
  have h0 := hr.prim s
  have h00 := hr.primC s
  generalize R.prim s = r0 at h0 h00 he
  have h1 := un_gp hok r0.1 r0.2 h0.kids
  generalize unT T r0.1 r0.2 = r1 at h1 he
  have h2 := hr.bin r1.1 r1.2 h1.kids
  generalize R.bin r1.1 r1.2 = r2 at h2 he
  have h3 := hr.kw r2.1 r2.2 h2.kids
  generalize R.kw r2.1 r2.2 = r3 at h3 he
  have key : ∀ s9 : PSt, Go7 T r3.2 s9 → s9.e = 0 → s.i < s9.i := fun s9 g9 e9 => by
   have h9 : r0.2.e = 0 := by
    rcases Decidable.em (r0.2.e = 0) with q | q
    ·exact q
    ·exact absurd e9 ((((h1.go.trans h2.go).trans h3.go).trans g9).err q)
   have := h00 h9
   have := h1.go.le
   have := h2.go.le
   have := h3.go.le
   have := g9.le
   omega
  by_cases hs : isT T r3.2 10 bSemi = true
  ·rw [if_pos hs] at he ⊢
   by_cases hk : r3.1.kind ≠ 7
   ·rw [if_pos hk] at he
    exact absurd he (failT_e _ _ _ (by decide))
   ·rw [if_neg hk] at he ⊢
    exact key _ (cascL_gp hok hr _ _ _).1 he
  ·rw [if_neg hs] at he ⊢
   exact key _ (Go7.refl _) he
theorem stmtsL_gp : ∀ (g : Nat) (l : List NodT) (s : PSt), Go7 T s (stmtsL T R g l s).2 ∧ NodT.sizes (stmtsL T R g l s).1 ≤ NodT.sizes l + 6 * ((stmtsL T R g l s).2.i - s.i) + 1
 | 0, l, s => ⟨Go7.refl s, by dsimp only [stmtsL]; omega⟩
 | g + 1, l, s => by
  unfold stmtsL
  split
  ·split
   ·rename_i hq
    dsimp only
    have h0 := Go7.take (is_lt hq hok (by decide))
    have h1 := hr.expr (takeT s)
    generalize R.expr (takeT s) = r at h1
    have h5 : (takeT s).i = s.i + 1 := rfl
    have l1 := h1.go.le
    have s1 := h1.size
    have h2 : Go7 T r.2 (if isT T r.2 10 bDot then takeT r.2 else r.2) := by
     split
     ·rename_i hd
      exact Go7.take (is_lt hd hok (by decide))
     ·exact Go7.refl _
    have l2 := h2.le
    refine ⟨(h0.trans h1.go).trans h2, ?_⟩
    rw [sizes_app, sizes_single, node_size, sizes_single]
    omega
   ·dsimp only
    have h1 := hr.expr s
    generalize R.expr s = r at h1
    have l1 := h1.go.le
    have s1 := h1.size
    split
    ·rename_i hd
     obtain ⟨h3, h4⟩ := stmtsL_gp g (l ++ [r.1]) (takeT r.2)
     have l3 := h3.le
     have h5 : (takeT r.2).i = r.2.i + 1 := rfl
     rw [sizes_app, sizes_single] at h4
     exact ⟨(h1.go.trans (Go7.take (is_lt hd hok (by decide)))).trans h3, by omega⟩
    ·refine ⟨h1.go, ?_⟩
     dsimp only
     rw [sizes_app, sizes_single]
     omega
  ·exact ⟨Go7.refl s, by dsimp only; omega⟩
theorem msgS_2 (s : PSt) (h : isT T s 2 eB = true) : s.i < (msgS T R s).2.i := by
 unfold msgS
 have hk : ∀ k : Int, k ≠ 2 → isT T s k eB = false := fun k hk => by
  cases hq : isT T s k eB with
  | false => rfl
  | true =>
   unfold isT at h hq
   simp only [Bool.and_eq_true, beq_iff_eq] at h hq
   exact absurd (hq.2.1.symm.trans h.2.1) hk
 rw [if_neg (by rw [hk 1 (by decide)]; decide), if_neg (by rw [hk 3 (by decide)]; decide)]
 dsimp only
 rw [if_pos h]
 show s.i < (msgL T R (T.length + 1) eB [] s).2.2.i
 unfold msgL
 rw [if_pos h]
 dsimp only
 have h0 := hr.prim (takeT s)
 have h1 := un_gp hok (R.prim (takeT s)).1 (R.prim (takeT s)).2 h0.kids
 have h2 := hr.bin _ (unT T (R.prim (takeT s)).1 (R.prim (takeT s)).2).2 h1.kids
 have h3 := (msgL_gp hok hr T.length (eB ++ tx (ahd T s 0)) ([] ++ [(R.bin (unT T (R.prim (takeT s)).1 (R.prim (takeT s)).2).1 (unT T (R.prim (takeT s)).1 (R.prim (takeT s)).2).2).1]) (R.bin (unT T (R.prim (takeT s)).1 (R.prim (takeT s)).2).1 (unT T (R.prim (takeT s)).1 (R.prim (takeT s)).2).2).2).1.le
 have l0 := h0.go.le
 have l1 := h1.go.le
 have l2 := h2.go.le
 have h5 : (takeT s).i = s.i + 1 := rfl
 omega
theorem stepR_go : GoR T (stepR T R) where
 expr := exprS_gp hok hr
 prim := fun s => (primS_gp hok hr s).1
 bin := fun x s h => binL_gp hok hr _ x s h
 kw := kwS_gp hr
 msg := msgS_gp hok hr
 msg2 := msgS_2 hok hr
 exprC := exprS_c hok hr
 primC := fun s => (primS_gp hok hr s).2
 litsC := fun s h z => ((litsS_gp hok hr s h).2 z).1
 litsB := fun s h z => ((litsS_gp hok hr s h).2 z).2
 blkC := fun s h => (blkS_gp hok hr s h).2
 lits := fun s h => (litsS_gp hok hr s h).1
 blk := fun s h => (blkS_gp hok hr s h).1
 stmts := fun s => by
  have h := stmtsL_gp hok hr (T.length + 1) [] s
  have h3 : NodT.sizes ([] : List NodT) = 0 := rfl
  exact ⟨h.1, by have := h.2; show NodT.sizes (stmtsL T R (T.length + 1) [] s).1 ≤ 6 * ((stmtsL T R (T.length + 1) [] s).2.i - s.i) + 1; omega⟩
end
theorem rcF_go {T : Tks} (hok : TokPos T) : ∀ f, GoR T (rcF T f)
 | 0 => by
  have hf : ∀ s : PSt, Gp T s (nd0, failT s noTok 1) 1 := fun s => ⟨Go7.fail _ _ _ (by decide), by show nd0.size ≤ _; rw [nd0_size]; omega, nd0_k⟩
  have he : ∀ s : PSt, (failT s noTok 1).e = 0 → s.i < (failT s noTok 1).i := fun s z => absurd z (failT_e _ _ _ (by decide))
  have hx : ∀ (x : NodT) (s : PSt), HasK x → Gp T s (x, s) x.size := fun x s h => ⟨Go7.refl s, by show x.size ≤ _; omega, h⟩
  exact {
   expr := hf, prim := hf, bin := hx, kw := hx,
   msg := fun s => by
    refine ⟨?_, by show NodT.sizes [] ≤ _; simp [NodT.sizes]⟩
    show Go7 T s (if s.i < T.length then takeT s else s)
    split
    ·rename_i h; exact Go7.take h
    ·exact Go7.refl s
   msg2 := fun s h => by
    show s.i < (if s.i < T.length then takeT s else s).i
    rw [if_pos (is_lt h hok (by decide))]
    exact Nat.lt_succ_self _
   exprC := he, primC := he, litsC := fun s _ => he s, litsB := fun s _ z => absurd z (failT_e _ _ _ (by decide)), blkC := fun s _ => he s
   lits := fun s _ => hf s, blk := fun s _ => hf s
   stmts := fun s => ⟨Go7.refl s, by show NodT.sizes [] ≤ _; simp [NodT.sizes]⟩ }
 | f + 1 => stepR_go hok (rcF_go hok f)
end Go.Proofs.Ytnojndgmgkgnpaa
