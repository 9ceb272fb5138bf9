/- Chapter 10, plain: what a node's code is, as the program makes it, with all that it does behind an error. -/
import Derived.Test.YtnojndgmgkgnpaaBase
namespace Go.Proofs.Ytnojndgmgkgnpaa
set_option linter.unusedVariables false
set_option linter.unusedSimpArgs false
/-- a name that is known: kind 1: a field, 2: a temporary, 3: one that may not be given a value -/
structure Nm where
 name : ByteArray
 kind : Int
 at_ : Int
inductive NodT where
 | node (kind : Int) (text : ByteArray) (num : Int) (names temps : List ByteArray) (kids : List NodT)
namespace NodT
def kind : NodT → Int | node k _ _ _ _ _ => k
def text : NodT → ByteArray | node _ t _ _ _ _ => t
def num : NodT → Int | node _ _ n _ _ _ => n
def names : NodT → List ByteArray | node _ _ _ l _ _ => l
def temps : NodT → List ByteArray | node _ _ _ _ l _ => l
def kids : NodT → List NodT | node _ _ _ _ _ l => l
mutual
def size : NodT → Nat
 | node _ _ _ _ _ ks => 1 + sizes ks
def sizes : List NodT → Nat
 | [] => 0
 | k :: ks => size k + sizes ks
end
theorem size_pos : ∀ x : NodT, 1 ≤ x.size
 | node _ _ _ _ _ ks => by unfold size; omega
theorem size_kids (x : NodT) : x.size = 1 + sizes x.kids := by cases x; unfold size; rfl
theorem size_mem : ∀ {l : List NodT} {k : NodT}, k ∈ l → k.size ≤ sizes l
 | a :: l, k, h => by
  unfold sizes
  rcases List.mem_cons.1 h with rfl | q
  ·omega
  ·have := size_mem q; omega
theorem size_kid {x k : NodT} (h : k ∈ x.kids) : k.size < x.size := by rw [size_kids x]; have := size_mem h; omega
end NodT
/-- a method under way: what is known, its temporaries, literals, code; an error, and its name -/
structure CSt where
 names : List Nm
 temps : Nat
 lits : List LitT
 code : List Ins
 ename : ByteArray
 err : Int
abbrev eB : ByteArray := ⟨#[]⟩
/-- the bytes of the names that say themselves, and of what is done in line -/
def bSelf : List UInt8 := [115, 101, 108, 102]
def bSuper : List UInt8 := [115, 117, 112, 101, 114]
def bNil : List UInt8 := [110, 105, 108]
def bTrue : List UInt8 := [116, 114, 117, 101]
def bFalse : List UInt8 := [102, 97, 108, 115, 101]
def bContext : List UInt8 := [116, 104, 105, 115, 67, 111, 110, 116, 101, 120, 116]
def bIfTrue : List UInt8 := [105, 102, 84, 114, 117, 101, 58]
def bIfFalse : List UInt8 := [105, 102, 70, 97, 108, 115, 101, 58]
def bAnd : List UInt8 := [97, 110, 100, 58]
def bOr : List UInt8 := [111, 114, 58]
def bWhileTrue : List UInt8 := [119, 104, 105, 108, 101, 84, 114, 117, 101, 58]
def bWhileFalse : List UInt8 := [119, 104, 105, 108, 101, 70, 97, 108, 115, 101, 58]
def ownN (s : ByteArray) : Bool := s.toList == bSelf || s.toList == bSuper || s.toList == bNil || s.toList == bTrue || s.toList == bFalse || s.toList == bContext
/-- is it a class's name? -/
def classN (s : ByteArray) : Bool := match s.toList with
 | [] => false
 | c :: _ => decide (65 ≤ c.toNat) && decide (c.toNat ≤ 90)
def findN (l : List Nm) (s : ByteArray) : Option Nm := l.find? (fun k => k.name.toList == s.toList)
def failP (s : CSt) (name : ByteArray) (e : Int) : CSt := if s.err = 0 then { s with ename := name, err := e } else s
def emitP (s : CSt) (op a b : Int) : CSt := { s with code := s.code ++ [⟨op, a, b⟩] }
def toP (s : CSt) (at_ : Nat) (op : Int) (target : Nat) : CSt := { s with code := s.code.set at_ ⟨op, ((target % 256 : Nat) : Int), ((target / 256 : Nat) : Int)⟩ }
def addP (s : CSt) (n : ByteArray) (fixed : Bool) : CSt := { s with names := s.names ++ [⟨n, if fixed then 3 else 2, (s.temps : Int)⟩], temps := s.temps + 1 }
/-- a name is declared: what is wrong with it -/
def badD (s : CSt) (n : ByteArray) : CSt :=
 let s1 := if (findN s.names n).isSome || ownN n then failP s n 16 else s
 if s1.temps = 24 then failP s1 n 18 else s1
def declP (fixed : Bool) : List ByteArray → CSt → CSt
 | [], s => s
 | n :: r, s => if (badD s n).err ≠ 0 then badD s n else declP fixed r (addP (badD s n) n fixed)
mutual
def sameL : LitT → LitT → Bool
 | .node k s n ks, .node k' s' n' ks' => k == k' && s.toList == s'.toList && n == n' && sameLs ks ks'
def sameLs : List LitT → List LitT → Bool
 | [], [] => true
 | a :: l, b :: r => sameL a b && sameLs l r
 | _, _ => false
end
/-- where a literal stands, put behind the others if it is none of them -/
def placeP (s : CSt) (l : LitT) : Nat × CSt := match s.lits.findIdx? (fun k => sameL k l) with
 | some i => (i, s)
 | none => (s.lits.length, { s with lits := s.lits ++ [l] })
def symP (s : CSt) (t : ByteArray) : Nat × CSt := placeP s (.node 3 t 0 [])
mutual
def litP : NodT → CSt → LitT × CSt
 | .node k t n _ _ ks, s =>
  if k = 1 then (.node 1 eB n [], s)
  else if k = 2 then (.node 2 t 0 [], s)
  else if k = 3 then (.node 3 t 0 [], s)
  else if k = 4 then (.node 4 eB 0 (litsP ks s).1, (litsP ks s).2)
  else (.node 0 eB 0 [], failP s eB 1)
def litsP : List NodT → CSt → List LitT × CSt
 | [], s => ([], s)
 | x :: r, s => ((litP x s).1 :: (litsP r (litP x s).2).1, (litsP r (litP x s).2).2)
end
def varP (s : CSt) (n : ByteArray) : CSt :=
 if n.toList = bSelf then emitP s 1 0 0
 else if n.toList = bNil then emitP s 2 0 0
 else if n.toList = bTrue then emitP s 3 0 0
 else if n.toList = bFalse then emitP s 4 0 0
 else if n.toList = bContext then emitP s 5 0 0
 else
  let s1 := if n.toList = bSuper then failP s n 15 else s
  match findN s1.names n with
  | some k => if k.kind = 1 then emitP s1 8 k.at_ 0 else emitP s1 7 k.at_ 0
  | none => if classN n then emitP (symP s1 n).2 9 (symP s1 n).1 0 else failP s1 n 15
section
variable (rec : NodT → CSt → CSt)
def storeP (s : CSt) (k : Option Nm) (n : ByteArray) : CSt :=
 match k with
 | none => if !ownN n && !classN n then failP s n 15 else failP s n 17
 | some k => if k.kind = 3 || ownN n then failP s n 17 else if k.kind = 1 then emitP s 11 k.at_ 0 else emitP s 10 k.at_ 0
def assignP (x : NodT) (s : CSt) : CSt := match x.kids with
 | [k] => storeP (rec k s) (findN s.names x.text) x.text
 | _ => failP s eB 1
def superN (x : NodT) : Bool := decide (x.kind = 5) && (x.text.toList == bSuper)
def plainN (x : NodT) : Bool := decide (x.kind = 9) && decide (x.names.length = 0)
def recvP (x : NodT) (s : CSt) : Int × CSt := if superN x then (15, emitP s 1 0 0) else (14, rec x s)
def argsP : List NodT → CSt → CSt
 | [], s => s
 | a :: r, s => argsP r (rec a s)
def messP (op : Int) (sel : ByteArray) (args : List NodT) (s : CSt) : CSt :=
 emitP (symP (argsP rec args s) sel).2 op (symP (argsP rec args s) sel).1 args.length
/-- the statements of a block; first: none stands ahead -/
def stmtsP : Bool → List NodT → CSt → CSt
 | _, [], s => s
 | first, k :: r, s =>
  let s1 := rec k (if first then s else emitP s 12 0 0)
  stmtsP false r (if k.kind = 10 then emitP s1 2 0 0 else s1)
def bodyP (x : NodT) (s : CSt) : CSt :=
 let s1 := stmtsP rec true x.kids (declP false x.temps (declP true x.names s))
 let s2 := if x.kids.length = 0 then emitP s1 2 0 0 else s1
 { s2 with names := s.names }
/-- what is done in line by a condition: an operation, or the block at a place; and how many kids there must be -/
inductive Arm where
 | op (o : Int)
 | kid (i : Nat)
def brOf (t : ByteArray) : Option (Arm × Arm × Nat) :=
 if t.toList = bIfTrue then some (.kid 1, .op 2, 2)
 else if t.toList = bIfFalse then some (.op 2, .kid 1, 2)
 else if t.toList = bAnd then some (.kid 1, .op 4, 2)
 else if t.toList = bOr then some (.op 3, .kid 1, 2)
 else if t.toList = bIfTrue ++ bIfFalse then some (.kid 1, .kid 2, 3)
 else if t.toList = bIfFalse ++ bIfTrue then some (.kid 2, .kid 1, 3)
 else none
def armP (a : Arm) (kids : List NodT) (s : CSt) : CSt := match a with
 | .op o => emitP s o 0 0
 | .kid i => match kids[i]? with
  | some k => bodyP rec k s
  | none => s
def branchP (yes no : Arm) (kids : List NodT) (s : CSt) : CSt :=
 let s1 := match kids with | k :: _ => rec k s | [] => s
 let s2 := armP rec yes kids (emitP s1 17 0 0)
 let s3 := emitP s2 16 0 0
 let s4 := armP rec no kids (toP s3 s1.code.length 17 s3.code.length)
 toP s4 s2.code.length 16 s4.code.length
def loopP (whil : Bool) (k0 k1 : NodT) (s : CSt) : CSt :=
 let s1 := bodyP rec k0 s
 let s2 := emitP s1 17 0 0
 let s3 := if whil then s2 else toP (emitP s2 16 0 0) s1.code.length 17 (s2.code.length + 1)
 let s4 := emitP (bodyP rec k1 s3) 12 0 0
 let s5 := toP (emitP s4 16 0 0) s4.code.length 16 s.code.length
 let s6 := if whil then toP s5 s1.code.length 17 s5.code.length else toP s5 s2.code.length 16 s5.code.length
 emitP s6 2 0 0
/-- is a send done in line by a condition? -/
def isBr (x : NodT) : Option (Arm × Arm) := match brOf x.text with
 | some (y, n, m) => if x.kids.length = m ∧ (x.kids.drop 1).all plainN = true then some (y, n) else none
 | none => none
def isLoop (x : NodT) : Option (Bool × NodT × NodT) :=
 if x.text.toList = bWhileTrue ∨ x.text.toList = bWhileFalse then
  match x.kids with
  | [a, b] => if plainN a && plainN b then some (decide (x.text.toList = bWhileTrue), a, b) else none
  | _ => none
 else none
def sendP (x : NodT) (s : CSt) : CSt := match x.kids with
 | [] => failP s eB 1
 | k :: args => match isBr x with
  | some (y, n) => branchP rec y n x.kids s
  | none => match isLoop x with
   | some (w, a, b) => loopP rec w a b s
   | none => messP rec (recvP rec k s).1 x.text args (recvP rec k s).2
/-- the messages of a cascade -/
def cascsP (op : Int) : List NodT → CSt → CSt
 | [], s => s
 | m :: r, s =>
  let s1 := if m.kind ≠ 7 then failP s eB 1 else s
  if r.length = 0 then messP rec op m.text m.kids s1
  else cascsP op r (emitP (messP rec op m.text m.kids (emitP s1 13 0 0)) 12 0 0)
def cascP (x : NodT) (s : CSt) : CSt := match x.kids with
 | k :: m :: r => cascsP rec (recvP rec k s).1 (m :: r) (recvP rec k s).2
 | _ => failP s eB 1
def blockP (x : NodT) (s : CSt) : CSt :=
 let s1 := emitP s 18 s.temps x.names.length
 let s2 := emitP (bodyP rec x (emitP s1 16 0 0)) 19 0 0
 toP s2 s1.code.length 16 s2.code.length
def stepP (x : NodT) (s : CSt) : CSt :=
 if s.err ≠ 0 then s
 else if x.kind = 1 ∨ x.kind = 2 ∨ x.kind = 3 ∨ x.kind = 4 then emitP (placeP (litP x s).2 (litP x s).1).2 6 (placeP (litP x s).2 (litP x s).1).1 0
 else if x.kind = 5 then varP s x.text
 else if x.kind = 6 then assignP rec x s
 else if x.kind = 7 then sendP rec x s
 else if x.kind = 8 then cascP rec x s
 else if x.kind = 9 then blockP rec x s
 else if x.kind = 10 then (match x.kids with | [k] => emitP (rec k s) 20 0 0 | _ => failP s eB 1)
 else failP s eB 1
/-- a method's statements; what stands behind -/
def wholesP (value : Bool) : List NodT → CSt → CSt
 | [], s => emitP (if value then emitP s 2 0 0 else emitP s 1 0 0) 20 0 0
 | k :: r, s =>
  let s1 := rec k s
  if r.length = 0 ∧ k.kind = 10 then s1
  else if r.length = 0 ∧ value = true then emitP s1 20 0 0
  else if k.kind = 10 then wholesP value r s1
  else wholesP value r (emitP s1 12 0 0)
def wholeP (x : NodT) (value : Bool) (s : CSt) : CSt := wholesP rec value x.kids (declP false x.temps (declP true x.names s))
end
def valP : Nat → NodT → CSt → CSt
 | 0, _, s => s
 | f + 1, x, s => stepP (valP f) x s
def fieldsN (fields : List ByteArray) : List Nm := fields.mapIdx (fun i f => ⟨f, 1, (i : Int)⟩)
def startC (fields : List ByteArray) : CSt := ⟨fieldsN fields, 0, [], [], eB, 0⟩
/-- a method, or why there is none -/
structure MetT where
 sel : ByteArray
 args : Nat
 temps : Nat
 prim : Int
 lits : List LitT
 code : List Ins
def noMet : MetT := ⟨eB, 0, 0, 0, [], []⟩
def readC (f : Nat) (x : NodT) (fields : List ByteArray) (value : Bool) : MetT × ByteArray × Int :=
 if x.kind ≠ 11 ∨ 8 < fields.length then (noMet, eB, 1)
 else
  let s := wholeP (valP f) x value (startC fields)
  if s.err ≠ 0 then (noMet, s.ename, s.err)
  else if 60 < s.lits.length then (noMet, eB, 18)
  else if 400 < s.code.length then (noMet, eB, 12)
  else if s.code.all mayB then (⟨x.text, x.names.length, s.temps, x.num, s.lits, s.code⟩, eB, 0)
  else (noMet, eB, 12)
end Go.Proofs.Ytnojndgmgkgnpaa
