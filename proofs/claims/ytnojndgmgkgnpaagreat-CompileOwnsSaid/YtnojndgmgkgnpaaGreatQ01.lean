/- Chapter 10: words and contracts for the law. -/
import Derived.Test.YtnojndgmgkgnpaaGreatQ00
import Derived.Maps.AppendAt
import Derived.Deep.RegionLaw
import Derived.Deep.RegionLawGrows
import Derived.Deep.RegionHeld3
import Derived.Deep.RegionWith
import Derived.Deep.CutBlock
set_option maxRecDepth 100000
set_option maxHeartbeats 40000000
set_option linter.unusedVariables false
set_option linter.unusedSimpArgs false
namespace Go.Proofs.YtnojndgmgkgnpaaGreat
abbrev Tks:=List Lx.ATok
structure PSt where
 i:Nat
 deep:Int
 e:Int
 at_:Int
abbrev wrp (x:Int):Int:=Go.RowKit.wrap64 x
def tx (t:Lx.ATok):ByteArray:=Lx.strB t.text
def fG:Lx.ATok:=⟨0,[],0,0⟩
def nd0:NodT:=.node 0 eB 0 [] [] []
def ahd (T:Tks) (s:PSt) (k:Nat):Lx.ATok:=if T.length≤s.i+k then T.getD (T.length-1) fG else T.getD (s.i+k) fG
def cH (s:PSt) (t:Lx.ATok) (e:Int):PSt:=if s.e=0 then {s with e:=e,at_:=(t.at_:Int)} else s
def isT (T:Tks) (s:PSt) (k:Int) (text:ByteArray):Bool:=s.e==0 && ((ahd T s 0).kind==k && (text.toList==[] || (tx (ahd T s 0)).toList==text.toList))
def aI (s:PSt):PSt:={s with i:=s.i+1}
def bT (T:Tks) (s:PSt) (k:Int) (text:ByteArray):Lx.ATok×PSt:=if isT T s k text then (ahd T s 0,aI s) else (fG,cH s (ahd T s 0) 13)
abbrev wH:ByteArray:=⟨#[60]⟩
abbrev sG:ByteArray:=⟨#[62]⟩
abbrev kT:ByteArray:=⟨#[112,114,105,109,105,116,105,118,101,58]⟩
abbrev mV:ByteArray:=⟨#[100,111,73,116]⟩
abbrev kR:ByteArray:=⟨#[124]⟩
abbrev bHat:ByteArray:=⟨#[94]⟩
abbrev rM:ByteArray:=⟨#[46]⟩
abbrev kP:ByteArray:=⟨#[59]⟩
abbrev qB:ByteArray:=⟨#[40]⟩
abbrev mC:ByteArray:=⟨#[41]⟩
abbrev bBra:ByteArray:=⟨#[91]⟩
abbrev jN:ByteArray:=⟨#[93]⟩
abbrev kU:ByteArray:=⟨#[45]⟩
def cV (T:Tks) (k:Int) (l:List ByteArray) (s:PSt):List ByteArray×PSt:=
 let n:=bT T s k eB
 (l++[tx n.1],if n.2.e=0∧l.length=4 then cH n.2 n.1 18 else n.2)
def hL (T:Tks):Nat→List ByteArray→PSt→List ByteArray×PSt
 | 0,l,s=>(l,s)
 | g+1,l,s=>if isT T s 1 eB then hL T g (l++[tx (ahd T s 0)]) (aI s) else (l,s)
def fB (T:Tks) (s:PSt):List ByteArray×PSt:=
 if isT T s 10 kR then
  let r:=hL T (T.length+1) [] (aI s)
  (r.1,(bT T r.2 10 kR).2)
 else ([],s)
def bV (T:Tks) (s:PSt):NodT×Bool×PSt:=
 if isT T s 3 kU && ((ahd T s 1).kind==4 && ((ahd T s 1).at_:Int)==wrp (((ahd T s 0).at_:Int)+1)) then (.node 1 eB (wrp (-(ahd T (aI s) 0).num)) [] [] [],true,aI (aI s))
 else if isT T s 4 eB then (.node 1 eB (ahd T s 0).num [] [] [],true,aI s)
 else if isT T s 5 eB then (.node 2 (tx (ahd T s 0)) 0 [] [] [],true,aI s)
 else if isT T s 6 eB then (.node 3 (tx (ahd T s 0)) 0 [] [] [],true,aI s)
 else (nd0,false,s)
def dW (T:Tks) (s:PSt):Bool×PSt:=
 if s.deep=20 then (false,cH (aI s) (ahd T s 0) 14) else (true,{aI s with deep:=wrp (s.deep+1)})
def hE (s:PSt):PSt:={s with deep:=wrp (s.deep-1)}
def unL (T:Tks):Nat→NodT→PSt→NodT×PSt
 | 0,x,s=>(x,s)
 | g+1,x,s=>if isT T s 1 eB then unL T g (.node 7 (tx (ahd T s 0)) 0 [] [] [x]) (aI s) else (x,s)
def unT (T:Tks) (x:NodT) (s:PSt):NodT×PSt:=unL T (T.length+1) x s
structure Rc where
 expr:PSt→NodT×PSt
 prim:PSt→NodT×PSt
 bin:NodT→PSt→NodT×PSt
 kw:NodT→PSt→NodT×PSt
 msg:PSt→NodT×PSt
 lits:PSt→NodT×PSt
 blk:PSt→NodT×PSt
 stmts:PSt→List NodT×PSt
section
variable (T:Tks) (R:Rc)
def iH:Nat→List NodT→PSt→List NodT×PSt
 | 0,l,s=>(l,s)
 | g+1,l,s=>if isT T s 10 kP then iH g (l++[(R.msg (aI s)).1]) (R.msg (aI s)).2 else (l,s)
def iI (s:PSt):NodT×PSt:=
 if isT T s 1 eB && (ahd T s 1).kind==9 then
  let r:=R.expr (aI (aI s))
  (.node 6 (tx (ahd T s 0)) 0 [] [] [r.1],r.2)
 else
  let r0:=R.prim s
  let r1:=unT T r0.1 r0.2
  let r2:=R.bin r1.1 r1.2
  let r3:=R.kw r2.1 r2.2
  if isT T r3.2 10 kP then
   if r3.1.kind≠7 then (r3.1,cH r3.2 (ahd T r3.2 0) 13)
   else
    let r:=iH T R (T.length+1) [r3.1.kids.headD nd0,.node 7 r3.1.text 0 [] [] (r3.1.kids.drop 1)] r3.2
    (.node 8 eB 0 [] [] r.1,r.2)
  else r3
def jD:Nat→ByteArray→List NodT→PSt→ByteArray×List NodT×PSt
 | 0,t,l,s=>(t,l,s)
 | g+1,t,l,s=>
  if isT T s 2 eB then
   let r0:=R.prim (aI s)
   let r1:=unT T r0.1 r0.2
   let r2:=R.bin r1.1 r1.2
   jD g (t++tx (ahd T s 0)) (l++[r2.1]) r2.2
  else (t,l,s)
def mD (s:PSt):NodT×PSt:=
 if isT T s 1 eB then (.node 7 (tx (ahd T s 0)) 0 [] [] [],aI s)
 else if isT T s 3 eB then
  let r0:=R.prim (aI s)
  let r1:=unT T r0.1 r0.2
  (.node 7 (tx (ahd T s 0)) 0 [] [] [r1.1],r1.2)
 else
  let s1:=if isT T s 2 eB then s else cH s (ahd T s 0) 13
  let r:=jD T R (T.length+1) eB [] s1
  (.node 7 r.1 0 [] [] r.2.1,r.2.2)
def kwS (x:NodT) (s:PSt):NodT×PSt:=
 if isT T s 2 eB then
  let r:=R.msg s
  (.node 7 r.1.text 0 [] [] (x :: r.1.kids),r.2)
 else (x,s)
def oJ:Nat→NodT→PSt→NodT×PSt
 | 0,x,s=>(x,s)
 | g+1,x,s=>
  if isT T s 3 eB then
   let r0:=R.prim (aI s)
   let r1:=unT T r0.1 r0.2
   oJ g (.node 7 (tx (ahd T s 0)) 0 [] [] [x,r1.1]) r1.2
  else (x,s)
def binS (x:NodT) (s:PSt):NodT×PSt:=oJ T R (T.length+1) x s
def hF (s:PSt):NodT×PSt:=
 if s.e≠0 then (nd0,s)
 else if (bV T s).2.1 then ((bV T s).1,(bV T s).2.2)
 else if isT T s 1 eB then (.node 5 (tx (ahd T s 0)) 0 [] [] [],aI s)
 else if isT T s 7 eB then R.lits s
 else if isT T s 10 qB then
  if (dW T s).1 then
   let r:=R.expr (dW T s).2
   (r.1,hE (bT T r.2 10 mC).2)
  else (nd0,(dW T s).2)
 else if isT T s 10 bBra then R.blk s
 else (nd0,cH s (ahd T s 0) 13)
def fK (s:PSt):NodT×PSt:=
 if (bV T s).2.1 then ((bV T s).1,(bV T s).2.2)
 else if isT T s 7 eB || isT T s 10 qB then R.lits s
 else (nd0,cH s (ahd T s 0) 13)
def fS:Nat→List NodT→PSt→List NodT×PSt
 | 0,l,s=>(l,s)
 | g+1,l,s=>if s.e==0 && !isT T s 10 mC then fS g (l++[(fK T R s).1]) (fK T R s).2 else (l,s)
def jP (s:PSt):NodT×PSt:=
 let o:=dW T s
 let r:=if o.1 then fS T R (T.length+1) [] o.2 else ([],o.2)
 (.node 4 eB 0 [] [] r.1,if r.2.e=0 then hE (aI r.2) else r.2)
def iF:Nat→List ByteArray→PSt→List ByteArray×PSt
 | 0,l,s=>(l,s)
 | g+1,l,s=>if isT T s 8 eB then iF g (cV T 8 l s).1 (cV T 8 l s).2 else (l,s)
def oT (s:PSt):NodT×PSt:=
 if (dW T s).1 then
  let r:=iF T (T.length+1) [] (dW T s).2
  let s2:=if 0<r.1.length∧isT T r.2 10 jN=false then (bT T r.2 10 kR).2 else r.2
  let t:=fB T s2
  let k:=R.stmts t.2
  (.node 9 eB 0 r.1 t.1 k.1,hE (bT T k.2 10 jN).2)
 else (.node 9 eB 0 [] [] [],(dW T s).2)
def dY:Nat→List NodT→PSt→List NodT×PSt
 | 0,l,s=>(l,s)
 | g+1,l,s=>
  if s.e==0 && (!isT T s 0 eB && !isT T s 10 jN) then
   if isT T s 10 bHat then
    let r:=R.expr (aI s)
    (l++[.node 10 eB 0 [] [] [r.1]],if isT T r.2 10 rM then aI r.2 else r.2)
   else
    let r:=R.expr s
    if isT T r.2 10 rM then dY g (l++[r.1]) (aI r.2) else (l++[r.1],r.2)
  else (l,s)
def mE (s:PSt):List NodT×PSt:=dY T R (T.length+1) [] s
def stepR:Rc:=⟨iI T R,hF T R,binS T R,kwS T R,mD T R,jP T R,oT T R,mE T R⟩
end
def rcF (T:Tks):Nat→Rc
 | 0=>⟨fun s=>(nd0,cH s fG 1),fun s=>(nd0,cH s fG 1),fun x s=>(x,s),fun x s=>(x,s),fun s=>(nd0,if s.i<T.length then aI s else s),fun s=>(nd0,cH s fG 1),fun s=>(nd0,cH s fG 1),fun s=>([],s)⟩
 | f+1=>stepR T (rcF T f)
def iJ (T:Tks):Nat→ByteArray→List ByteArray→PSt→ByteArray×List ByteArray×PSt
 | 0,t,l,s=>(t,l,s)
 | g+1,t,l,s=>if isT T s 2 eB then iJ T g (t++tx (ahd T s 0)) (cV T 1 l (aI s)).1 (cV T 1 l (aI s)).2 else (t,l,s)
def kB (T:Tks) (s:PSt):ByteArray×List ByteArray×PSt:=
 if isT T s 1 eB then (tx (ahd T s 0),[],aI s)
 else if isT T s 3 eB then (tx (ahd T s 0),(cV T 1 [] (aI s)).1,(cV T 1 [] (aI s)).2)
 else
  let n:=bT T s 2 eB
  let m:=cV T 1 [] n.2
  iJ T (T.length+1) (tx n.1) m.1 m.2
def kQ (T:Tks) (s:PSt):ByteArray×List ByteArray×Int×PSt:=
 let p:=kB T s
 if isT T p.2.2 3 wH then
  let s1:=(bT T (aI p.2.2) 2 kT).2
  let n:=bT T s1 4 eB
  let s2:=if 255<n.1.num then cH n.2 n.1 2 else n.2
  (p.1,p.2.1,n.1.num,(bT T s2 3 sG).2)
 else (p.1,p.2.1,0,p.2.2)
def oA (T:Tks):Nat:=8*T.length+16
def kW (T:Tks) (method:Bool):NodT×Int×Int:=
 let s0:PSt:=⟨0,0,0,0⟩
 let h:=if method then kQ T s0 else (mV,[],0,s0)
 let t:=fB T h.2.2.2
 let k:=(rcF T (oA T)).stmts t.2
 let s:=(bT T k.2 0 eB).2
 if s.e≠0 then (nd0,s.at_,s.e) else (.node 11 h.1 h.2.2.1 h.2.1 t.1 k.1,0,0)
def eC (s:ByteArray) (method:Bool):NodT×Int×Int:=
 if 2000<s.size then (nd0,0,12)
 else match Lx.toksV s.data.toList with
  | .err a e=>(nd0,a,e)
  | .ok T=>kW T method
end Go.Proofs.YtnojndgmgkgnpaaGreat
namespace Go.Proofs.YtnojndgmgkgnpaaGreat
open Go.ChangeShapes Go.WideShapes Go.ChangeAt Go.RowKit Go.Deep Go.Joins
abbrev bL:Nat:=9223372036854775807
def InI (x:Int):Prop:= -9223372036854775808≤x∧x≤9223372036854775807
theorem aA {w:World} {b:Nat} {o:Obj} (h:w.heap[b]? =some o):b<w.heap.size:=by
 rcases Nat.lt_or_ge b w.heap.size with q | q
 ·exact q
 ·rw [Array.getElem?_eq_none q] at h;cases h
structure Turns (S:Nat→Prop) (w w':World):Prop where
 os:w'.os=w.os
 tape:w'.tape=w.tape
 output:w'.output=w.output
 size:w.heap.size≤w'.heap.size
 block:∀k,k<w.heap.size→¬S k→w'.heap[k]? =w.heap[k]?
section
variable {S T:Nat→Prop} {w w' w'':World}
theorem Turns.refl (S:Nat→Prop) (w:World):Turns S w w:=⟨rfl,rfl,rfl,Nat.le_refl _,fun _ _ _=>rfl⟩
theorem Turns.trans (h:Turns S w w') (k:Turns S w' w''):Turns S w w'':=⟨k.os.trans h.os,k.tape.trans h.tape,k.output.trans h.output,Nat.le_trans h.size k.size,fun j hj hs=>(k.block j (aN hj h.size) hs).trans (h.block j hj hs)⟩
theorem Turns.mono (h:Turns S w w') (hs:∀k,k<w.heap.size→S k→T k):Turns T w w':=⟨h.os,h.tape,h.output,h.size,fun k hk ht=>h.block k hk (fun q=>ht (hs k hk q))⟩
theorem Turns.of_below (h:Below w.heap.size w w'):Turns S w w':=⟨h.os,h.tape,h.output,h.size,fun k hk _=>h.block k hk⟩
theorem Turns.below (h:Turns S w w') {B:Nat} (hs:∀k,S k→B≤k) (hB:B≤w.heap.size):Below B w w':=⟨h.os,h.tape,h.output,h.size,fun k hk=>h.block k (aN hk hB) (fun q=>by have:=hs k q;omega)⟩
theorem Turns.setCell (h:Turns S w w') (a:Addr) (v:Value) (ha:S a.block∨w.heap.size≤a.block):Turns S w (w'.setCell a v):=⟨h.os,h.tape,h.output,by simpa using h.size,fun k hk hs=>by
 rw [Below.heap_setCell _ _ _ _ (fun e=>by subst e;rcases ha with q | q;exact hs q;omega)];exact h.block k hk hs⟩
theorem Turns.drewN (h:Turns S w w') (n:Nat):Turns S w (w'.drewN n):=⟨h.os,h.tape,h.output,h.size,h.block⟩
end
theorem aJ {w w':World} {base n size:Nat} {e:TypeId} {v:Value} {xs:List Value} (h:w.ownsRow base e size v n xs) (hs:w.heap.size≤w'.heap.size) (hb:∀k,v.ownBlock=some k→w'.heap[k]? =w.heap[k]?):w'.ownsRow base e size v n xs:=by
 refine ⟨h.1,?_⟩
 rcases h.2 with h1 | ⟨g,cap,cur,hv,hg,hh,rest⟩
 ·exact .inl h1
 ·exact .inr ⟨g,cap,cur,hv,hg,(hb g (by rw [hv];rfl)).trans hh,rest⟩
theorem aX {w:World} {base n size:Nat} {e:TypeId} {v:Value} {xs:List Value} (h:w.ownsRow base e size v n xs):∃A c,v= .slice A n c∧n≤c∧c≤maxLen:=by
 rcases h.2 with ⟨rfl,rfl⟩ | ⟨g,cap,cur,rfl,_,_,h1,h2,_⟩
 ·exact ⟨none,0,rfl,Nat.le_refl _,by unfold maxLen;omega⟩
 ·exact ⟨_,cap,rfl,h1,h2⟩
theorem bN {w:World} {base n size:Nat} {e:TypeId} {v:Value} {xs:List Value} (h:w.ownsRow base e size v n xs) {k:Nat} (hk:v.ownBlock=some k):∃cur,w.heap[k]? =some (.cells cur e (0,0)):=by
 rcases h.2 with ⟨rfl,_⟩ | ⟨g,cap,cur,rfl,_,hh,_⟩
 ·cases hk
 ·cases hk;exact ⟨cur,hh⟩
structure NS where
 pn:Option Addr
 cn:Nat
 pt:Option Addr
 ct:Nat
 pk:Option Addr
 ck:Nat
def ndV (x:NodT) (q:NS):Value:=.agg #[.int .i64 x.kind,.string x.text,.int .i64 x.num,.slice q.pn x.names.length q.cn,.slice q.pt x.temps.length q.ct,.slice q.pk x.kids.length q.ck]
structure Cells6 (w:World) (b o:Nat) (x:NodT) (q:NS):Prop where
 c0:w.cell? ⟨b,o,none⟩=some (.int .i64 x.kind)
 c1:w.cell? ⟨b,o+1,none⟩=some (.string x.text)
 c2:w.cell? ⟨b,o+2,none⟩=some (.int .i64 x.num)
 c3:w.cell? ⟨b,o+3,none⟩=some (.slice q.pn x.names.length q.cn)
 c4:w.cell? ⟨b,o+4,none⟩=some (.slice q.pt x.temps.length q.ct)
 c5:w.cell? ⟨b,o+5,none⟩=some (.slice q.pk x.kids.length q.ck)
theorem Cells6.same {w w':World} {b o:Nat} {x:NodT} {q:NS} (h:Cells6 w b o x q) (hb:w'.heap[b]? =w.heap[b]?):Cells6 w' b o x q:=by
 have e:∀k,w'.cell? ⟨b,k,none⟩=w.cell? ⟨b,k,none⟩:=fun k=>World.cell?_of_block hb
 exact ⟨(e _).trans h.c0,(e _).trans h.c1,(e _).trans h.c2,(e _).trans h.c3,(e _).trans h.c4,(e _).trans h.c5⟩
structure NdOk (x:NodT) (q:NS):Prop where
 kind:InI x.kind
 num:InI x.num
 text:x.text.size≤bL
 nlen:x.names.length≤q.cn∧q.cn≤maxLen
 tlen:x.temps.length≤q.ct∧q.ct≤maxLen
 klen:x.kids.length≤q.ck∧q.ck≤maxLen
def Strs (w:World) (D:Nat→Prop) (p:Option Addr) (l:List ByteArray):Prop:=∀i (h:i<l.length),∃b off,p=some ⟨b,off,none⟩∧b<w.heap.size∧D b∧w.cell? ⟨b,off+i,none⟩=some (.string l[i])∧l[i].size≤bL
inductive IsNd (w:World) (D:Nat→Prop):NodT→NS→Prop
 | node (x:NodT) (q:NS) (Q:Nat→NS):NdOk x q→Strs w D q.pn x.names→Strs w D q.pt x.temps→
   (∀i (h:i<x.kids.length),∃b off,q.pk=some ⟨b,off,none⟩∧b<w.heap.size∧D b∧Cells6 w b (off+i*6) x.kids[i] (Q i))→
   (∀i (h:i<x.kids.length),IsNd w D x.kids[i] (Q i))→IsNd w D x q
section
variable {w w':World} {D D':Nat→Prop} {x:NodT} {q:NS}
theorem Strs.same {p:Option Addr} {l:List ByteArray} (h:Strs w D p l) (hs:w.heap.size≤w'.heap.size) (hb:∀b,D b→b<w.heap.size→w'.heap[b]? =w.heap[b]?) (hD:∀b,D b→D' b):Strs w' D' p l:=fun i hi=>by
 obtain ⟨b,off,e,h1,h2,h3,h4⟩:=h i hi;exact ⟨b,off,e,aN h1 hs,hD b h2,(World.cell?_of_block (hb b h2 h1)).trans h3,h4⟩
theorem IsNd.same (h:IsNd w D x q) (hs:w.heap.size≤w'.heap.size) (hb:∀b,D b→b<w.heap.size→w'.heap[b]? =w.heap[b]?) (hD:∀b,D b→D' b):IsNd w' D' x q:=by
 induction h with
 | node x q Q h1 h2 h3 h4 h5 ih=>
  refine .node x q Q h1 (h2.same hs hb hD) (h3.same hs hb hD) (fun i hi=>?_) ih;obtain ⟨b,off,e,k1,k2,k3⟩:=h4 i hi;exact ⟨b,off,e,aN k1 hs,hD b k2,k3.same (hb b k2 k1)⟩
theorem IsNd.under (h:IsNd w D x q) (hb:Below w.heap.size w w'):IsNd w' D x q:=h.same hb.size (fun b _ hl=>hb.block b hl) (fun _ z=>z)
theorem IsNd.ok (h:IsNd w D x q):NdOk x q:=by cases h;assumption
theorem IsNd.strs (h:IsNd w D x q):Strs w D q.pn x.names∧Strs w D q.pt x.temps:=by cases h;exact ⟨by assumption,by assumption⟩
theorem IsNd.kid (h:IsNd w D x q) {i:Nat} (hi:i<x.kids.length):∃b off q',q.pk=some ⟨b,off,none⟩∧b<w.heap.size∧D b∧Cells6 w b (off+i*6) x.kids[i] q'∧IsNd w D x.kids[i] q':=by
 cases h with
 | node x q Q h1 h2 h3 h4 h5=>
  obtain ⟨b,off,e,k1,k2,k3⟩:=h4 i hi;exact ⟨b,off,Q i,e,k1,k2,k3,h5 i hi⟩
end
structure LS where
 p:Option Addr
 c:Nat
def LitT.kind_:LitT→Int | .node k _ _ _=>k
def LitT.text_:LitT→ByteArray | .node _ s _ _=>s
def LitT.num_:LitT→Int | .node _ _ n _=>n
def LitT.kids_:LitT→List LitT | .node _ _ _ l=>l
def ltC (x:LitT) (q:LS):List Value:=[.int .i64 x.kind_,.string x.text_,.int .i64 x.num_,.slice q.p x.kids_.length q.c]
def ltV (x:LitT) (q:LS):Value:=.agg #[.int .i64 x.kind_,.string x.text_,.int .i64 x.num_,.slice q.p x.kids_.length q.c]
structure Cells4 (w:World) (b o:Nat) (x:LitT) (q:LS):Prop where
 c0:w.cell? ⟨b,o,none⟩=some (.int .i64 x.kind_)
 c1:w.cell? ⟨b,o+1,none⟩=some (.string x.text_)
 c2:w.cell? ⟨b,o+2,none⟩=some (.int .i64 x.num_)
 c3:w.cell? ⟨b,o+3,none⟩=some (.slice q.p x.kids_.length q.c)
theorem Cells4.same {w w':World} {b o:Nat} {x:LitT} {q:LS} (h:Cells4 w b o x q) (hb:w'.heap[b]? =w.heap[b]?):Cells4 w' b o x q:=by
 have e:∀k,w'.cell? ⟨b,k,none⟩=w.cell? ⟨b,k,none⟩:=fun k=>World.cell?_of_block hb
 exact ⟨(e _).trans h.c0,(e _).trans h.c1,(e _).trans h.c2,(e _).trans h.c3⟩
structure LtOk (x:LitT) (q:LS):Prop where
 kind:InI x.kind_
 num:InI x.num_
 text:x.text_.size≤bL
 klen:x.kids_.length≤q.c∧q.c≤maxLen
inductive IsLt (w:World) (D:Nat→Prop):LitT→LS→Prop
 | node (x:LitT) (q:LS) (Q:Nat→LS):LtOk x q→
   (∀i (h:i<x.kids_.length),∃b cur,q.p=some ⟨b,0,none⟩∧w.heap[b]? =some (.cells cur 44 (0,0))∧D b∧Cells4 w b (i*4) x.kids_[i] (Q i))→
   (∀i (h:i<x.kids_.length),IsLt w D x.kids_[i] (Q i))→IsLt w D x q
section
variable {w w':World} {D D':Nat→Prop} {x:LitT} {q:LS}
theorem IsLt.same (h:IsLt w D x q) (hs:w.heap.size≤w'.heap.size) (hb:∀b,D b→b<w.heap.size→w'.heap[b]? =w.heap[b]?) (hD:∀b,D b→D' b):IsLt w' D' x q:=by
 induction h with
 | node x q Q h1 h4 h5 ih=>
  refine .node x q Q h1 (fun i hi=>?_) ih;obtain ⟨b,cur,e,k1,k2,k3⟩:=h4 i hi;have hl:=aA k1;exact ⟨b,cur,e,(hb b k2 hl).trans k1,hD b k2,k3.same (hb b k2 hl)⟩
theorem IsLt.under (h:IsLt w D x q) (hb:Below w.heap.size w w'):IsLt w' D x q:=h.same hb.size (fun b _ hl=>hb.block b hl) (fun _ z=>z)
theorem IsLt.ok (h:IsLt w D x q):LtOk x q:=by cases h;assumption
theorem IsLt.kid (h:IsLt w D x q) {i:Nat} (hi:i<x.kids_.length):∃b cur q',q.p=some ⟨b,0,none⟩∧w.heap[b]? =some (.cells cur 44 (0,0))∧D b∧Cells4 w b (i*4) x.kids_[i] q'∧IsLt w D x.kids_[i] q':=by
 cases h with
 | node x q Q h1 h4 h5=>
  obtain ⟨b,cur,e,k1,k2,k3⟩:=h4 i hi;exact ⟨b,cur,Q i,e,k1,k2,k3,h5 i hi⟩
theorem IsLt.leaf (w:World) (D:Nat→Prop) {k n:Int} {s:ByteArray} (hk:InI k) (hn:InI n) (hs:s.size≤bL):IsLt w D (.node k s n []) ⟨none,0⟩:=
 .node _ _ (fun _=>⟨none,0⟩) ⟨hk,hn,hs,Nat.le_refl _,Nat.zero_le _⟩ (fun i h=>absurd h Y129) (fun i h=>absurd h Y129)
end
abbrev LP:=LitT×LS
def lpC (p:LP):List Value:=ltC p.1 p.2
structure LitRow (w:World) (D:Nat→Prop) (v:Value) (ps:List LP):Prop where
 own:w.ownsRow 0 44 4 v ps.length (ps.flatMap lpC)
 lits:∀p,p∈ps→IsLt w D p.1 p.2
theorem gT {α:Type} {f:α→List Value} {n:Nat} (hf:∀a,(f a).length=n):∀l:List α,(l.flatMap f).length=l.length*n
 | []=>by simp
 | a :: l=>by rw [List.flatMap_cons,List.length_append,hf,gT hf l,List.length_cons,Nat.add_mul];omega
theorem eY {α:Type} {f:α→List Value} {n:Nat} (hf:∀a,(f a).length=n):∀(l:List α) (i j:Nat) (hi:i<l.length),j<n→(l.flatMap f)[i*n+j]? =(f l[i])[j]?
 | [],i,j,hi,_=>absurd hi Y12
 | a :: l,0,j,hi,hj=>by
  rw [List.flatMap_cons,Nat.zero_mul,Nat.zero_add,List.getElem?_append_left (by rw [hf];exact hj)];rfl
 | a :: l,i+1,j,hi,hj=>by
  have ih:=eY hf l i j (by simpa using hi) hj;rw [List.flatMap_cons,List.getElem?_append_right (by rw [hf,Nat.add_mul];omega),hf,show (i+1)*n+j-n=i*n+j by rw [Nat.add_mul];omega,ih]
  rfl
theorem kC (p:LP):(lpC p).length=4:=rfl
section
variable {w w':World} {D D':Nat→Prop} {v:Value} {ps:List LP}
theorem LitRow.same (h:LitRow w D v ps) (hs:w.heap.size≤w'.heap.size) (ho:∀k,v.ownBlock=some k→w'.heap[k]? =w.heap[k]?) (hb:∀b,D b→b<w.heap.size→w'.heap[b]? =w.heap[b]?) (hD:∀b,D b→D' b):LitRow w' D' v ps:=
 ⟨aJ h.own hs ho,fun p hp=>(h.lits p hp).same hs hb hD⟩
theorem LitRow.at_ (h:LitRow w D v ps) {i:Nat} (hi:i<ps.length):∃b c cur,v= .slice (some ⟨b,0,none⟩) ps.length c∧ps.length≤c∧w.heap[b]? =some (.cells cur 44 (0,0))∧Cells4 w b (i*4) ps[i].1 ps[i].2:=by
 have ho:=h.own
 rcases ho.2 with ⟨_,h0⟩ | ⟨g,cap,cur,hv,hg,hh,h1,h2,_⟩
 ·omega
 ·rw [hv] at ho;have hc:∀j,j<4→w.cell? ⟨g,i*4+j,none⟩=(lpC ps[i])[j]? :=fun j hj=>by
   rw [World.ownsRow.cellAt ho (i*4+j) I];exact eY kC ps i j hi hj
  exact ⟨g,cap,cur,hv,h1,hh,hc 0 I,hc 1 I,hc 2 I,hc 3 I⟩
theorem LitRow.nil (w:World) (D:Nat→Prop):LitRow w D (.slice none 0 0) []:=⟨World.ownsRow_nil _ _ _ _,fun p hp=>absurd hp Y12⟩
end
def gF (i:Ins):List Value:=[.int .i64 i.op,.int .i64 i.a,.int .i64 i.b]
theorem jQ (i:Ins):(gF i).length=3:=rfl
def nmC (k:Nm):List Value:=[.string k.name,.bool (decide (k.kind=1)),.bool (decide (k.kind=3)),.int .i64 k.at_]
theorem lF (k:Nm):(nmC k).length=4:=rfl
def sH (l:List Nm):Prop:=∀k,k∈l→k.name.size≤bL∧0≤k.at_∧k.at_≤1000
def NmRow (w:World) (W:Nat→Prop) (v:Value) (l:List Nm):Prop:=
 (w.ownsRow 0 82 4 v l.length (l.flatMap nmC)∧∀k,v.ownBlock=some k→W k)∨
 (∃A,v= .slice A l.length l.length∧(A=none→l=[])∧∀b,A=some b→b.off=0∧b.spot=none∧(∃cur,w.heap[b.block]? =some (.cells cur 82 (0,0)))∧∀j u,(l.flatMap nmC)[j]? =some u→w.cell? ⟨b.block,j,none⟩=some u)
theorem NmRow.slice {w:World} {W:Nat→Prop} {v:Value} {l:List Nm} (h:NmRow w W v l):∃A c,v= .slice A l.length c∧l.length≤c:=by
 rcases h with ⟨h,_⟩ | ⟨A,hv,_⟩
 ·obtain ⟨A,c,h1,h2,_⟩:=aX h;exact ⟨A,c,h1,h2⟩
 ·exact ⟨A,_,hv,Nat.le_refl _⟩
theorem NmRow.at_ {w:World} {W:Nat→Prop} {v:Value} {l:List Nm} (h:NmRow w W v l) {i:Nat} (hi:i<l.length):∃b c,v= .slice (some ⟨b,0,none⟩) l.length c∧b<w.heap.size∧w.cell? ⟨b,i*4,none⟩=some (.string l[i].name)∧w.cell? ⟨b,i*4+1,none⟩=some (.bool (decide (l[i].kind=1)))∧w.cell? ⟨b,i*4+2,none⟩=some (.bool (decide (l[i].kind=3)))∧w.cell? ⟨b,i*4+3,none⟩=some (.int .i64 l[i].at_):=by
 rcases h with ⟨ho,_⟩ | ⟨A,hv,hn,hA⟩
 ·rcases ho.2 with ⟨_,h0⟩ | ⟨g,cap,cur,hv,hg,hh,h1,h2,_⟩
  ·omega
  ·rw [hv] at ho;have hc:∀j,j<4→w.cell? ⟨g,i*4+j,none⟩=(nmC l[i])[j]? :=fun j hj=>by
    rw [World.ownsRow.cellAt ho (i*4+j) I];exact eY lF l i j hi hj
   exact ⟨g,cap,hv,aA hh,hc 0 I,hc 1 I,hc 2 I,hc 3 I⟩
 ·cases A with
  | none=>rw [hn rfl] at hi;simp at hi
  | some b=>
   obtain ⟨e1,e2,e3,e4⟩:=hA b rfl;obtain ⟨bb,bo,bs⟩:=b;simp only at e1 e2 e3 e4;subst e1;subst e2;have hc:∀j,j<4→w.cell? ⟨bb,i*4+j,none⟩=(nmC l[i])[j]? :=fun j hj=>by
    have h1:=eY lF l i j hi hj;have hj':j<(nmC l[i]).length:=hj;rw [List.getElem?_eq_getElem hj'] at h1 ⊢;exact e4 _ _ h1
   exact ⟨bb,_,hv,aA e3.choose_spec,hc 0 I,hc 1 I,hc 2 I,hc 3 I⟩
theorem NmRow.same {w w':World} {W W':Nat→Prop} {v:Value} {l:List Nm} (h:NmRow w W v l) (hs:w.heap.size≤w'.heap.size) (hb:∀k,v.ownBlock=some k→w'.heap[k]? =w.heap[k]?) (hW:∀k,v.ownBlock=some k→W k→W' k):NmRow w' W' v l:=by
 rcases h with ⟨ho,hk⟩ | ⟨A,hv,hn,hA⟩
 ·exact .inl ⟨aJ ho hs hb,fun k q=>hW k q (hk k q)⟩
 ·refine .inr ⟨A,hv,hn,fun b e=>?_⟩;obtain ⟨e1,e2,e3,e4⟩:=hA b e;have hbb:=hb b.block (by rw [hv,e];rfl);exact ⟨e1,e2,⟨_,hbb.trans e3.choose_spec⟩,fun j u hj=>(World.cell?_of_block (a:=⟨b.block,j,none⟩) hbb).trans (e4 j u hj)⟩
theorem NmRow.lt {w:World} {W:Nat→Prop} {v:Value} {l:List Nm} (h:NmRow w W v l) {k:Nat} (hk:v.ownBlock=some k):k<w.heap.size:=by
 rcases h with ⟨ho,_⟩ | ⟨A,hv,hn,hA⟩
 ·exact (World.ownsRow.lt ho k hk).2
 ·rw [hv] at hk
  cases A with
  | none=>cases hk
  | some b=>cases hk;exact aA (hA b rfl).2.2.1.choose_spec
theorem NmRow.type {w:World} {W:Nat→Prop} {v:Value} {l:List Nm} (h:NmRow w W v l) {k:Nat} (hk:v.ownBlock=some k):∃cur,w.heap[k]? =some (.cells cur 82 (0,0)):=by
 rcases h with ⟨ho,_⟩ | ⟨A,hv,hn,hA⟩
 ·exact bN ho hk
 ·rw [hv] at hk
  cases A with
  | none=>cases hk
  | some b=>cases hk;exact (hA b rfl).2.2.1
structure MK where
 sel:ByteArray
 args:Nat
 prim:Int
def fR (m:MK) (s:CSt) (lv cv nv:Value):Array Value:=#[.string m.sel,.int .i64 (m.args:Int),.int .i64 (s.temps:Int),.int .i64 m.prim,lv,cv,nv,.string s.ename,.int .i64 s.err]
structure CY (w0:World) (P:Nat→Prop) (w:World) (cb:Nat) (m:MK) (s:CSt) (lv cv nv:Value) (D:Nat→Prop) (ps:List LP):Prop where
 box:w.heap[cb]? =some (.cells (fR m s lv cv nv) 80 (0,0))
 lits:LitRow w D lv ps
 lps:ps.map Prod.fst=s.lits
 code:w.ownsRow 0 42 3 cv s.code.length (s.code.flatMap gF)
 names:NmRow w (fun k=>¬P k∧k≠cb) nv s.names
 nok:sH s.names
 cbP:¬P cb
 lvP:∀k,lv.ownBlock=some k→¬P k∧¬D k
 cvP:∀k,cv.ownBlock=some k→¬P k
 dlt:∀k,D k→k<w.heap.size∧k≠cb
 dty:∀k,D k→∃cur,w.heap[k]? =some (.cells cur 44 (0,0))
 stat:Below w0.heap.size w0 w
 low:∀k,k<w0.heap.size→P k
 lim:∀k,P k→k<w.heap.size
 enm:s.ename.size≤bL
 dge:∀k,D k→w0.heap.size≤k
def CX (w0:World) (P:Nat→Prop) (w:World) (cb:Nat) (m:MK) (s:CSt):Prop:=∃lv cv nv D ps,CY w0 P w cb m s lv cv nv D ps∧s.temps≤24∧s.names.length≤8+s.temps
abbrev cP (P:Nat→Prop):Nat→Prop:=fun k=>¬P k
abbrev CT (w0:World) (P:Nat→Prop) (ws w:World) (cb:Nat) (m:MK) (s:CSt):Prop:=CX w0 P w cb m s∧Turns (cP P) ws w
section
variable {w0 w w':World} {P P':Nat→Prop} {cb:Nat} {m:MK} {s s':CSt} {lv cv nv:Value} {D:Nat→Prop} {ps:List LP}
theorem CY.below (h:CY w0 P w cb m s lv cv nv D ps) (hb:Below w.heap.size w w') (hP:∀k,P k→P' k) (hP':∀k,P' k→P k∨(w.heap.size≤k∧k<w'.heap.size)):CY w0 P' w' cb m s lv cv nv D ps:=by
 have hn:∀k,k<w.heap.size→¬P k→¬P' k:=fun k hk q z=>(hP' k z).elim q (fun y=>by omega)
 have hcb:=aA h.box;refine ⟨(hb.block cb hcb).trans h.box,h.lits.same hb.size (fun k hk=>hb.block k (World.ownsRow.lt h.lits.own k hk).2) (fun b _ hl=>hb.block b hl) (fun _ z=>z),h.lps,aJ h.code hb.size (fun k hk=>hb.block k (World.ownsRow.lt h.code k hk).2),h.names.same hb.size (fun k hk=>hb.block k (h.names.lt hk)) (fun k hk z=>⟨hn k (h.names.lt hk) z.1,z.2⟩),h.nok,hn cb hcb h.cbP,fun k hk=>⟨hn k (World.ownsRow.lt h.lits.own k hk).2 (h.lvP k hk).1,(h.lvP k hk).2⟩,fun k hk=>hn k (World.ownsRow.lt h.code k hk).2 (h.cvP k hk),fun k hk=>⟨aN (h.dlt k hk).1 hb.size,(h.dlt k hk).2⟩,fun k hk=>?_,h.stat.trans (hb.mono h.stat.size),fun k hk=>hP k (h.low k hk),fun k hk=>?_,h.enm,h.dge⟩
 ·obtain ⟨cur,hc⟩:=h.dty k hk;exact ⟨cur,(hb.block k (aA hc)).trans hc⟩
 ·rcases hP' k hk with q | q
  ·exact aN (h.lim k q) hb.size
  ·exact q.2
theorem CX.below (h:CX w0 P w cb m s) (hb:Below w.heap.size w w'):CX w0 P w' cb m s:=by
 obtain ⟨lv,cv,nv,D,ps,h,hf⟩:=h;exact ⟨lv,cv,nv,D,ps,h.below hb (fun _ z=>z) (fun _ z=>.inl z),hf⟩
theorem CX.keep (h:CX w0 P w cb m s) (hb:Below w.heap.size w w'):CX w0 (fun k=>P k∨(w.heap.size≤k∧k<w'.heap.size)) w' cb m s:=by
 obtain ⟨lv,cv,nv,D,ps,h,hf⟩:=h;exact ⟨lv,cv,nv,D,ps,h.below hb (fun _ z=>.inl z) (fun _ z=>z),hf⟩
theorem CY.less (h:CY w0 P w cb m s lv cv nv D ps) (hP:∀k,P' k→P k) (hl:∀k,k<w0.heap.size→P' k):CY w0 P' w cb m s lv cv nv D ps:=
 ⟨h.box,h.lits,h.lps,h.code,h.names.same aR (fun _ _=>rfl) (fun k _ z=>⟨fun q=>z.1 (hP k q),z.2⟩),h.nok,fun q=>h.cbP (hP cb q),fun k hk=>⟨fun q=>(h.lvP k hk).1 (hP k q),(h.lvP k hk).2⟩,fun k hk q=>h.cvP k hk (hP k q),h.dlt,h.dty,h.stat,hl,fun k hk=>h.lim k (hP k hk),h.enm,h.dge⟩
theorem CX.less (h:CX w0 P w cb m s) (hP:∀k,P' k→P k) (hl:∀k,k<w0.heap.size→P' k):CX w0 P' w cb m s:=by
 obtain ⟨lv,cv,nv,D,ps,h,hf⟩:=h;exact ⟨lv,cv,nv,D,ps,h.less hP hl,hf⟩
theorem CT.below {ws:World} (h:CT w0 P ws w cb m s) (hb:Below w.heap.size w w'):CT w0 P ws w' cb m s:=⟨h.1.below hb,h.2.trans (Turns.of_below hb)⟩
theorem CT.go {ws:World} (h:CT w0 P ws w cb m s) (hc:CT w0 P w w' cb m s'):CT w0 P ws w' cb m s':=⟨hc.1,h.2.trans hc.2⟩
theorem CX.ct (h:CX w0 P w cb m s):CT w0 P w w cb m s:=⟨h,Turns.refl _ _⟩
theorem CX.stat (h:CX w0 P w cb m s):Below w0.heap.size w0 w:=by obtain ⟨lv,cv,nv,D,ps,h,_⟩:=h;exact h.stat
theorem CX.few (h:CX w0 P w cb m s):s.temps≤24∧s.names.length≤8+s.temps:=by obtain ⟨lv,cv,nv,D,ps,h,hf⟩:=h;exact hf
theorem CX.low (h:CX w0 P w cb m s):∀k,k<w0.heap.size→P k:=by obtain ⟨lv,cv,nv,D,ps,h,_⟩:=h;exact h.low
theorem CT.back {ws:World} (h0:CT w0 P ws w cb m s) (hb:Below w.heap.size w w') {w'':World} (h:CT w0 P' w' w'' cb m s') (hP:∀k,P k→P' k):CT w0 P ws w'' cb m s':=
 ⟨h.1.less hP h0.1.low,(h0.2.trans (Turns.of_below hb)).trans (h.2.mono (fun k _ z q=>z (hP k q)))⟩
theorem CY.ne (h:CY w0 P w cb m s lv cv nv D ps):(∀k,lv.ownBlock=some k→k≠cb∧cv.ownBlock≠some k)∧(∀k,cv.ownBlock=some k→k≠cb∧¬D k):=by
 refine ⟨fun k hk=>⟨fun e=>?_,fun e=>?_⟩,fun k hk=>⟨fun e=>?_,fun e=>?_⟩⟩
 ·obtain ⟨cur,hc⟩:=bN h.lits.own hk;rw [e,h.box] at hc;simp at hc
 ·obtain ⟨cur,hc⟩:=bN h.lits.own hk;obtain ⟨cur2,hc2⟩:=bN h.code e;rw [hc] at hc2;simp at hc2
 ·obtain ⟨cur,hc⟩:=bN h.code hk;rw [e,h.box] at hc;simp at hc
 ·obtain ⟨cur,hc⟩:=bN h.code hk;obtain ⟨cur2,hc2⟩:=h.dty k e;rw [hc] at hc2;simp at hc2
theorem CY.cell (h:CY w0 P w cb m s lv cv nv D ps) (k:Nat):w.cell? ⟨cb,k,none⟩=(fR m s lv cv nv)[k]? :=by simp [World.cell?,h.box]
theorem CY.free (h:CY w0 P w cb m s lv cv nv D ps) (k:Nat):w.frozen? ⟨cb,k,none⟩=false:=by simp [World.frozen?,h.box]
end
theorem cc4 {w:World} {b:Nat} {t:TypeId} {fr:Nat×Nat} {x0 x1 x2 x3:Value} (h:w.heap[b]? =some (.cells #[x0,x1,x2,x3] t fr)):w.cell? ⟨b,0,none⟩=some x0∧w.cell? ⟨b,1,none⟩=some x1∧w.cell? ⟨b,2,none⟩=some x2∧w.cell? ⟨b,3,none⟩=some x3:=⟨by simp only [World.cell?,h];rfl,by simp only [World.cell?,h];rfl,by simp only [World.cell?,h];rfl,by simp only [World.cell?,h];rfl⟩
theorem cf4 {w:World} {b:Nat} {t:TypeId} {x0 x1 x2 x3:Value} (h:w.heap[b]? =some (.cells #[x0,x1,x2,x3] t (0,0))):w.cell? ⟨b,0,none⟩=some x0∧w.cell? ⟨b,1,none⟩=some x1∧w.cell? ⟨b,2,none⟩=some x2∧w.cell? ⟨b,3,none⟩=some x3∧w.frozen? ⟨b,0,none⟩=false∧w.frozen? ⟨b,1,none⟩=false∧w.frozen? ⟨b,2,none⟩=false∧w.frozen? ⟨b,3,none⟩=false:=⟨by simp only [World.cell?,h];rfl,by simp only [World.cell?,h];rfl,by simp only [World.cell?,h];rfl,by simp only [World.cell?,h];rfl,by simp [World.frozen?,h],by simp [World.frozen?,h],by simp [World.frozen?,h],by simp [World.frozen?,h]⟩
theorem cc6 {w:World} {b:Nat} {t:TypeId} {fr:Nat×Nat} {x0 x1 x2 x3 x4 x5:Value} (h:w.heap[b]? =some (.cells #[x0,x1,x2,x3,x4,x5] t fr)):w.cell? ⟨b,0,none⟩=some x0∧w.cell? ⟨b,1,none⟩=some x1∧w.cell? ⟨b,2,none⟩=some x2∧w.cell? ⟨b,3,none⟩=some x3∧w.cell? ⟨b,4,none⟩=some x4∧w.cell? ⟨b,5,none⟩=some x5:=⟨by simp only [World.cell?,h];rfl,by simp only [World.cell?,h];rfl,by simp only [World.cell?,h];rfl,by simp only [World.cell?,h];rfl,by simp only [World.cell?,h];rfl,by simp only [World.cell?,h];rfl⟩
theorem cf6 {w:World} {b:Nat} {t:TypeId} {x0 x1 x2 x3 x4 x5:Value} (h:w.heap[b]? =some (.cells #[x0,x1,x2,x3,x4,x5] t (0,0))):w.cell? ⟨b,0,none⟩=some x0∧w.cell? ⟨b,1,none⟩=some x1∧w.cell? ⟨b,2,none⟩=some x2∧w.cell? ⟨b,3,none⟩=some x3∧w.cell? ⟨b,4,none⟩=some x4∧w.cell? ⟨b,5,none⟩=some x5∧w.frozen? ⟨b,0,none⟩=false∧w.frozen? ⟨b,1,none⟩=false∧w.frozen? ⟨b,2,none⟩=false∧w.frozen? ⟨b,3,none⟩=false∧w.frozen? ⟨b,4,none⟩=false∧w.frozen? ⟨b,5,none⟩=false:=⟨by simp only [World.cell?,h];rfl,by simp only [World.cell?,h];rfl,by simp only [World.cell?,h];rfl,by simp only [World.cell?,h];rfl,by simp only [World.cell?,h];rfl,by simp only [World.cell?,h];rfl,by simp [World.frozen?,h],by simp [World.frozen?,h],by simp [World.frozen?,h],by simp [World.frozen?,h],by simp [World.frozen?,h],by simp [World.frozen?,h]⟩
end Go.Proofs.YtnojndgmgkgnpaaGreat
namespace Go.Proofs.YtnojndgmgkgnpaaGreat
open Go.ChangeShapes Go.WideShapes Go.ChangeAt Go.RowKit Go.Deep Go.Joins Go.Maps
theorem cQ {t:TypeId} {z:Value} {n b:Nat} (h:(Tryz.prog.info? t).map (fun i=>(i.zero,i.size,i.bytes))=some (some z,n,b)):∃i,Tryz.prog.info? t=some i∧i.zero=some z∧i.size=n∧i.bytes=b:=by
 cases hi:Tryz.prog.info? t with
 | none=>rw [hi] at h;cases h
 | some i=>rw [hi] at h;simp at h;exact ⟨i,rfl,h.1,h.2.1,h.2.2⟩
theorem aY {a b:Bool} (h:a=b):(Ending.returned (.bool a):Ending)= .returned (.bool b):=by rw [h]
theorem cI {a b:Int} (h:a=b):(Ending.returned (.int .i64 a):Ending)= .returned (.int .i64 b):=by rw [h]
theorem infoI:(Tryz.prog.info? 42).map (fun i=>(i.zero,i.size,i.bytes))=some (some (.agg #[.int .i64 0,.int .i64 0,.int .i64 0]),3,24):=Y40
section
variable {w0 w:World} {P:Nat→Prop} {cb:Nat} {m:MK} {s:CSt} {lv cv nv:Value} {D:Nat→Prop} {ps:List LP} {w':World} {s':CSt} {cv' nv':Value}
theorem CY.reset (h:CY w0 P w cb m s lv cv nv D ps) (ht:Turns (fun k=>k=cb) w w') (hbox:w'.heap[cb]? =some (.cells (fR m s' lv cv nv') 80 (0,0))) (hl:s'.lits=s.lits) (hc:s'.code=s.code)
  (hn:NmRow w' (fun k=>¬P k∧k≠cb) nv' s'.names) (hok:sH s'.names) (he:s'.ename.size≤bL):CY w0 P w' cb m s' lv cv nv' D ps:=by
 obtain ⟨n1,n2⟩:=h.ne;refine ⟨hbox,h.lits.same ht.size (fun k hk=>ht.block k (World.ownsRow.lt h.lits.own k hk).2 (n1 k hk).1) (fun b hb hl'=>ht.block b hl' (h.dlt b hb).2) (fun _ z=>z),by rw [hl];exact h.lps,?_,hn,hok,h.cbP,h.lvP,h.cvP,fun k hk=>⟨aN (h.dlt k hk).1 ht.size,(h.dlt k hk).2⟩,fun k hk=>?_,?_,h.low,fun k hk=>aN (h.lim k hk) ht.size,he,h.dge⟩
 ·rw [hc];exact aJ h.code ht.size (fun k hk=>ht.block k (World.ownsRow.lt h.code k hk).2 (n2 k hk).1)
 ·obtain ⟨cur,hc2⟩:=h.dty k hk;exact ⟨cur,(ht.block k (aA hc2) (h.dlt k hk).2).trans hc2⟩
 ·refine h.stat.trans (ht.below (fun k q=>?_) h.stat.size)
  rcases Nat.lt_or_ge k w0.heap.size with z | z
  ·exact absurd (q▸h.low k z) h.cbP
  ·exact z
theorem Turns.outOf {P:Nat→Prop} {k0:Nat} {w w':World} (ht:Turns (fun k=>k=k0) w w') (h:¬P k0):Turns (cP P) w w':=ht.mono (fun k _ e=>by rw [e];exact h)
theorem CY.store (h:CY w0 P w cb m s lv cv nv D ps) (k:Nat) (v:Value) (hb:(fR m s lv cv nv).set! k v=fR m s' lv cv nv') (hl:s'.lits=s.lits) (hc:s'.code=s.code)
  (hn:NmRow w (fun k=>¬P k∧k≠cb) nv' s'.names) (hok:sH s'.names) (he:s'.ename.size≤bL):CY w0 P (w.setCell ⟨cb,k,none⟩ v) cb m s' lv cv nv' D ps:=by
 have ht:Turns (fun j=>j=cb) w (w.setCell ⟨cb,k,none⟩ v):=(Turns.refl _ _).setCell _ _ (.inl rfl);refine h.reset ht (by rw [heap_setCell_same w cb k _ _ _ h.box,←hb];rfl) hl hc (hn.same ht.size (fun j hj=>?_) (fun _ _ z=>z)) hok he;refine ht.block j (hn.lt hj) (fun e=>?_);subst e;obtain ⟨cur,hcur⟩:=hn.type hj;rw [h.box] at hcur;simp at hcur
end
theorem mW {w0 w:World} {P:Nat→Prop} {cb:Nat} {m:MK} {s:CSt} {lv cv nv:Value} {D:Nat→Prop} {ps:List LP} (h:CY w0 P w cb m s lv cv nv D ps) (name:ByteArray) (hn:name.size≤bL) (x:Int):Calls Tryz.prog 76 #[.pointer (some ⟨cb,0,none⟩),.string name,.int .i64 x] w fun e w'=>e= .returned (.tuple #[])∧CY w0 P w' cb m (aG s name x) lv cv nv D ps∧Turns (fun k=>k=cb) w w':=by
 have k8:w.cell? ⟨cb,8,none⟩=some (.int .i64 s.err):=by rw [h.cell];rfl
 have k7:w.cell? ⟨cb,7,none⟩=some (.string s.ename):=by rw [h.cell];rfl
 have f7:=h.free 7;have f8:=h.free 8;have HY:=J h;clear h
 by_cases he:s.err=0
 ·have HE:=J he;rw [he] at k8;clear he;go_enter Tryz.func76,Tryz.ntmps76;go_wp2_with fail;go_returns;refine ⟨rfl,?_,?_⟩
  ·have h1:CY w0 P (w.setCell ⟨cb,7,none⟩ (.string name)) cb m {s with ename:=name} lv cv nv D ps:=HY.out.store (s':={s with ename:=name}) 7 _ rfl rfl rfl HY.out.names HY.out.nok hn;have h2:CY w0 P ((w.setCell ⟨cb,7,none⟩ (.string name)).setCell ⟨cb,8,none⟩ (.int .i64 x)) cb m {s with ename:=name,err:=x} lv cv nv D ps:=h1.store (s':={s with ename:=name,err:=x}) 8 _ rfl rfl rfl h1.names h1.nok hn;unfold aG;rw [if_pos HE.out];exact h2
  ·exact ((Turns.refl (fun k=>k=cb) w).setCell _ _ (.inl rfl)).setCell _ _ (.inl rfl)
 ·have HE:=J he;have e1:(s.err==0)=false:=Y20;clear he;go_enter Tryz.func76,Tryz.ntmps76;go_wp2_with fail;go_returns;refine ⟨rfl,?_,Turns.refl _ _⟩;unfold aG;rw [if_neg HE.out];exact HY.out
theorem eP {w0 w:World} {P:Nat→Prop} {cb:Nat} {m:MK} {s:CSt} (h:CX w0 P w cb m s) (name:ByteArray) (hn:name.size≤bL) (x:Int):Calls Tryz.prog 76 #[.pointer (some ⟨cb,0,none⟩),.string name,.int .i64 x] w fun e w'=>e= .returned (.tuple #[])∧CT w0 P w w' cb m (aG s name x):=by
 obtain ⟨lv,cv,nv,D,ps,hy,hfw⟩:=h;refine (mW hy name hn x).mono ?_;rintro e w' ⟨he,hc,ht⟩;exact ⟨he,⟨lv,cv,nv,D,ps,hc,by rw [show (aG s name x).temps=s.temps by unfold aG;split <;> rfl,show (aG s name x).names=s.names by unfold aG;split <;> rfl];exact hfw⟩,Turns.outOf ht hy.cbP⟩
theorem oU {w0 w:World} {P:Nat→Prop} {cb:Nat} {m:MK} {s:CSt} (h:CX w0 P w cb m s):Calls Tryz.prog 101 #[.pointer (some ⟨cb,0,none⟩)] w fun e w'=>e= .returned (.int .i64 (s.code.length:Int))∧w'=w:=by
 obtain ⟨lv,cv,nv,D,ps,hy,hfw⟩:=h;obtain ⟨A,c,hcv,hle,hmx⟩:=aX hy.code;have k5:w.cell? ⟨cb,5,none⟩=some (.slice A s.code.length c):=by rw [hy.cell,←hcv];rfl
 clear hy hcv hfw;go_enter Tryz.func101,Tryz.ntmps101;go_wp2_with fail;go_ret;exact ⟨rfl,rfl⟩
section
variable {w0 w:World} {P:Nat→Prop} {cb:Nat} {m:MK} {s:CSt} {lv cv nv:Value} {D:Nat→Prop} {ps:List LP} {w':World} {cv':Value}
theorem CY.push (h:CY w0 P w cb m s lv cv nv D ps) (i:Ins) (hown:w'.ownsRow 0 42 3 cv' (s.code.length+1) (s.code.flatMap gF++gF i)) (hg:w.grownBy w' cv.ownBlock) (hat:cv'.ownBlock=cv.ownBlock∨cv'.ownBlock=some w.heap.size):
  w'.heap[cb]? =some (.cells (fR m s lv cv nv) 80 (0,0))∧CY w0 P (w'.setCell ⟨cb,5,none⟩ cv') cb m {s with code:=s.code++[i]} lv cv' nv D ps∧Turns (cP P) w (w'.setCell ⟨cb,5,none⟩ cv'):=by
 obtain ⟨n1,n2⟩:=h.ne;have ht:Turns (fun k=>cv.ownBlock=some k) w w':=⟨hg.os,hg.tape,hg.output,hg.size,fun k hk hs=>hg.block k hk (fun e=>hs e.symm)⟩;have hcb:=aA h.box;have hbx:w'.heap[cb]? =some (.cells (fR m s lv cv nv) 80 (0,0)):=(ht.block cb hcb (fun e=>(n2 cb e).1 rfl)).trans h.box;have ht2:Turns (fun k=>k=cb) w' (w'.setCell ⟨cb,5,none⟩ cv'):=(Turns.refl _ _).setCell _ _ (.inl rfl);have ht3:Turns (fun k=>cv.ownBlock=some k∨k=cb) w (w'.setCell ⟨cb,5,none⟩ cv'):=(ht.mono (fun _ _ z=>.inl z)).setCell _ _ (.inl (.inr rfl));have hcv':∀k,cv'.ownBlock=some k→(¬P k)∧k≠cb:=fun k hk=>by
  rcases hat with q | q
  ·rw [q] at hk;exact ⟨h.cvP k hk,(n2 k hk).1⟩
  ·rw [q] at hk
   cases hk
   exact ⟨fun z=>by have:=h.lim _ z;omega,by omega⟩
 refine ⟨hbx,⟨?_,?_,h.lps,?_,?_,h.nok,h.cbP,h.lvP,fun k hk=>(hcv' k hk).1,fun k hk=>⟨aN (h.dlt k hk).1 ht3.size,(h.dlt k hk).2⟩,fun k hk=>?_,?_,h.low,fun k hk=>aN (h.lim k hk) ht3.size,h.enm,h.dge⟩,?_⟩
 ·rw [heap_setCell_same w' cb 5 _ _ _ hbx];rfl
 ·exact h.lits.same ht3.size (fun k hk=>ht3.block k (World.ownsRow.lt h.lits.own k hk).2 (fun q=>q.elim (fun e=>(n1 k hk).2 e) (fun e=>(n1 k hk).1 e))) (fun b hb hl=>ht3.block b hl (fun q=>q.elim (fun e=>(n2 b e).2 hb) (fun e=>(h.dlt b hb).2 e))) (fun _ z=>z)
 ·have e:(s.code++[i]).flatMap gF=s.code.flatMap gF++gF i:=Y12
  show World.ownsRow _ 0 42 3 cv' (s.code++[i]).length ((s.code++[i]).flatMap gF)
  rw [e,List.length_append];exact aJ hown ht2.size (fun k hk=>ht2.block k (World.ownsRow.lt hown k hk).2 (hcv' k hk).2)
 ·refine h.names.same ht3.size (fun k hk=>ht3.block k (h.names.lt hk) (fun q=>?_)) (fun _ _ z=>z);obtain ⟨cur,hc⟩:=h.names.type hk
  rcases q with e | e
  ·obtain ⟨cur2,hc2⟩:=bN h.code e;rw [hc] at hc2;simp at hc2
  ·rw [e,h.box] at hc;simp at hc
 ·obtain ⟨cur,hc⟩:=h.dty k hk;exact ⟨cur,(ht3.block k (aA hc) (fun q=>q.elim (fun e=>(n2 k e).2 hk) (fun e=>(h.dlt k hk).2 e))).trans hc⟩
 ·refine h.stat.trans (ht3.below (fun k q=>?_) h.stat.size)
  rcases Nat.lt_or_ge k w0.heap.size with z | z
  ·exact q.elim (fun e=>absurd (h.low k z) (h.cvP k e)) (fun e=>absurd (e▸h.low k z) h.cbP)
  ·exact z
 ·exact ht3.mono (fun k _ q=>q.elim (fun e=>h.cvP k e) (fun e=>by rw [e];exact h.cbP))
end
theorem cY {w:World} {g:Nat} {cs:Array Value} {t:TypeId} {fr:Nat×Nat} (h:w.heap[g]? =some (.cells cs t fr)):∀(j:Nat) (u:Value),cs.toList[j]? =some u→w.cell? ((⟨g,0,none⟩:Addr).add j)=some u:=fun j u hj=>by
 rw [hH,Nat.zero_add];simp only [World.cell?,h];simpa using hj
theorem iA {w0 w:World} {P:Nat→Prop} {cb:Nat} {m:MK} {s:CSt} (h:CX w0 P w cb m s) (op a b:Int) (hf:s.code.length≤1000000):Calls Tryz.prog 56 #[.pointer (some ⟨cb,0,none⟩),.int .i64 op,.int .i64 a,.int .i64 b] w fun e w'=>e= .returned (.tuple #[])∧CT w0 P w w' cb m (aB s op a b):=by
 obtain ⟨lv,cv,nv,D,ps,hy,hfw⟩:=h;obtain ⟨i0,hi,hz0,hz1,hz2⟩:=cQ infoI;have hb1:Below w.heap.size w (w.alloc (.cells #[.int .i64 op,.int .i64 a,.int .i64 b] 42)):=ba;have HYA:=J (hy.below hb1 (fun _ z=>z) (fun _ z=>.inl z));obtain ⟨A,c,hcv,hle,hmx⟩:=aX hy.code;subst hcv;obtain ⟨n,hn⟩:=aE s.code.length;have HN:=J hn;have k5:w.cell? ⟨cb,5,none⟩=some (.slice A n c):=by rw [hy.cell,←hn];rfl
 have HG:Hid ((w.alloc (.cells #[.int .i64 op,.int .i64 a,.int .i64 b] 42)).heap[w.heap.size]? =some (.cells #[.int .i64 op,.int .i64 a,.int .i64 b] 42 (0,0))):=J (heap_alloc_new w _);have HO:Hid ((w.alloc (.cells #[.int .i64 op,.int .i64 a,.int .i64 b] 42)).ownsRow 0 42 3 (.slice A n c) n (s.code.flatMap gF)):=J (by rw [←hn];exact HYA.out.code);rw [hn] at hf;clear hy hn hb1;go_enter Tryz.func56,Tryz.ntmps56;go_wp2_with (at_builtin;refine wpList_append_own_at _ rfl _ _ 30 rfl 0 42 i0 (.agg #[.int .i64 0,.int .i64 0,.int .i64 0]) 3 24 Tryz.underlying30 hi hz0 hz1 hz2 rfl Y3 _ _ _ rfl HO.out ⟨w.heap.size,0,none⟩ 1 1 [.int .i64 op,.int .i64 a,.int .i64 b] rfl rfl (cY HG.out) Y89 Y24 I (Nat.zero_le _) ?_;intro v5 w5 hown hg _ hat;have hpu:=HYA.out.push (w':=w5) (cv':=v5) ⟨op,a,b⟩ (by rw [HN.out];exact hown) (by rw [HN.out];exact hg) (by rw [HN.out];exact hat);obtain ⟨A5,c5,hv5,_⟩:=aX hown;subst hv5;have q5:w5.cell? ⟨cb,5,none⟩=some (.slice A n c):=(by rw [←HN.out];simp [World.cell?,hpu.1,fR]);have r5:w5.frozen? ⟨cb,5,none⟩=false:=(by simp [World.frozen?,hpu.1]);have HPU:=J hpu.2;clear hpu hown hg hat);go_returns;exact ⟨rfl,⟨_,_,_,_,_,HPU.out.1,hfw⟩,(Turns.of_below (ba)).trans (HPU.out.2.mono (fun _ _ z=>z))⟩
theorem eI (n:ByteArray) (hn:n.size≤bL) (w:World):Calls Tryz.prog 75 #[.string n] w fun e w'=>e= .returned (.bool (dH n))∧w'=w:=by
 cases q0:n.toList==[115,101,108,102] with
 | true=>
  rw [show dH n=true from by unfold dH;simp only [eE,cG,gS,eZ,dU,cL,q0];rfl];clear hn;go_enter Tryz.func75,Tryz.ntmps75;go_wp2_with fail;go_ret;exact ⟨rfl,rfl⟩
 | false=>
  cases q1:n.toList==[115,117,112,101,114] with
  | true=>
   rw [show dH n=true from by unfold dH;simp only [eE,cG,gS,eZ,dU,cL,q0,q1];rfl];clear hn;go_enter Tryz.func75,Tryz.ntmps75;go_wp2_with fail;go_ret;exact ⟨rfl,rfl⟩
  | false=>
   cases q2:n.toList==[110,105,108] with
   | true=>
    rw [show dH n=true from by unfold dH;simp only [eE,cG,gS,eZ,dU,cL,q0,q1,q2];rfl];clear hn;go_enter Tryz.func75,Tryz.ntmps75;go_wp2_with fail;go_ret;exact ⟨rfl,rfl⟩
   | false=>
    cases q3:n.toList==[116,114,117,101] with
    | true=>
     rw [show dH n=true from by unfold dH;simp only [eE,cG,gS,eZ,dU,cL,q0,q1,q2,q3];rfl];clear hn;go_enter Tryz.func75,Tryz.ntmps75;go_wp2_with fail;go_ret;exact ⟨rfl,rfl⟩
    | false=>
     cases q4:n.toList==[102,97,108,115,101] with
     | true=>
      rw [show dH n=true from by unfold dH;simp only [eE,cG,gS,eZ,dU,cL,q0,q1,q2,q3,q4];rfl];clear hn;go_enter Tryz.func75,Tryz.ntmps75;go_wp2_with fail;go_ret;exact ⟨rfl,rfl⟩
     | false=>
      cases q5:n.toList==[116,104,105,115,67,111,110,116,101,120,116] with
      | true=>
       rw [show dH n=true from by unfold dH;simp only [eE,cG,gS,eZ,dU,cL,q0,q1,q2,q3,q4,q5];rfl];clear hn;go_enter Tryz.func75,Tryz.ntmps75;go_wp2_with fail;go_ret;exact ⟨rfl,rfl⟩
      | false=>
       rw [show dH n=false from by unfold dH;simp only [eE,cG,gS,eZ,dU,cL,q0,q1,q2,q3,q4,q5];rfl];clear hn;go_enter Tryz.func75,Tryz.ntmps75;go_wp2_with fail;go_ret;exact ⟨rfl,rfl⟩
theorem Z3 {P:Prop} (h:P:=by
 clear hl h1 h2 h0;go_enter Tryz.func95,Tryz.ntmps95;go_wp2_with fail;go_ret;exact ⟨rfl,rfl⟩):P:=h
theorem eM (n:ByteArray) (hn:n.size≤bL) (w:World):Calls Tryz.prog 95 #[.string n] w fun e w'=>e= .returned (.bool (fA n))∧w'=w:=by
 cases hl:n.toList with
 | nil=>
  rw [show fA n=false from by unfold fA;rw [hl]];clear hn;go_enter Tryz.func95,Tryz.ntmps95;go_wp2_with fail;go_ret;exact ⟨rfl,rfl⟩
 | cons c r=>
  have h0:n.data[0]? =some c:=by
   rw [ByteArray.toList_eq] at hl;rw [←Array.getElem?_toList,hl];rfl
  have hsz:0<n.size:=by
   rcases Nat.eq_zero_or_pos n.size with q | q
   ·have:n.data.size=0:=q;rw [Array.getElem?_eq_none I] at h0;cases h0
   ·exact q
  have hne:n.toList.isEmpty=false:=by rw [hl];rfl
  have hc0:n[0]=c:=by
   have h3:n.data[0]? =some (n.data[0]'hsz):=Array.getElem?_eq_getElem hsz;rw [h0] at h3;exact (Option.some.inj h3).symm
  have d0:=aD hsz;have hcv:fA n=(decide (65≤c.toNat) && decide (c.toNat≤90)):=by unfold fA;rw [hl]
  rw [hcv];clear hcv
  by_cases h1:65≤c.toNat
  ·rw [aD h1];have d1:decide ((65:Int)≤(c.toNat:Int))=true:=aD I
   by_cases h2:c.toNat≤90
   ·rw [aD h2];have d2:decide ((c.toNat:Int)≤90)=true:=aD I;exact Z3
   ·rw [aK h2];have d2:decide ((c.toNat:Int)≤90)=false:=aK I;exact Z3
  ·rw [aK h1];have d1:decide ((65:Int)≤(c.toNat:Int))=false:=aK I;clear hl h1 h0;go_enter Tryz.func95,Tryz.ntmps95;go_wp2_with fail;go_ret;exact ⟨rfl,rfl⟩
theorem cO {w0 ws w1 w:World} {P:Nat→Prop} {cb:Nat} {m:MK} {s:CSt} (h:CT w0 P ws w1 cb m s) (hb:Below w1.heap.size w1 w) (name:ByteArray) (hn:name.size≤bL) (x:Int):Calls Tryz.prog 76 #[.pointer (some ⟨cb,0,none⟩),.string name,.int .i64 x] w fun e w'=>e= .returned (.tuple #[])∧CT w0 P ws w' cb m (aG s name x):=by
 have h2:=h.below hb;refine (eP h2.1 name hn x).mono ?_;rintro e w' ⟨he,hc⟩;exact ⟨he,h2.go hc⟩
theorem bP {w0 ws w1 w:World} {P:Nat→Prop} {cb:Nat} {m:MK} {s:CSt} (h:CT w0 P ws w1 cb m s) (hb:Below w1.heap.size w1 w) (op a b:Int) (hf:s.code.length≤1000000):Calls Tryz.prog 56 #[.pointer (some ⟨cb,0,none⟩),.int .i64 op,.int .i64 a,.int .i64 b] w fun e w'=>e= .returned (.tuple #[])∧CT w0 P ws w' cb m (aB s op a b):=by
 have h2:=h.below hb;refine (iA h2.1 op a b hf).mono ?_;rintro e w' ⟨he,hc⟩;exact ⟨he,h2.go hc⟩
def kV (k:Nm):Value:=.agg #[.string k.name,.bool (decide (k.kind=1)),.bool (decide (k.kind=3)),.int .i64 k.at_]
def rN:Option Nat→Int
 | none=> -1
 | some i=>(i:Int)
def gR:Option Nm→Value
 | some k=>.tuple #[kV k,.bool true]
 | none=>.tuple #[.agg #[.string eB,.bool false,.bool false,.int .i64 0],.bool false]
theorem gU {α:Type} {p:α→Bool} {l:List α} {k:Nat} (hk:k<l.length) (h:(l.take k).any p=false) (hp:p l[k]=true):l.findIdx? p=some k:=by
 rw [List.findIdx?_eq_some_iff_getElem];refine ⟨hk,hp,fun j hj=>?_⟩;rw [List.any_eq_false] at h;have hm:l[j]'I∈l.take k:=by
  rw [List.mem_take_iff_getElem];exact ⟨j,by omega,rfl⟩
 simpa using h _ hm
theorem gV {α:Type} {p:α→Bool} {l:List α} (h:l.any p=false):l.findIdx? p=none:=by
 rw [List.findIdx?_eq_none_iff];intro x hx;rw [List.any_eq_false] at h;simpa using h x hx
theorem gH {α:Type} {l:List α} {p:α→Bool} {k:Nat} (hk:k<l.length) (h:p l[k]=false) (ha:(l.take k).any p=false):(l.take (k+1)).any p=false:=by
 rw [List.take_succ_eq_append_getElem hk,List.any_append,ha];simp [h]
def jR (t:ByteArray) (k:Nm):Bool:=k.name.toList==t.toList
theorem oV (l:List Nm) (t:ByteArray):cE l t=(l.findIdx? (jR t)).bind (fun i=>l[i]?):=by
 unfold cE
 show l.find? (jR t)=_
 cases h:l.findIdx? (jR t) with
 | none=>
  rw [List.findIdx?_eq_none_iff] at h;rw [List.find?_eq_none.2 (fun x hx=>by simpa using h x hx)]
  rfl
 | some i=>
  rw [List.findIdx?_eq_some_iff_getElem] at h;obtain ⟨hi,hp,hj⟩:=h
  show _=l[i]?
  rw [List.getElem?_eq_getElem hi];rw [List.find?_eq_some_iff_getElem];exact ⟨hp,i,hi,rfl,fun j hj'=>by simpa using hj j hj'⟩
theorem fclo_any {w:World} {fb:Nat} {t:ByteArray} (hfb:w.cell? ⟨fb,0,none⟩=some (.string t)) (k:Nm):Calls Tryz.prog 91 #[kV k,.pointer (some ⟨fb,0,none⟩)] w fun e w'=>e= .returned (.bool (jR t k))∧Below w.heap.size w w':=by
 obtain ⟨b,hb⟩:=aE ((k.name.toList==t.toList));have HB:Hid (jR t k=b):=J hb;obtain ⟨kn,kk,ka⟩:=k;unfold kV;simp only at hb ⊢;have hfl:=jZ hfb;go_enter Tryz.func91,Tryz.ntmps91;go_wp2_with fail;go_ret;exact ⟨aY (by rw [HB.out,←hb]),bel⟩
theorem oB {w:World} {W:Nat→Prop} {A:Option Addr} {n c:Nat} {l:List Nm} (hN:NmRow w W (.slice A n c) l) (hn:l.length=n) (hle:n≤100000) {fb:Nat} {t:ByteArray} (hfb:w.cell? ⟨fb,0,none⟩=some (.string t)):Calls Tryz.prog 90 #[.slice A n c,.func (.func 91) #[] #[.pointer (some ⟨fb,0,none⟩)]] w fun e w'=>e= .returned (.int .i64 (rN (l.findIdx? (jR t))))∧Below w.heap.size w w':=by
 have HN:=J hN;have HL:=J hn;have HF:=J hfb;clear hN hn hfb;go_enter Tryz.func90,Tryz.ntmps90;go_wp2_with fail
 go_loopw [8] (fun i wr=>∃k:Nat,k≤n∧i= .int .i64 k∧(l.take k).any (jR t)=false∧Below w.heap.size w wr) (fun i _=>n-(intOf i).toNat)
 case atStart=>exact ⟨0,Nat.zero_le _,rfl,rfl,Below.refl _ _⟩
 case round=>
  obtain ⟨k,hk,rfl,hall,hbw⟩:=hrel;have HALL:=J hall;have HBW:=J hbw;have hws:=hbw.size;clear hall
  by_cases hlt:k<n
  ·have d1:=aD hlt;have hkl:k<l.length:=Y48;obtain ⟨b,c',hv,hbl,c0,c1,c2,c3⟩:=HN.out.at_ hkl;simp only [Value.slice.injEq] at hv;obtain ⟨rfl,hx9,rfl⟩:=hv;clear hx9;have hc:=fun j=>(hbw.cell (p:=⟨b,j,none⟩) hbl)
   replace c0:=(hc _).trans c0;replace c1:=(hc _).trans c1;replace c2:=(hc _).trans c2;replace c3:=(hc _).trans c3;have hft:wr.cell? ⟨fb,0,none⟩=some (.string t):=(hbw.cell (p:=⟨fb,0,none⟩) (jZ HF.out)).trans HF.out;have HFT:=J hft;obtain ⟨kx,hkx⟩:=aE (l[k]);have HKX:=J hkx;rw [hkx] at c0 c1 c2 c3;have hcl:=fclo_any hft kx;unfold kV at hcl;obtain ⟨kn,kk,ka⟩:=kx;simp only at c0 c1 c2 c3 hcl;have g0:(0:Int)≤(k:Int):=I;have g1:(k:Int)<(n:Int):=I;clear hkx hc hft hbw;obtain ⟨v,hv⟩:=aE (jR t ⟨kn,kk,ka⟩);rw [hv] at hcl;have HV:=J hv;have HCL:=J hcl;clear hv hcl
   cases v
   ·go_wp2_with (go_at_call 91;(with_reducible refine HCL.out.mono ?_);rintro e w1 ⟨rfl,HB1⟩;replace HB1:=J HB1);go_roundw
    case rel=>exact ⟨k+1,by omega,by go_num,gH hkl Y140 HALL.out,HBW.out.trans (HB1.out.mono HBW.out.size)⟩
    case measure=>simp [intOf];omega
   ·go_wp2_with (go_at_call 91;(with_reducible refine HCL.out.mono ?_);rintro e w1 ⟨rfl,HB1⟩;replace HB1:=J HB1);go_ret;exact ⟨by rw [gU hkl HALL.out Y140];rfl,HBW.out.trans (HB1.out.mono HBW.out.size)⟩
  ·have hkn:k=n:=I;have d1:=aK hlt;clear hlt;subst hkn;go_wp2_with fail;go_ret;refine ⟨?_,HBW.out⟩;have h9:=HALL.out;rw [←HL.out,List.take_length] at h9;rw [gV h9]
   rfl
theorem fT {w:World} {b:Nat} {a0 a1 a2 a3 x0 x1 x2 x3:Value} {T:TypeId} (h:w.heap[b]? =some (.cells #[a0,a1,a2,a3] T (0,0))):((((w.setCell ⟨b,0,none⟩ x0).setCell ⟨b,1,none⟩ x1).setCell ⟨b,2,none⟩ x2).setCell ⟨b,3,none⟩ x3).heap[b]? =some (.cells #[x0,x1,x2,x3] T (0,0)):=by
 have h0:(w.setCell ⟨b,0,none⟩ x0).heap[b]? =some (.cells #[x0,a1,a2,a3] T (0,0)):=by rw [heap_setCell_same _ b 0 _ _ _ h];rfl
 have h1:((w.setCell ⟨b,0,none⟩ x0).setCell ⟨b,1,none⟩ x1).heap[b]? =some (.cells #[x0,x1,a2,a3] T (0,0)):=by rw [heap_setCell_same _ b 1 _ _ _ h0];rfl
 have h2:(((w.setCell ⟨b,0,none⟩ x0).setCell ⟨b,1,none⟩ x1).setCell ⟨b,2,none⟩ x2).heap[b]? =some (.cells #[x0,x1,x2,a3] T (0,0)):=by rw [heap_setCell_same _ b 2 _ _ _ h1];rfl
 rw [heap_setCell_same _ b 3 _ _ _ h2];rfl
theorem eN {B:Nat} {w w1:World} {b:Nat} {x0 x1 x2 x3:Value} (h:Below B w w1) (hb:B≤b):Below B w ((((w1.setCell ⟨b,0,none⟩ x0).setCell ⟨b,1,none⟩ x1).setCell ⟨b,2,none⟩ x2).setCell ⟨b,3,none⟩ x3):=
 (((h.setCell hb _).setCell hb _).setCell hb _).setCell hb _
theorem bJ {w0 w:World} {P:Nat→Prop} {cb:Nat} {m:MK} {s:CSt} (h:CX w0 P w cb m s) (t:ByteArray) (ht:t.size≤bL):Calls Tryz.prog 74 #[.pointer (some ⟨cb,0,none⟩),.string t] w fun e w'=>e= .returned (gR (cE s.names t))∧Below w.heap.size w w':=by
 obtain ⟨lv,cv,nv,D,ps,hy,hfew⟩:=h;obtain ⟨A,c,hnv,hle⟩:=hy.names.slice;subst hnv;obtain ⟨n,hn⟩:=aE s.names.length;have HN:=J hn;have k6:w.cell? ⟨cb,6,none⟩=some (.slice A n c):=by rw [hy.cell,←hn];rfl
 have hnr:=hy.names;rw [hn] at hnr hfew;have HNR:=J hnr;have hcbl:=aA hy.box;have hn2:n≤100000:=I;clear hnr hfew hle;obtain ⟨o,ho⟩:=aE (s.names.findIdx? (jR t));have hfi:=oV s.names t;rw [ho] at hfi;have HFI:=J hfi;have HO:=J ho;have HW:Hid (Below w.heap.size w ((w.alloc (.cells #[.string t] 9)).alloc (.cells #[.string eB,.bool false,.bool false,.int .i64 0] 82))):=J bel;have HF0:Hid (((w.alloc (.cells #[.string t] 9)).alloc (.cells #[.string eB,.bool false,.bool false,.int .i64 0] 82)).cell? ⟨w.heap.size,0,none⟩=some (.string t)):=J (by simp [go_sem]);clear hy hn hfi ho;have HT0:Hid (((w.alloc (.cells #[.string t] 9)).alloc (.cells #[.string eB,.bool false,.bool false,.int .i64 0] 82)).heap[w.heap.size+1]? =some (.cells #[.string eB,.bool false,.bool false,.int .i64 0] 82 (0,0))):=J (by
  have:=heap_alloc_new (w.alloc (.cells #[.string t] 9)) (.cells #[.string eB,.bool false,.bool false,.int .i64 0] 82);rw [World.size_alloc] at this;exact this)
 cases o with
 | none=>
  have HR:Hid (gR (cE s.names t)=gR none):=J (by rw [HFI.out];rfl);go_enter Tryz.func74,Tryz.ntmps74;go_wp2_with (go_at_call 90;(with_reducible refine (oB (HNR.out.same HW.out.size (fun k hk=>HW.out.block k (HNR.out.lt hk)) (fun _ _ z=>z)) HN.out I HF0.out).mono ?_);rw [HO.out];rintro e w1 ⟨rfl,hb1⟩;unfold rN;have hT:=(hb1.block (w.heap.size+1) Y12).trans HT0.out;have q0:w1.cell? ⟨w.heap.size+1,0,none⟩=some (.string eB):=Y69;have q1:w1.cell? ⟨w.heap.size+1,1,none⟩=some (.bool false):=Y69;have q2:w1.cell? ⟨w.heap.size+1,2,none⟩=some (.bool false):=Y69;have q3:w1.cell? ⟨w.heap.size+1,3,none⟩=some (.int .i64 0):=Y69;have r0:w1.frozen? ⟨w.heap.size+1,0,none⟩=false:=Y61;have r1:w1.frozen? ⟨w.heap.size+1,1,none⟩=false:=Y61;have r2:w1.frozen? ⟨w.heap.size+1,2,none⟩=false:=Y61;have r3:w1.frozen? ⟨w.heap.size+1,3,none⟩=false:=Y61;have HB1:=J (HW.out.trans (hb1.mono HW.out.size));have HT1:=J hT;have k6':w1.cell? ⟨cb,6,none⟩=some (.slice A n c):=(HB1.out.cell (p:=⟨cb,6,none⟩) hcbl).trans k6;clear hb1 hT);obtain ⟨W9,hW9⟩:∃W9,W9=((((w1.setCell ⟨w.heap.size+1,0,none⟩ (.string eB)).setCell ⟨w.heap.size+1,1,none⟩ (.bool false)).setCell ⟨w.heap.size+1,2,none⟩ (.bool false)).setCell ⟨w.heap.size+1,3,none⟩ (.int .i64 0)):=⟨_,rfl⟩;have h9:W9.heap[w.heap.size+1]? =some (.cells #[.string eB,.bool false,.bool false,.int .i64 0] 82 (0,0)):=by rw [hW9];exact fT HT1.out
  have z0:W9.cell? ⟨w.heap.size+1,0,none⟩=some (.string eB):=Y11;have z1:W9.cell? ⟨w.heap.size+1,1,none⟩=some (.bool false):=Y11;have z2:W9.cell? ⟨w.heap.size+1,2,none⟩=some (.bool false):=Y11;have z3:W9.cell? ⟨w.heap.size+1,3,none⟩=some (.int .i64 0):=Y11;have HW9:=J hW9;rw [←hW9];clear hW9 h9;refine bodyPost_ret (v:=.tuple #[.agg #[.string eB,.bool false,.bool false,.int .i64 0],.bool false]) (by simp [results,Tryz.results74,go_sem,z0,z1,z2,z3]) rfl ⟨by rw [HR.out];rfl,by rw [HW9.out];exact eN HB1.out (Nat.le_succ _)⟩
 | some i=>
  have hil:i<s.names.length:=by
   have:=HO.out;rw [List.findIdx?_eq_some_iff_getElem] at this;exact this.1
  obtain ⟨b,c',hv,hbl,c0,c1,c2,c3⟩:=HNR.out.at_ hil;simp only [Value.slice.injEq] at hv;obtain ⟨rfl,hx9,rfl⟩:=hv;clear hx9;obtain ⟨kx,hkx⟩:=aE (s.names[i]);rw [hkx] at c0 c1 c2 c3;have HR:Hid (gR (cE s.names t)=gR (some kx)):=J (by rw [HFI.out];show gR (s.names[i]?)=_;rw [List.getElem?_eq_getElem hil,hkx]);have HC:Hid (w.cell? ⟨b,i*4,none⟩=some (.string kx.name)∧w.cell? ⟨b,i*4+1,none⟩=some (.bool (decide (kx.kind=1)))∧w.cell? ⟨b,i*4+2,none⟩=some (.bool (decide (kx.kind=3)))∧w.cell? ⟨b,i*4+3,none⟩=some (.int .i64 kx.at_)):=J ⟨c0,c1,c2,c3⟩;have hi2:i<n:=by rw [←HN.out];exact hil
  have g0:(0:Int)≤(i:Int):=I;have g1:(i:Int)<(n:Int):=I;clear c0 c1 c2 c3 hkx hil;go_enter Tryz.func74,Tryz.ntmps74;go_wp2_with (go_at_call 90;(with_reducible refine (oB (HNR.out.same HW.out.size (fun k hk=>HW.out.block k (HNR.out.lt hk)) (fun _ _ z=>z)) HN.out I HF0.out).mono ?_);rw [HO.out];rintro e w1 ⟨rfl,hb1⟩;unfold rN;have hT:=(hb1.block (w.heap.size+1) Y12).trans HT0.out;have q0:w1.cell? ⟨w.heap.size+1,0,none⟩=some (.string eB):=Y69;have q1:w1.cell? ⟨w.heap.size+1,1,none⟩=some (.bool false):=Y69;have q2:w1.cell? ⟨w.heap.size+1,2,none⟩=some (.bool false):=Y69;have q3:w1.cell? ⟨w.heap.size+1,3,none⟩=some (.int .i64 0):=Y69;have r0:w1.frozen? ⟨w.heap.size+1,0,none⟩=false:=Y61;have r1:w1.frozen? ⟨w.heap.size+1,1,none⟩=false:=Y61;have r2:w1.frozen? ⟨w.heap.size+1,2,none⟩=false:=Y61;have r3:w1.frozen? ⟨w.heap.size+1,3,none⟩=false:=Y61;have HB1:=J (HW.out.trans (hb1.mono HW.out.size));have HT1:=J hT;have e0:=(HB1.out.cell (p:=⟨b,i*4,none⟩) hbl).trans HC.out.1;have e1:=(HB1.out.cell (p:=⟨b,i*4+1,none⟩) hbl).trans HC.out.2.1;have e2:=(HB1.out.cell (p:=⟨b,i*4+2,none⟩) hbl).trans HC.out.2.2.1;have e3:=(HB1.out.cell (p:=⟨b,i*4+3,none⟩) hbl).trans HC.out.2.2.2;have k6':w1.cell? ⟨cb,6,none⟩=some (.slice (some ⟨b,0,none⟩) n c):=(HB1.out.cell (p:=⟨cb,6,none⟩) hcbl).trans k6;clear hb1 hT);obtain ⟨W9,hW9⟩:∃W9,W9=((((w1.setCell ⟨w.heap.size+1,0,none⟩ (.string kx.name)).setCell ⟨w.heap.size+1,1,none⟩ (.bool (decide (kx.kind=1)))).setCell ⟨w.heap.size+1,2,none⟩ (.bool (decide (kx.kind=3)))).setCell ⟨w.heap.size+1,3,none⟩ (.int .i64 kx.at_)):=⟨_,rfl⟩;have h9:W9.heap[w.heap.size+1]? =some (.cells #[.string kx.name,.bool (decide (kx.kind=1)),.bool (decide (kx.kind=3)),.int .i64 kx.at_] 82 (0,0)):=by rw [hW9];exact fT HT1.out
  have z0:W9.cell? ⟨w.heap.size+1,0,none⟩=some (.string kx.name):=Y11;have z1:W9.cell? ⟨w.heap.size+1,1,none⟩=some (.bool (decide (kx.kind=1))):=Y11;have z2:W9.cell? ⟨w.heap.size+1,2,none⟩=some (.bool (decide (kx.kind=3))):=Y11;have z3:W9.cell? ⟨w.heap.size+1,3,none⟩=some (.int .i64 kx.at_):=Y11;have HW9:=J hW9;rw [←hW9];clear hW9 h9;refine bodyPost_ret (v:=.tuple #[.agg #[.string kx.name,.bool (decide (kx.kind=1)),.bool (decide (kx.kind=3)),.int .i64 kx.at_],.bool true]) (by simp [results,Tryz.results74,go_sem,z0,z1,z2,z3]) rfl ⟨by rw [HR.out];rfl,by rw [HW9.out];exact eN HB1.out (Nat.le_succ _)⟩
end Go.Proofs.YtnojndgmgkgnpaaGreat
