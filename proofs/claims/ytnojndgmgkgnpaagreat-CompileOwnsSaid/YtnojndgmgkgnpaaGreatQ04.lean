/- Chapter 10: words and contracts for the law. -/
import Derived.Test.YtnojndgmgkgnpaaGreatQ00
import Derived.Test.YtnojndgmgkgnpaaGreatQ03
import Derived.Deep.QuietTactic
import Derived.BigQuiet
set_option maxRecDepth 100000
set_option maxHeartbeats 40000000
set_option linter.unusedVariables false
set_option linter.unusedSimpArgs false
namespace Go.Proofs.YtnojndgmgkgnpaaGreat
structure Gr (s t:CSt) (c k:Nat):Prop where
 code:t.code.length≤s.code.length+c
 lits:t.lits.length≤s.lits.length+k
 names:t.names=s.names
namespace Gr
theorem refl (s:CSt):Gr s s 0 0:=⟨by omega,by omega,rfl⟩
theorem trans {s t u:CSt} {a b c d:Nat} (h:Gr s t a b) (g:Gr t u c d):Gr s u (a+c) (b+d):=
 ⟨by have:=h.code;have:=g.code;omega,by have:=h.lits;have:=g.lits;omega,g.names.trans h.names⟩
theorem mono {s t:CSt} {a b c d:Nat} (h:Gr s t a b) (h1:a≤c) (h2:b≤d):Gr s t c d:=
 ⟨by have:=h.code;omega,by have:=h.lits;omega,h.names⟩
theorem fail (s:CSt) (n:ByteArray) (x:Int):Gr s (aG s n x) 0 0:=by unfold aG;split <;> exact ⟨by simp,by simp,rfl⟩
theorem emit (s:CSt) (o a b:Int):Gr s (aB s o a b) 1 0:=⟨by simp [aB],by simp [aB],rfl⟩
theorem to_ (s:CSt) (a:Nat) (o:Int) (t:Nat):Gr s (toP s a o t) 0 0:=⟨by simp [toP],by simp [toP],rfl⟩
theorem place (s:CSt) (l:LitT):Gr s (bS s l).2 0 1:=by unfold bS;split <;> exact ⟨by simp,by simp,rfl⟩
theorem sym (s:CSt) (t:ByteArray):Gr s (fO s t).2 0 1:=place s _
end Gr
theorem dL (fixed:Bool):∀(l:List ByteArray) (s:CSt),(bI fixed l s).code=s.code∧(bI fixed l s).lits=s.lits
 | [],s=>⟨rfl,rfl⟩
 | n :: r,s=>by
  have hb:(gL s n).code=s.code∧(gL s n).lits=s.lits:=by
   have hf:∀(s:CSt) (x:Int),(aG s n x).code=s.code∧(aG s n x).lits=s.lits:=fun s x=>by
    unfold aG;split <;> exact ⟨rfl,rfl⟩
   have h1:(if (cE s.names n).isSome || dH n then aG s n 16 else s).code=s.code∧(if (cE s.names n).isSome || dH n then aG s n 16 else s).lits=s.lits:=by
    split
    ·exact hf s 16
    ·exact ⟨rfl,rfl⟩
   unfold gL
   generalize (if (cE s.names n).isSome || dH n then aG s n 16 else s)=s1 at h1
   dsimp only
   split
   ·exact ⟨(hf s1 18).1.trans h1.1,(hf s1 18).2.trans h1.2⟩
   ·exact h1
  unfold bI
  split
  ·exact hb
  ·have ih:=dL fixed r (kS (gL s n) n fixed);exact ⟨ih.1.trans hb.1,ih.2.trans hb.2⟩
mutual
theorem lH:∀(x:NodT) (s:CSt),Gr s (dS x s).2 0 0
 | .node k t n _ _ ks,s=>by
  unfold dS
  split
  ·exact Gr.refl s
  split
  ·exact Gr.refl s
  split
  ·exact Gr.refl s
  split
  ·exact sL ks s
  ·exact Gr.fail s _ _
theorem sL:∀(l:List NodT) (s:CSt),Gr s (gC l s).2 0 0
 | [],s=>Gr.refl s
 | x :: r,s=>by
  unfold gC;exact (lH x s).trans (sL r _)
end
theorem wJ (s:CSt) (n:ByteArray):Gr s (gG s n) 1 1:=by
 unfold gG
 split
 ·exact (Gr.emit _ _ _ _).mono I I
 split
 ·exact (Gr.emit _ _ _ _).mono I I
 split
 ·exact (Gr.emit _ _ _ _).mono I I
 split
 ·exact (Gr.emit _ _ _ _).mono I I
 split
 ·exact (Gr.emit _ _ _ _).mono I I
 have h1:Gr s (if n.toList=cG then aG s n 15 else s) 0 0:=by
  split
  ·exact Gr.fail _ _ _
  ·exact Gr.refl s
 generalize (if n.toList=cG then aG s n 15 else s)=s1 at h1
 dsimp only
 split
 ·split
  ·exact (h1.trans (Gr.emit _ _ _ _)).mono I I
  ·exact (h1.trans (Gr.emit _ _ _ _)).mono I I
 ·split
  ·exact (h1.trans ((Gr.sym _ _).trans (Gr.emit _ _ _ _))).mono I I
  ·exact (h1.trans (Gr.fail _ _ _)).mono I I
section
variable (rec:NodT→CSt→CSt) (f:Nat)
def GrR:Prop:=∀(x:NodT) (s:CSt),x.size≤f→Gr s (rec x s) (8*x.size-2) x.size
variable {rec f}
theorem qL (s:CSt) (k:Option Nm) (n:ByteArray):Gr s (dC s k n) 1 0:=by
 unfold dC
 repeat' split
 all_goals first | exact (Gr.emit _ _ _ _) | exact (Gr.fail _ _ _).mono I I
theorem iC {x k:NodT} (h:x.kids=[k]):x.size=k.size+1:=by
 have:=NodT.size_kids x;rw [h] at this;unfold NodT.sizes NodT.sizes at this;omega
theorem uN (hr:GrR rec f) {x:NodT} (hx:x.size≤f+1) (s:CSt):Gr s (fI rec x s) (8*x.size-2) x.size:=by
 have h0:=x.size_pos;unfold fI
 split
 ·rename_i k hk;have h1:=iC hk;have h2:=k.size_pos;exact ((hr k s I).trans (qL _ _ _)).mono I I
 ·exact (Gr.fail _ _ _).mono I I
theorem iD (hr:GrR rec f) {x:NodT} (hx:x.size≤f) (s:CSt):Gr s (cS rec x s).2 (8*x.size-2) x.size:=by
 have h0:=x.size_pos;unfold cS
 split
 ·exact (Gr.emit _ _ _ _).mono I I
 ·exact hr x s hx
theorem oY (hr:GrR rec f):∀(l:List NodT) (s:CSt),NodT.sizes l≤f→Gr s (hY rec l s) (8*NodT.sizes l) (NodT.sizes l)
 | [],s,_=>(Gr.refl s).mono I I
 | a :: r,s,h=>by
  unfold NodT.sizes at h ⊢;unfold hY;exact ((hr a s I).trans (oY hr r _ I)).mono I I
theorem iE (hr:GrR rec f) (op:Int) (sel:ByteArray) (l:List NodT) (s:CSt) (h:NodT.sizes l≤f):Gr s (cT rec op sel l s) (8*NodT.sizes l+1) (NodT.sizes l+1):=by
 unfold cT;exact ((oY hr l s h).trans ((Gr.sym _ _).trans (Gr.emit _ _ _ _))).mono I I
theorem qM (hr:GrR rec f):∀(b:Bool) (l:List NodT) (s:CSt),NodT.sizes l≤f→Gr s (dD rec b l s) (8*NodT.sizes l) (NodT.sizes l)
 | _,[],s,_=>(Gr.refl s).mono I I
 | b,a :: r,s,h=>by
  have h0:=a.size_pos;unfold NodT.sizes at h ⊢;unfold dD;have h1:Gr s (if b then s else aB s 12 0 0) 1 0:=by
   split
   ·exact (Gr.refl s).mono I I
   ·exact Gr.emit _ _ _ _
  generalize (if b then s else aB s 12 0 0)=s0 at h1
  have h2:=h1.trans (hr a s0 I);dsimp only
  generalize rec a s0=s2 at h2
  have h3:Gr s2 (if a.kind=10 then aB s2 2 0 0 else s2) 1 0:=by
   split
   ·exact Gr.emit _ _ _ _
   ·exact (Gr.refl _).mono I I
  exact ((h2.trans h3).trans (qM hr false r _ I)).mono I I
theorem eQ (hr:GrR rec f) {x:NodT} (hx:x.size≤f+1) (s:CSt):Gr s (cN rec x s) (8*x.size-7) (x.size-1):=by
 have h0:=NodT.size_kids x;have hd1:=dL true x.names s;have hd2:=dL false x.temps (bI true x.names s);have h1:=qM hr true x.kids (bI false x.temps (bI true x.names s)) I;have h2:Gr (dD rec true x.kids (bI false x.temps (bI true x.names s))) (if x.kids.length=0 then aB (dD rec true x.kids (bI false x.temps (bI true x.names s))) 2 0 0 else (dD rec true x.kids (bI false x.temps (bI true x.names s)))) 1 0:=by
  split
  ·exact Gr.emit _ _ _ _
  ·exact (Gr.refl _).mono I I
 have h3:=h1.trans h2;refine ⟨?_,?_,rfl⟩
 ·have:=h3.code;rw [hd2.1,hd1.1] at this
  show List.length (ite _ _ _:CSt).code≤_
  omega
 ·have:=h3.lits;rw [hd2.2,hd1.2] at this
  show List.length (ite _ _ _:CSt).lits≤_
  omega
theorem cR (l:List NodT) (i:Nat) (h:i<l.length):(l[i]).size≤NodT.sizes l:=NodT.size_mem (List.getElem_mem h)
def dQ (a:Arm) (kids:List NodT):Nat:=match a with
 | .op _=>0
 | .kid i=>match kids[i]? with
  | some k=>k.size
  | none=>0
theorem lI (hr:GrR rec f) {kids:List NodT} (hk:NodT.sizes kids≤f) (a:Arm) (s:CSt):Gr s (dM rec a kids s) (8*dQ a kids+1) (dQ a kids):=by
 cases a with
 | op o=>exact (Gr.emit _ _ _ _).mono (by unfold dQ;omega) (by unfold dQ;omega)
 | kid i=>
  unfold dM dQ;dsimp only
  cases e:kids[i]? with
  | none=>exact (Gr.refl s).mono I I
  | some k=>
   obtain ⟨hi,rfl⟩:=List.getElem?_eq_some_iff.1 e;have h1:=cR kids i hi;exact (eQ hr (x:=kids[i]) I s).mono (by dsimp only;omega) (by dsimp only;omega)
theorem oZ {t:ByteArray} {y n:Arm} {m:Nat} (h:fJ t=some (y,n,m)):(y= .kid 1∧n= .op 2∧m=2)∨(y= .op 2∧n= .kid 1∧m=2)∨(y= .kid 1∧n= .op 4∧m=2)∨(y= .op 3∧n= .kid 1∧m=2)∨(y= .kid 1∧n= .kid 2∧m=3)∨(y= .kid 2∧n= .kid 1∧m=3):=by
 unfold fJ at h
 repeat' split at h
 all_goals first
  | (cases h;done)
  | (cases h;simp)
theorem qN {x:NodT} {y n:Arm} (h:eX x=some (y,n)):∃m,fJ x.text=some (y,n,m)∧x.kids.length=m∧(x.kids.drop 1).all bU=true:=by
 unfold eX at h
 split at h
 ·rename_i y' n' m e
  split at h
  ·rename_i c
   cases h
   exact ⟨m,e,c⟩
  ·cases h
 ·cases h
theorem lJ {a b:NodT}:NodT.sizes [a,b]=a.size+b.size:=Y152
theorem jF {x k:NodT} {r:List NodT} {y n:Arm} (h:eX x=some (y,n)) (hk:x.kids=k :: r):k.size+dQ y x.kids+dQ n x.kids≤NodT.sizes x.kids:=by
 obtain ⟨m,hb,hl,_⟩:=qN h;have hc:=oZ hb;clear h hb
 rcases hc with ⟨rfl,rfl,rfl⟩ | ⟨rfl,rfl,rfl⟩ | ⟨rfl,rfl,rfl⟩ | ⟨rfl,rfl,rfl⟩ | ⟨rfl,rfl,rfl⟩ | ⟨rfl,rfl,rfl⟩
 all_goals
  rw [hk] at hl ⊢
  match r,hl with
  | [b],_=>simp [dQ,NodT.sizes]
  | [b,c],_=>simp [dQ,NodT.sizes];try omega
theorem pA (hr:GrR rec f) {x:NodT} (hx:x.size≤f+1) {y n:Arm} (h:eX x=some (y,n)) (s:CSt) {k:NodT} {r:List NodT} (hk:x.kids=k :: r):Gr s (cD rec y n x.kids s) (8*x.size-2) x.size:=by
 have h0:=NodT.size_kids x;have h1:=jF h hk;have hkf:NodT.sizes x.kids≤f:=I;have h2:=k.size_pos;have e:cD rec y n x.kids s=(let s1:=rec k s
  let s2:=dM rec y x.kids (aB s1 17 0 0)
  let s3:=aB s2 16 0 0
  let s4:=dM rec n x.kids (toP s3 s1.code.length 17 s3.code.length)
  toP s4 s2.code.length 16 s4.code.length):=by unfold cD;rw [hk]
 rw [e];dsimp only;exact ((((((hr k s I).trans (Gr.emit _ _ _ _)).trans (lI hr hkf _ _)).trans (Gr.emit _ _ _ _)).trans (Gr.to_ _ _ _ _)).trans (lI hr hkf _ _) |>.trans (Gr.to_ _ _ _ _)).mono I I
theorem sM (hr:GrR rec f) {k0 k1:NodT} (hk:k0.size+k1.size≤f) (w:Bool) (s:CSt):Gr s (fE rec w k0 k1 s) (8*(k0.size+k1.size)-9) (k0.size+k1.size):=by
 have h0:=k0.size_pos;have h1:=k1.size_pos;have a0:=eQ hr (x:=k0) I s;unfold fE;dsimp only
 generalize cN rec k0 s=s1 at a0 ⊢
 have a1:Gr s1 (if w then aB s1 17 0 0 else toP (aB (aB s1 17 0 0) 16 0 0) s1.code.length 17 ((aB s1 17 0 0).code.length+1)) 2 0:=by
  split
  ·exact (Gr.emit _ _ _ _).mono I I
  ·exact (((Gr.emit _ _ _ _).trans (Gr.emit _ _ _ _)).trans (Gr.to_ _ _ _ _)).mono I I
 generalize (if w then aB s1 17 0 0 else toP (aB (aB s1 17 0 0) 16 0 0) s1.code.length 17 ((aB s1 17 0 0).code.length+1))=s3 at a1 ⊢
 have a3:=eQ hr (x:=k1) I s3
 generalize cN rec k1 s3=t3 at a3 ⊢
 have a5:Gr t3 (toP (aB (aB t3 12 0 0) 16 0 0) (aB t3 12 0 0).code.length 16 s.code.length) 2 0:=
  (((Gr.emit _ _ _ _).trans (Gr.emit _ _ _ _)).trans (Gr.to_ _ _ _ _)).mono I I
 generalize toP (aB (aB t3 12 0 0) 16 0 0) (aB t3 12 0 0).code.length 16 s.code.length=s5 at a5 ⊢
 have a6:∀(u:CSt) (a b c d:Nat) (o p:Int),Gr s5 (aB (if w then toP s5 a o b else toP s5 c p d) 2 0 0) 1 0:=fun u a b c d o p=>by
  split
  ·exact ((Gr.to_ _ _ _ _).trans (Gr.emit _ _ _ _)).mono I I
  ·exact ((Gr.to_ _ _ _ _).trans (Gr.emit _ _ _ _)).mono I I
 exact ((((a0.trans a1).trans a3).trans a5).trans (a6 s _ _ _ _ _ _)).mono I I
theorem oC {x a b:NodT} {w:Bool} (h:cA x=some (w,a,b)):x.kids=[a,b]∧bU a=true∧bU b=true∧w=decide (x.text.toList=dK)∧(x.text.toList=dK∨x.text.toList=gM):=by
 unfold cA at h
 split at h
 ·rename_i c
  split at h
  ·rename_i a' b' e
   split at h
   ·rename_i p
    cases h
    simp only [Bool.and_eq_true] at p;exact ⟨e,p.1,p.2,rfl,c⟩
   ·cases h
  ·cases h
 ·cases h
theorem sendP_gr (hr:GrR rec f) {x:NodT} (hx:x.size≤f+1) (s:CSt):Gr s (iU rec x s) (8*x.size-2) x.size:=by
 have h0:=NodT.size_kids x;have h00:=x.size_pos;unfold iU
 split
 ·exact (Gr.fail _ _ _).mono I I
 ·rename_i k args hk;have hs:NodT.sizes x.kids=k.size+NodT.sizes args:=by rw [hk,NodT.sizes]
  have hkp:=k.size_pos
  split
  ·rename_i y n hb;exact pA hr hx hb s hk
  ·split
   ·rename_i w a b hl;have h1:=(oC hl).1;have h2:NodT.sizes x.kids=a.size+b.size:=by rw [h1,lJ]
    exact (sM hr (k0:=a) (k1:=b) I w s).mono I I
   ·exact ((iD hr (x:=k) I s).trans (iE hr _ _ _ _ I)).mono I I
theorem qO (hr:GrR rec f) (op:Int):∀(l:List NodT) (s:CSt),NodT.sizes l≤f→Gr s (eF rec op l s) (8*NodT.sizes l) (NodT.sizes l)
 | [],s,_=>(Gr.refl s).mono I I
 | m :: r,s,h=>by
  unfold NodT.sizes at h ⊢;have hm:=NodT.size_kids m;unfold eF;have h1:Gr s (if m.kind≠7 then aG s eB 1 else s) 0 0:=by
   split
   ·exact Gr.fail _ _ _
   ·exact Gr.refl s
  generalize (if m.kind≠7 then aG s eB 1 else s)=s1 at h1
  dsimp only
  split
  ·exact (h1.trans (iE hr _ _ _ _ I)).mono I I
  ·exact ((h1.trans (((Gr.emit _ _ _ _).trans (iE hr op m.text m.kids (aB s1 13 0 0) I)).trans (Gr.emit _ _ _ _))).trans (qO hr op r _ I)).mono I I
theorem cascP_gr (hr:GrR rec f) {x:NodT} (hx:x.size≤f+1) (s:CSt):Gr s (iV rec x s) (8*x.size-2) x.size:=by
 have h0:=NodT.size_kids x;have h00:=x.size_pos;unfold iV
 split
 ·rename_i k m r hk;have hs:NodT.sizes x.kids=k.size+NodT.sizes (m :: r):=by rw [hk,NodT.sizes]
  have hkp:=k.size_pos;have hmp:=m.size_pos;have h3:NodT.sizes (m :: r)=m.size+NodT.sizes r:=by rw [NodT.sizes]
  exact ((iD hr (x:=k) I s).trans (qO hr _ (m :: r) _ I)).mono I I
 ·exact (Gr.fail _ _ _).mono I I
theorem qP (hr:GrR rec f) {x:NodT} (hx:x.size≤f+1) (s:CSt):Gr s (iW rec x s) (8*x.size-2) x.size:=by
 have h00:=x.size_pos;unfold iW;exact (((((Gr.emit _ _ _ _).trans (Gr.emit _ _ _ _)).trans (eQ hr hx _)).trans (Gr.emit _ _ _ _)).trans (Gr.to_ _ _ _ _)).mono I I
theorem stepP_gr (hr:GrR rec f) {x:NodT} (hx:x.size≤f+1) (s:CSt):Gr s (dV rec x s) (8*x.size-2) x.size:=by
 have h00:=x.size_pos;unfold dV
 split
 ·exact (Gr.refl s).mono I I
 split
 ·exact ((lH x s).trans ((Gr.place _ _).trans (Gr.emit _ _ _ _))).mono I I
 split
 ·exact (wJ s _).mono I I
 split
 ·exact uN hr hx s
 split
 ·exact sendP_gr hr hx s
 split
 ·exact cascP_gr hr hx s
 split
 ·exact qP hr hx s
 split
 ·split
  ·rename_i k hk;have h1:=iC hk;have h2:=k.size_pos;exact ((hr k s I).trans (Gr.emit _ _ _ _)).mono I I
  ·exact (Gr.fail _ _ _).mono I I
 ·exact (Gr.fail _ _ _).mono I I
end
theorem dB:∀(f:Nat),GrR (aL f) f
 | 0=>fun x s h=>by have:=x.size_pos;omega
 | f+1=>fun x s h=>stepP_gr (dB f) h s
end Go.Proofs.YtnojndgmgkgnpaaGreat
namespace Go.Proofs.YtnojndgmgkgnpaaGreat
open Go.ChangeShapes Go.WideShapes Go.ChangeAt Go.RowKit Go.Deep Go.Joins Go.Maps
def VSpec (f:Nat):Prop:=∀(x:NodT),x.size≤f→∀{w0 w:World} {P:Nat→Prop} {cb:Nat} {m:MK} {s:CSt} {q:NS},CX w0 P w cb m s→IsNd w0 (fun _=>True) x q→s.code.length+8*x.size≤1000000→s.lits.length+x.size≤100000→
 Calls Tryz.prog 55 #[.pointer (some ⟨cb,0,none⟩),ndV x q] w fun e w'=>e= .returned (.tuple #[])∧CT w0 P w w' cb m (aL f x s)
theorem VSpec.at_ {f:Nat} (hv:VSpec f) {x:NodT} (hx:x.size≤f) {w0 ws w1 w:World} {P:Nat→Prop} {cb:Nat} {m:MK} {s:CSt} {q:NS} (h:CT w0 P ws w1 cb m s) (hb:Below w1.heap.size w1 w) (hn:IsNd w0 (fun _=>True) x q) (hf:s.code.length+8*x.size≤1000000) (hl:s.lits.length+x.size≤100000):
  Calls Tryz.prog 55 #[.pointer (some ⟨cb,0,none⟩),ndV x q] w fun e w'=>e= .returned (.tuple #[])∧CT w0 P ws w' cb m (aL f x s):=by
 have h2:=h.below hb;refine (hv x hx h2.1 hn hf hl).mono ?_;rintro e w' ⟨he,hc⟩;exact ⟨he,h2.go hc⟩
def Rows (w:World) (p:Option Addr) (l:List NodT):Prop:=∀i (h:i<l.length),∃b off q',p=some ⟨b,off,none⟩∧b<w.heap.size∧Cells6 w b (off+i*6) l[i] q'∧IsNd w (fun _=>True) l[i] q'
theorem IsNd.rows {w:World} {x:NodT} {q:NS} (h:IsNd w (fun _=>True) x q):Rows w q.pk x.kids:=fun i hi=>by
 obtain ⟨b,off,q',h1,h2,_,h3,h4⟩:=h.kid hi;exact ⟨b,off,q',h1,h2,h3,h4⟩
theorem bZ {w:World} {b:Nat} {x:NodT} {q:NS} (h:w.heap[b]? =some (.cells #[.int .i64 x.kind,.string x.text,.int .i64 x.num,.slice q.pn x.names.length q.cn,.slice q.pt x.temps.length q.ct,.slice q.pk x.kids.length q.ck] 25 (0,0))):Cells6 w b 0 x q:=
 ⟨by simp [World.cell?,h],by simp [World.cell?,h],by simp [World.cell?,h],by simp [World.cell?,h],by simp [World.cell?,h],by simp [World.cell?,h]⟩
theorem gW {f:Nat} (hv:VSpec f) {w0 w:World} {P:Nat→Prop} {cb:Nat} {m:MK} {s:CSt} (h:CX w0 P w cb m s) {x:NodT} {q:NS} (hn:IsNd w0 (fun _=>True) x q) (hx:x.size≤f) (hf:s.code.length+8*x.size≤1000000) (hl:s.lits.length+x.size≤100000):
  Calls Tryz.prog 100 #[.pointer (some ⟨cb,0,none⟩),ndV x q] w fun e w'=>e= .returned (.int .i64 (cS (aL f) x s).1)∧CT w0 P w w' cb m (cS (aL f) x s).2:=by
 have hsu:=xL hn.ok;have hva:∀{w1 W:World},CT w0 P w w1 cb m s→Below w1.heap.size w1 W→Calls Tryz.prog 55 #[.pointer (some ⟨cb,0,none⟩),ndV x q] W fun e w'=>e= .returned (.tuple #[])∧CT w0 P w w' cb m (aL f x s):=fun hc hb=>hv.at_ hx hc hb hn hf hl
 have HF:Hid (s.code.length≤1000000):=J I;have HH:=J h;unfold ndV at hsu hva ⊢
 cases hs:mB x with
 | true=>
  rw [hs] at hsu;rw [show cS (aL f) x s=(15,aB s 1 0 0) from by unfold cS;rw [if_pos hs]];have HSU:=J hsu;clear hsu hva hn hx hf hl h hs hv;go_enter Tryz.func100,Tryz.ntmps100;go_wp2_with (first | (go_at_call 114;(with_reducible refine (HSU.out _).mono ?_);rintro e w2 ⟨rfl,hb2⟩;have HX2:=J ((HH.out.ct.below (bz w)).below hb2);have hc6:=(bZ (heap_alloc_new w (.cells #[.int .i64 x.kind,.string x.text,.int .i64 x.num,.slice q.pn x.names.length q.cn,.slice q.pt x.temps.length q.ct,.slice q.pk x.kids.length q.ck] 25))).same (hb2.block w.heap.size Y12);have c0:=hc6.c0;have c1:=hc6.c1;have c2:=hc6.c2;have c3:=hc6.c3;have c4:=hc6.c4;have c5:=hc6.c5;clear hc6 hb2) | (go_at_call 56;(with_reducible refine (bP HX2.out bel 1 0 0 HF.out).mono ?_);rintro e w7 ⟨rfl,HY⟩;replace HY:=J HY));go_ret;exact ⟨rfl,HY.out⟩
 | false=>
  rw [hs] at hsu;rw [show cS (aL f) x s=(14,aL f x s) from by unfold cS;rw [if_neg (by rw [hs];decide)]];have HSU:=J hsu;have HVA:Hid (∀{w1 W:World},CT w0 P w w1 cb m s→Below w1.heap.size w1 W→_):=J hva;clear hsu hva hn hx hf hl h hs hv;go_enter Tryz.func100,Tryz.ntmps100;go_wp2_with (first | (go_at_call 114;(with_reducible refine (HSU.out _).mono ?_);rintro e w2 ⟨rfl,hb2⟩;have HX2:=J ((HH.out.ct.below (bz w)).below hb2);have hc6:=(bZ (heap_alloc_new w (.cells #[.int .i64 x.kind,.string x.text,.int .i64 x.num,.slice q.pn x.names.length q.cn,.slice q.pt x.temps.length q.ct,.slice q.pk x.kids.length q.ck] 25))).same (hb2.block w.heap.size Y12);have c0:=hc6.c0;have c1:=hc6.c1;have c2:=hc6.c2;have c3:=hc6.c3;have c4:=hc6.c4;have c5:=hc6.c5;clear hc6 hb2) | (go_at_call 55;(with_reducible refine (HVA.out HX2.out bel).mono ?_);rintro e w7 ⟨rfl,HY⟩;replace HY:=J HY));go_ret;exact ⟨rfl,HY.out⟩
theorem dN (l:List NodT) (k:Nat) (h:k<l.length):NodT.sizes (l.drop k)=(l[k]).size+NodT.sizes (l.drop (k+1)):=by
 rw [List.drop_eq_getElem_cons h,NodT.sizes]
theorem Rows.drop {w:World} {b off:Nat} {l:List NodT} (h:Rows w (some ⟨b,off,none⟩) l) (j:Nat):Rows w (some ⟨b,off+j*6,none⟩) (l.drop j):=fun i hi=>by
 rw [List.length_drop] at hi;obtain ⟨b',off',q',e,h1,h2,h3⟩:=h (j+i) I
 cases e
 rw [List.getElem_drop];exact ⟨b,off+j*6,q',rfl,h1,by rw [show off+j*6+i*6=off+(j+i)*6 by omega];exact h2,h3⟩
theorem eR {f:Nat} (hv:VSpec f) {w0 w:World} {P:Nat→Prop} {cb:Nat} {m:MK} {s:CSt} (h:CX w0 P w cb m s) {p:Option Addr} {n c0:Nat} {l:List NodT} (hr:Rows w0 p l) (hn:l.length=n) (hle:n≤9223372036854775807) (op:Int) (t:ByteArray) (ht:t.size≤bL) (hx:NodT.sizes l≤f) (hf:s.code.length+8*NodT.sizes l+1≤1000000) (hl:s.lits.length+NodT.sizes l+1≤100000):
  Calls Tryz.prog 99 #[.pointer (some ⟨cb,0,none⟩),.int .i64 op,.string t,.slice p n c0] w fun e w'=>e= .returned (.tuple #[])∧CT w0 P w w' cb m (cT (aL f) op t l s):=by
 have HV:=J hv;have HR:=J hr;have HN:=J hn;have HT:=J ht;have H0:=J h;have HSZ:=J hx;have HRM:Hid (s.code.length+8*NodT.sizes l+1≤1000000∧s.lits.length+NodT.sizes l+1≤100000):=J ⟨hf,hl⟩;clear hv hr hn ht h hx hf hl;go_enter Tryz.func99,Tryz.ntmps99;go_wp2_with fail
 go_loopw [12] (fun i wr=>∃(k:Nat) (sk:CSt),i= .int .i64 k∧k≤n∧CT w0 P w wr cb m sk∧(hY (aL f) l s=hY (aL f) (l.drop k) sk)∧sk.code.length+8*NodT.sizes (l.drop k)+1≤1000000∧sk.lits.length+NodT.sizes (l.drop k)+1≤100000) (fun i _=>n-(intOf i).toNat)
 case atStart=>exact ⟨0,s,rfl,Nat.zero_le _,H0.out.ct,rfl,HRM.out⟩
 case round=>
  obtain ⟨k,sk,rfl,hk,hct,hde,hrc,hrl⟩:=hrel;have HX:=J hct;have HD:=J hde;clear hct hde H0
  by_cases hlt:k<n
  ·have d1:=aD hlt;have d2:=aT hlt;have hkl:k<l.length:=Y111;obtain ⟨b,off,q',rfl,hbl,hc6,hkd⟩:=HR.out k hkl;have hsz:=dN l k hkl;have hst:=HX.out.1.stat;have hc6w:=hc6.same (hst.block b hbl);have hsk:(l[k]).size≤f:=Nat.le_trans (cR l k hkl) HSZ.out;have hdr:l.drop k=l[k] :: l.drop (k+1):=List.drop_eq_getElem_cons hkl;obtain ⟨kd,hkx⟩:=aE (l[k]);rw [hkx] at hc6w hkd hsz hsk hdr;have hgr:=dB f kd sk hsk;have hva:∀(W:World),Below wr.heap.size wr W→Calls Tryz.prog 55 #[.pointer (some ⟨cb,0,none⟩),ndV kd q'] W fun e w'=>e= .returned (.tuple #[])∧CT w0 P w w' cb m (aL f kd sk):=fun W hb=>HV.out.at_ hsk HX.out hb hkd I I
   unfold ndV at hva;have HVA:=J hva;have HDR:=J hdr;have HG:Hid ((aL f kd sk).code.length+8*NodT.sizes (l.drop (k+1))+1≤1000000∧(aL f kd sk).lits.length+NodT.sizes (l.drop (k+1))+1≤100000):=J (by
    have h1:=hgr.code;have h2:=hgr.lits;have h3:=kd.size_pos;exact ⟨by omega,by omega⟩)
   have c0:=hc6w.c0;have c1:=hc6w.c1;have c2:=hc6w.c2;have c3:=hc6w.c3;have c4:=hc6w.c4;have c5:=hc6w.c5;have g0:(0:Int)≤(k:Int):=I;have g1:(k:Int)<(n:Int):=I;have hbw:b<wr.heap.size:=aN hbl hst.size;clear hva hdr hgr hc6 hc6w hkd hsz hsk hst hkx hrc hrl;go_wp2_with (first | (go_at_call 55;(with_reducible refine (HVA.out _ bel).mono ?_);rintro e w5 ⟨rfl,HY⟩;replace HY:=J HY));go_roundw
   case rel=>exact ⟨k+1,_,by go_num,hlt,HY.out,by rw [HD.out,HDR.out];rfl,HG.out⟩
   case measure=>simp [intOf];omega
  ·have hkn:k=n:=I;have d1:=aK hlt;have d2:=aF hlt;clear hlt;subst hkn;have hd0:hY (aL f) l s=sk:=by rw [HD.out,←HN.out,List.drop_length];rfl
   have HMS:Hid (cT (aL f) op t l s=aB (fO sk t).2 op (fO sk t).1 k):=J (by unfold cT;rw [hd0,HN.out]);have HL:Hid (sk.lits.length≤100000):=J I;have HF5:Hid ((fO sk t).2.code.length≤1000000):=J (by rw [mX];omega);obtain ⟨g,hg⟩:=aE ((fO sk t).1);have HSY:=J hg;rw [hg] at HMS;clear hd0 hg hrc hrl;go_wp2_with (first | (go_at_call 96;(with_reducible refine (iP HX.out bel t HT.out HL.out).mono ?_);rw [HSY.out];rintro e w5 ⟨rfl,HX5⟩;replace HX5:=J HX5) | (go_at_call 56;(with_reducible refine (bP HX5.out bel op (g:Int) (k:Int) HF5.out).mono ?_);rintro e w7 ⟨rfl,HY⟩;replace HY:=J HY));go_returns;rw [HMS.out];exact ⟨rfl,HY.out⟩
end Go.Proofs.YtnojndgmgkgnpaaGreat
namespace Go.Proofs.YtnojndgmgkgnpaaGreat
def Kp (s t:CSt):Prop:=s.err≠0→t.err=s.err∧t.ename=s.ename
theorem Kp.refl (s:CSt):Kp s s:=fun _=>⟨rfl,rfl⟩
theorem Kp.trans {s t u:CSt} (h:Kp s t) (g:Kp t u):Kp s u:=fun z=>by
 obtain ⟨a,b⟩:=h z;obtain ⟨c,d⟩:=g (by rw [a];exact z);exact ⟨c.trans a,d.trans b⟩
structure Tm (s t:CSt):Prop where
 temps:s.temps≤t.temps
 pre:s.code <+:t.code
 kp:Kp s t
namespace Tm
theorem code {s t:CSt} (h:Tm s t):s.code.length≤t.code.length:=h.pre.length_le
theorem refl (s:CSt):Tm s s:=⟨Nat.le_refl _,List.prefix_refl _,Kp.refl s⟩
theorem trans {s t u:CSt} (h:Tm s t) (g:Tm t u):Tm s u:=⟨Nat.le_trans h.temps g.temps,h.pre.trans g.pre,h.kp.trans g.kp⟩
theorem fail (s:CSt) (n:ByteArray) (x:Int):Tm s (aG s n x):=by
 unfold aG
 split
 ·rename_i h;exact ⟨Nat.le_refl _,List.prefix_refl _,fun z=>absurd h z⟩
 ·exact refl s
theorem emit (s:CSt) (o a b:Int):Tm s (aB s o a b):=⟨Nat.le_refl _,List.prefix_append _ _,fun _=>⟨rfl,rfl⟩⟩
theorem to_ {s t:CSt} (h:Tm s t) (p:Nat) (o:Int) (n:Nat) (hp:s.code.length≤p):Tm s (toP t p o n):=by
 refine ⟨h.temps,?_,h.kp⟩
 show s.code <+:t.code.set p _
 obtain ⟨r,hr⟩:=h.pre;rw [←hr,List.set_append_right _ _ hp];exact List.prefix_append _ _
theorem place (s:CSt) (l:LitT):Tm s (bS s l).2:=by unfold bS;split <;> exact ⟨Nat.le_refl _,List.prefix_refl _,fun _=>⟨rfl,rfl⟩⟩
theorem sym (s:CSt) (t:ByteArray):Tm s (fO s t).2:=place s _
theorem ite_ {s t u:CSt} {c:Prop} [Decidable c] (h:Tm s t) (g:Tm s u):Tm s (if c then t else u):=by split <;> assumption
end Tm
theorem wL (s:CSt) (n:ByteArray):Tm s (gL s n):=by
 unfold gL;have h1:Tm s (if (cE s.names n).isSome || dH n then aG s n 16 else s):=Tm.ite_ (Tm.fail _ _ _) (Tm.refl _)
 generalize (if (cE s.names n).isSome || dH n then aG s n 16 else s)=s1 at h1
 exact h1.trans (Tm.ite_ (Tm.fail _ _ _) (Tm.refl _))
theorem iX (fixed:Bool):∀(l:List ByteArray) (s:CSt),Tm s (bI fixed l s)
 | [],s=>Tm.refl s
 | n :: r,s=>by
  unfold bI;refine Tm.ite_ (wL s n) ?_;refine (wL s n).trans (Tm.trans ?_ (iX fixed r _));exact ⟨Nat.le_succ _,List.prefix_refl _,fun _=>⟨rfl,rfl⟩⟩
mutual
theorem wM:∀(x:NodT) (s:CSt),Tm s (dS x s).2
 | .node k t n _ _ ks,s=>by
  unfold dS
  split
  ·exact Tm.refl s
  split
  ·exact Tm.refl s
  split
  ·exact Tm.refl s
  split
  ·exact pB ks s
  ·exact Tm.fail s _ _
theorem pB:∀(l:List NodT) (s:CSt),Tm s (gC l s).2
 | [],s=>Tm.refl s
 | x :: r,s=>by
  unfold gC;exact (wM x s).trans (pB r _)
end
theorem wN (s:CSt) (n:ByteArray):Tm s (gG s n):=by
 unfold gG
 split
 ·exact Tm.emit _ _ _ _
 split
 ·exact Tm.emit _ _ _ _
 split
 ·exact Tm.emit _ _ _ _
 split
 ·exact Tm.emit _ _ _ _
 split
 ·exact Tm.emit _ _ _ _
 have h1:Tm s (if n.toList=cG then aG s n 15 else s):=Tm.ite_ (Tm.fail _ _ _) (Tm.refl _)
 generalize (if n.toList=cG then aG s n 15 else s)=s1 at h1
 dsimp only
 split
 ·exact h1.trans (Tm.ite_ (Tm.emit _ _ _ _) (Tm.emit _ _ _ _))
 ·exact h1.trans (Tm.ite_ ((Tm.sym _ _).trans (Tm.emit _ _ _ _)) (Tm.fail _ _ _))
theorem jS (s:CSt) (k:Option Nm) (n:ByteArray):Tm s (dC s k n):=by
 unfold dC
 repeat' split
 all_goals first | exact Tm.emit _ _ _ _ | exact Tm.fail _ _ _
section
variable {rec:NodT→CSt→CSt} (hr:∀x s,Tm s (rec x s))
include hr
theorem uO (x:NodT) (s:CSt):Tm s (fI rec x s):=by
 unfold fI
 split
 ·exact (hr _ _).trans (jS _ _ _)
 ·exact Tm.fail _ _ _
theorem mY (x:NodT) (s:CSt):Tm s (cS rec x s).2:=by
 unfold cS
 split
 ·exact Tm.emit _ _ _ _
 ·exact hr x s
theorem pC:∀(l:List NodT) (s:CSt),Tm s (hY rec l s)
 | [],s=>Tm.refl s
 | a :: r,s=>by
  unfold hY;exact (hr a s).trans (pC r _)
theorem jT (op:Int) (sel:ByteArray) (l:List NodT) (s:CSt):Tm s (cT rec op sel l s):=by
 unfold cT;exact (pC hr l s).trans ((Tm.sym _ _).trans (Tm.emit _ _ _ _))
theorem lK:∀(b:Bool) (l:List NodT) (s:CSt),Tm s (dD rec b l s)
 | _,[],s=>Tm.refl s
 | b,a :: r,s=>by
  unfold dD;have h1:Tm s (if b then s else aB s 12 0 0):=Tm.ite_ (Tm.refl _) (Tm.emit _ _ _ _)
  generalize (if b then s else aB s 12 0 0)=s0 at h1
  have h2:=h1.trans (hr a s0);dsimp only
  generalize rec a s0=s2 at h2
  have h3:Tm s2 (if a.kind=10 then aB s2 2 0 0 else s2):=Tm.ite_ (Tm.emit _ _ _ _) (Tm.refl _);exact (h2.trans h3).trans (lK false r _)
theorem eS (x:NodT) (s:CSt):Tm s (cN rec x s):=by
 have h1:=((iX true x.names s).trans (iX false x.temps _)).trans (lK hr true x.kids _);have h2:Tm s (if x.kids.length=0 then aB (dD rec true x.kids (bI false x.temps (bI true x.names s))) 2 0 0 else (dD rec true x.kids (bI false x.temps (bI true x.names s)))):=Tm.ite_ (h1.trans (Tm.emit _ _ _ _)) h1;exact ⟨h2.temps,h2.pre,h2.kp⟩
theorem kE (a:Arm) (kids:List NodT) (s:CSt):Tm s (dM rec a kids s):=by
 cases a with
 | op o=>exact Tm.emit _ _ _ _
 | kid i=>
  unfold dM;dsimp only
  split
  ·exact eS hr _ _
  ·exact Tm.refl _
theorem kF (y n:Arm) (kids:List NodT) {s s1:CSt} (h1:Tm s s1):Tm s (toP (dM rec n kids (toP (aB (dM rec y kids (aB s1 17 0 0)) 16 0 0) s1.code.length 17 (aB (dM rec y kids (aB s1 17 0 0)) 16 0 0).code.length)) (dM rec y kids (aB s1 17 0 0)).code.length 16 (dM rec n kids (toP (aB (dM rec y kids (aB s1 17 0 0)) 16 0 0) s1.code.length 17 (aB (dM rec y kids (aB s1 17 0 0)) 16 0 0).code.length)).code.length):=by
 have h2:=(h1.trans (Tm.emit s1 17 0 0)).trans (kE hr y kids _);exact (((h2.trans (Tm.emit _ 16 0 0)).to_ _ _ _ h1.code).trans (kE hr n kids _)).to_ _ _ _ h2.code
theorem pD (y n:Arm) (kids:List NodT) (s:CSt):Tm s (cD rec y n kids s):=by
 cases kids with
 | nil=>exact kF hr y n [] (Tm.refl s)
 | cons k l=>exact kF hr y n (k :: l) (hr k s)
theorem sN (w:Bool) (k0 k1:NodT) (s:CSt):Tm s (fE rec w k0 k1 s):=by
 have a0:=eS hr k0 s;unfold fE;dsimp only
 generalize cN rec k0 s=s1 at a0 ⊢
 have a1:Tm s (if w then aB s1 17 0 0 else toP (aB (aB s1 17 0 0) 16 0 0) s1.code.length 17 ((aB s1 17 0 0).code.length+1)):=by
  split
  ·exact a0.trans (Tm.emit _ _ _ _)
  ·exact ((a0.trans (Tm.emit _ _ _ _)).trans (Tm.emit _ _ _ _)).to_ _ _ _ a0.code
 generalize (if w then aB s1 17 0 0 else toP (aB (aB s1 17 0 0) 16 0 0) s1.code.length 17 ((aB s1 17 0 0).code.length+1))=s3 at a1 ⊢
 have a3:=(a1.trans (eS hr k1 s3)).trans (Tm.emit _ 12 0 0)
 generalize aB (cN rec k1 s3) 12 0 0=t3 at a3 ⊢
 have a5:Tm s (toP (aB t3 16 0 0) t3.code.length 16 s.code.length):=(a3.trans (Tm.emit _ _ _ _)).to_ _ _ _ a3.code
 generalize toP (aB t3 16 0 0) t3.code.length 16 s.code.length=s5 at a5 ⊢
 refine Tm.trans ?_ (Tm.emit _ _ _ _)
 split
 ·exact a5.to_ _ _ _ a0.code
 ·exact a5.to_ _ _ _ (a0.trans (Tm.emit s1 17 0 0)).code
theorem sendP_tm (x:NodT) (s:CSt):Tm s (iU rec x s):=by
 unfold iU
 split
 ·exact Tm.fail _ _ _
 ·split
  ·exact pD hr _ _ _ _
  ·split
   ·exact sN hr _ _ _ _
   ·exact (mY hr _ _).trans (jT hr _ _ _ _)
theorem lL (op:Int):∀(l:List NodT) (s:CSt),Tm s (eF rec op l s)
 | [],s=>Tm.refl s
 | m :: r,s=>by
  unfold eF;have h1:Tm s (if m.kind≠7 then aG s eB 1 else s):=Tm.ite_ (Tm.fail _ _ _) (Tm.refl _)
  generalize (if m.kind≠7 then aG s eB 1 else s)=s1 at h1
  dsimp only;refine Tm.ite_ (h1.trans (jT hr _ _ _ _)) ?_;exact (h1.trans (((Tm.emit _ _ _ _).trans (jT hr op m.text m.kids (aB s1 13 0 0))).trans (Tm.emit _ _ _ _))).trans (lL op r _)
theorem cascP_tm (x:NodT) (s:CSt):Tm s (iV rec x s):=by
 unfold iV
 split
 ·exact (mY hr _ _).trans (lL hr _ _ _)
 ·exact Tm.fail _ _ _
theorem qQ (x:NodT) (s:CSt):Tm s (iW rec x s):=by
 unfold iW;exact ((((Tm.emit _ _ _ _).trans (Tm.emit _ _ _ _)).trans (eS hr _ _)).trans (Tm.emit _ _ _ _)).to_ _ _ _ (Tm.emit _ _ _ _).code
theorem sO (x:NodT) (s:CSt):Tm s (dV rec x s):=by
 unfold dV
 split
 ·exact Tm.refl s
 split
 ·exact (wM x s).trans ((Tm.place _ _).trans (Tm.emit _ _ _ _))
 split
 ·exact wN s _
 split
 ·exact uO hr x s
 split
 ·exact sendP_tm hr x s
 split
 ·exact cascP_tm hr x s
 split
 ·exact qQ hr x s
 split
 ·split
  ·exact (hr _ _).trans (Tm.emit _ _ _ _)
  ·exact Tm.fail _ _ _
 ·exact Tm.fail _ _ _
end
theorem jG:∀(f:Nat) (x:NodT) (s:CSt),Tm s (aL f x s)
 | 0,x,s=>Tm.refl s
 | f+1,x,s=>sO (jG f) x s
end Go.Proofs.YtnojndgmgkgnpaaGreat
namespace Go.Proofs.YtnojndgmgkgnpaaGreat
open Go.ChangeShapes Go.WideShapes Go.ChangeAt Go.RowKit Go.Deep Go.Joins Go.Maps
theorem aV {w:World} {b:Nat} {a0 a1 a2 a3 a4 a5 x0 x1 x2 x3 x4 x5:Value} {T:TypeId} (h:w.heap[b]? =some (.cells #[a0,a1,a2,a3,a4,a5] T (0,0))):((((((w.setCell ⟨b,0,none⟩ x0).setCell ⟨b,1,none⟩ x1).setCell ⟨b,2,none⟩ x2).setCell ⟨b,3,none⟩ x3).setCell ⟨b,4,none⟩ x4).setCell ⟨b,5,none⟩ x5).heap[b]? =some (.cells #[x0,x1,x2,x3,x4,x5] T (0,0)):=by
 have h0:(w.setCell ⟨b,0,none⟩ x0).heap[b]? =some (.cells #[x0,a1,a2,a3,a4,a5] T (0,0)):=by rw [heap_setCell_same _ b 0 _ _ _ h];rfl
 have h1:((w.setCell ⟨b,0,none⟩ x0).setCell ⟨b,1,none⟩ x1).heap[b]? =some (.cells #[x0,x1,a2,a3,a4,a5] T (0,0)):=by rw [heap_setCell_same _ b 1 _ _ _ h0];rfl
 have h2:(((w.setCell ⟨b,0,none⟩ x0).setCell ⟨b,1,none⟩ x1).setCell ⟨b,2,none⟩ x2).heap[b]? =some (.cells #[x0,x1,x2,a3,a4,a5] T (0,0)):=by rw [heap_setCell_same _ b 2 _ _ _ h1];rfl
 have h3:((((w.setCell ⟨b,0,none⟩ x0).setCell ⟨b,1,none⟩ x1).setCell ⟨b,2,none⟩ x2).setCell ⟨b,3,none⟩ x3).heap[b]? =some (.cells #[x0,x1,x2,x3,a4,a5] T (0,0)):=by rw [heap_setCell_same _ b 3 _ _ _ h2];rfl
 have h4:(((((w.setCell ⟨b,0,none⟩ x0).setCell ⟨b,1,none⟩ x1).setCell ⟨b,2,none⟩ x2).setCell ⟨b,3,none⟩ x3).setCell ⟨b,4,none⟩ x4).heap[b]? =some (.cells #[x0,x1,x2,x3,x4,a5] T (0,0)):=by rw [heap_setCell_same _ b 4 _ _ _ h3];rfl
 rw [heap_setCell_same _ b 5 _ _ _ h4];rfl
theorem cM {B:Nat} {w w1:World} {b:Nat} {x0 x1 x2 x3 x4 x5:Value} (h:Below B w w1) (hb:B≤b):Below B w ((((((w1.setCell ⟨b,0,none⟩ x0).setCell ⟨b,1,none⟩ x1).setCell ⟨b,2,none⟩ x2).setCell ⟨b,3,none⟩ x3).setCell ⟨b,4,none⟩ x4).setCell ⟨b,5,none⟩ x5):=
 (((((h.setCell hb _).setCell hb _).setCell hb _).setCell hb _).setCell hb _).setCell hb _
theorem uP (A:Option Addr) (n c:Nat) (h:n≤c) (w:World):(Instr.slice 78 (.slice A n c) none (some (.int .i64 (n:Int))) (some (.int .i64 (n:Int)))).run Tryz.prog w= .ok (.slice A n n) w:=by
 have hs:(sizeOf (Tryz.prog.elem 78)).run Tryz.prog w= .ok 4 w:=Y40;have hl:(n:Int)≤(c:Int):=I;simp [Instr.slice,run_underlying Tryz.underlying78,Instr.sliceBounds,run_sliceBound,sliced,hs,hl]
 cases A with
 | none=>exact fun _=>rfl
 | some a=>exact fun _=>rfl
theorem NmRow.clip {w:World} {W W':Nat→Prop} {A:Option Addr} {n c:Nat} {l:List Nm} (h:NmRow w W (.slice A n c) l) (hn:l.length=n):NmRow w W' (.slice A n n) l:=by
 subst hn
 rcases h with ⟨ho,_⟩ | ⟨A',hv,hA0,hA⟩
 ·have own:=ho
  rcases ho.2 with ⟨h1,h0⟩ | ⟨g,cap,cur,hv,hg,hh,h1,h2,_⟩
  ·simp only [Value.slice.injEq] at h1;have h1:=h1.1;subst h1;exact .inr ⟨none,rfl,fun _=>List.length_eq_zero_iff.1 h0,fun b e=>by cases e⟩
  ·simp only [Value.slice.injEq] at hv;obtain ⟨rfl,e1,e2⟩:=hv;refine .inr ⟨some ⟨g,0,none⟩,rfl,fun e=>(by cases e),fun b e=>?_⟩
   cases e
   refine ⟨rfl,rfl,⟨cur,hh⟩,fun j u hj=>?_⟩;have hlt:j<(l.flatMap nmC).length:=by
    rcases Nat.lt_or_ge j (l.flatMap nmC).length with q | q
    ·exact q
    ·rw [List.getElem?_eq_none q] at hj;cases hj
   rw [World.ownsRow.cellAt own j (by rw [gT lF] at hlt;exact hlt)];exact hj
 ·simp only [Value.slice.injEq] at hv;obtain ⟨rfl,_,_⟩:=hv;exact .inr ⟨A,rfl,hA0,hA⟩
theorem oL (rec:NodT→CSt→CSt) (x:NodT) (s:CSt):cN rec x s={(if x.kids.length=0 then aB (dD rec true x.kids (bI false x.temps (bI true x.names s))) 2 0 0 else dD rec true x.kids (bI false x.temps (bI true x.names s))) with names:=s.names}:=rfl
theorem CY.clip {w0 w:World} {P:Nat→Prop} {cb:Nat} {m:MK} {s:CSt} {lv cv:Value} {D:Nat→Prop} {ps:List LP} {A:Option Addr} {n c:Nat} (h:CY w0 P w cb m s lv cv (.slice A n c) D ps) (hn:s.names.length=n):
  CY w0 (fun k=>P k∨(Value.slice A n n).ownBlock=some k) (w.setCell ⟨cb,6,none⟩ (.slice A n n)) cb m s lv cv (.slice A n n) D ps:=by
 have h1:CY w0 P (w.setCell ⟨cb,6,none⟩ (.slice A n n)) cb m s lv cv (.slice A n n) D ps:=h.store (s':=s) 6 _ rfl rfl rfl (h.names.clip hn) h.nok h.enm;have hob:∀k,(Value.slice A n n).ownBlock=some k→∃cur,(w.setCell ⟨cb,6,none⟩ (.slice A n n)).heap[k]? =some (.cells cur 82 (0,0)):=fun k hk=>h1.names.type hk
 refine ⟨h1.box,h1.lits,h1.lps,h1.code,h1.names.clip hn,h1.nok,fun q=>q.elim h1.cbP (fun e=>?_),fun k hk=>⟨fun q=>q.elim (h1.lvP k hk).1 (fun e=>?_),(h1.lvP k hk).2⟩,fun k hk q=>q.elim (h1.cvP k hk) (fun e=>?_),h1.dlt,h1.dty,h1.stat,fun k hk=>.inl (h1.low k hk),fun k hk=>hk.elim (h1.lim k) (fun e=>aA (hob k e).choose_spec),h1.enm,h1.dge⟩
 ·obtain ⟨cur,hc⟩:=hob _ e;rw [h1.box] at hc;simp at hc
 ·obtain ⟨cur,hc⟩:=hob _ e;obtain ⟨cur2,hc2⟩:=bN h1.lits.own hk;rw [hc] at hc2;simp at hc2
 ·obtain ⟨cur,hc⟩:=hob _ e;obtain ⟨cur2,hc2⟩:=bN h1.code hk;rw [hc] at hc2;simp at hc2
structure Sixn (w:World) (b n:Nat) (x:NodT) (q:NS):Prop where
 c0:w.cell? ⟨b,0,none⟩=some (.int .i64 x.kind)
 c1:w.cell? ⟨b,1,none⟩=some (.string x.text)
 c2:w.cell? ⟨b,2,none⟩=some (.int .i64 x.num)
 c3:w.cell? ⟨b,3,none⟩=some (.slice q.pn x.names.length q.cn)
 c4:w.cell? ⟨b,4,none⟩=some (.slice q.pt x.temps.length q.ct)
 c5:w.cell? ⟨b,5,none⟩=some (.slice q.pk n q.ck)
theorem cW {w:World} {b n:Nat} {x:NodT} {q:NS} (h:w.heap[b]? =some (.cells #[.int .i64 x.kind,.string x.text,.int .i64 x.num,.slice q.pn x.names.length q.cn,.slice q.pt x.temps.length q.ct,.slice q.pk n q.ck] 25 (0,0))):Sixn w b n x q:=⟨by simp [World.cell?,h],by simp [World.cell?,h],by simp [World.cell?,h],by simp [World.cell?,h],by simp [World.cell?,h],by simp [World.cell?,h]⟩
theorem aM (s:CSt) (o a b:Int):(aB s o a b).code.length=s.code.length+1:=by simp [aB]
theorem cC (s:CSt) (o a b:Int):(aB s o a b).lits=s.lits:=rfl
theorem eO {f:Nat} (hv:VSpec f) {w0 w:World} {P:Nat→Prop} {cb:Nat} {m:MK} {s:CSt} (h:CX w0 P w cb m s) {x:NodT} {q:NS} (hn:IsNd w0 (fun _=>True) x q) (hx:x.size≤f+1) (hf:s.code.length+8*x.size≤1000006) (hl:s.lits.length+x.size≤100000):
  Calls Tryz.prog 84 #[.pointer (some ⟨cb,0,none⟩),ndV x q] w fun e w'=>e= .returned (.tuple #[])∧CT w0 P w w' cb m (cN (aL f) x s):=by
 have HV:=J hv;have hxs:=x.size_kids;obtain ⟨lv,cv,nv,D,ps,hy,hfw⟩:=h;obtain ⟨A,c,hnv,hcl⟩:=hy.names.slice;subst hnv;obtain ⟨n6,hn6⟩:=aE s.names.length;obtain ⟨n,hnk⟩:=aE x.kids.length;have HNK:=J hnk;have k6:w.cell? ⟨cb,6,none⟩=some (.slice A n6 c):=by rw [hy.cell,←hn6];rfl
 have HCBP:=J hy.cbP;have HNOK:=J hy.nok;have HLOW:=J hy.low;have HFW:Hid (s.temps≤24∧s.names.length≤8+s.temps):=J hfw;have HSN:Hid (Strs w0 (fun _=>True) q.pn x.names∧Strs w0 (fun _=>True) q.pt x.temps):=J hn.strs;have hok:=hn.ok;have HNL:Hid (x.names.length≤9223372036854775807):=J Y74;have HTL:Hid (x.temps.length≤9223372036854775807):=J Y75;have hle:n≤9223372036854775807:=Y76;have HRW:=J hn.rows;rw [hn6] at hy hcl;have hsl:=uP A n6 c hcl;have k6a:(w.alloc (.cells #[.int .i64 x.kind,.string x.text,.int .i64 x.num,.slice q.pn x.names.length q.cn,.slice q.pt x.temps.length q.ct,.slice q.pk n q.ck] 25)).cell? ⟨cb,6,none⟩=some (.slice A n6 c):=Lib.cell?_alloc_marked _ k6;have hya:CY w0 (fun k=>P k∨(w.heap.size≤k∧k<w.heap.size+1)) (w.alloc (.cells #[.int .i64 x.kind,.string x.text,.int .i64 x.num,.slice q.pn x.names.length q.cn,.slice q.pt x.temps.length q.ct,.slice q.pk n q.ck] 25)) cb m s lv cv (.slice A n6 c) D ps:=hy.below (ba) (fun _ z=>.inl z) (fun k z=>by rw [World.size_alloc];exact z);have f6a:=hya.free 6;have HYA:=J hya;have HTS0:Hid (Turns (cP P) w (w.alloc (.cells #[.int .i64 x.kind,.string x.text,.int .i64 x.num,.slice q.pn x.names.length q.cn,.slice q.pt x.temps.length q.ct,.slice q.pk n q.ck] 25))):=J (Turns.of_below (ba));have HBX:Hid ((w.alloc (.cells #[.int .i64 x.kind,.string x.text,.int .i64 x.num,.slice q.pn x.names.length q.cn,.slice q.pt x.temps.length q.ct,.slice q.pk n q.ck] 25)).heap[w.heap.size]? =some (.cells #[.int .i64 x.kind,.string x.text,.int .i64 x.num,.slice q.pn x.names.length q.cn,.slice q.pt x.temps.length q.ct,.slice q.pk n q.ck] 25 (0,0))):=J (heap_alloc_new w _);have HN6:=J hn6;have hcbn:cb≠w.heap.size:=by have:=aA hy.box;omega
 have HCBN:=J hcbn;obtain ⟨sd,hsd⟩:=aE (bI false x.temps (bI true x.names s));have HSD:=J hsd;have HRM0:Hid (sd.code.length+8*NodT.sizes x.kids+1≤1000000∧sd.lits.length+NodT.sizes x.kids≤100000):=J (by
  have h1:=dL true x.names s;have h2:=dL false x.temps (bI true x.names s);rw [hsd] at h2;rw [h2.1,h2.2,h1.1,h1.2];exact ⟨by omega,by omega⟩)
 have HXS:Hid (NodT.sizes x.kids≤f):=J I;have HX0:Hid (∃b,b=w.heap.size):=J ⟨_,rfl⟩;unfold ndV;rw [hnk];clear hnk hok hy hya hsd hn6 hn hx hf hl hfw hcl hv hcbn k6 hxs HX0;go_enter Tryz.func84,Tryz.ntmps84
 go_upto_region 1 with fail
 go_quiet (fail)
 go_upto_region 3 with fail
 have hyb:=(HYA.out.below (w':=(w.alloc (.cells #[.int .i64 x.kind,.string x.text,.int .i64 x.num,.slice q.pn x.names.length q.cn,.slice q.pt x.temps.length q.ct,.slice q.pk n q.ck] 25)).drewN nq) (bM (Below.refl _ _) _) (fun _ z=>z) (fun _ z=>.inl z)).clip HN6.out;have hbb:(((w.alloc (.cells #[.int .i64 x.kind,.string x.text,.int .i64 x.num,.slice q.pn x.names.length q.cn,.slice q.pt x.temps.length q.ct,.slice q.pk n q.ck] 25)).drewN nq).setCell ⟨cb,6,none⟩ (.slice A n6 n6)).heap[w.heap.size]? =some (.cells #[.int .i64 x.kind,.string x.text,.int .i64 x.num,.slice q.pn x.names.length q.cn,.slice q.pt x.temps.length q.ct,.slice q.pk n q.ck] 25 (0,0)):=(Below.heap_setCell _ _ _ _ (fun e=>HCBN.out e.symm)).trans HBX.out;have hts:Turns (cP P) w (((w.alloc (.cells #[.int .i64 x.kind,.string x.text,.int .i64 x.num,.slice q.pn x.names.length q.cn,.slice q.pt x.temps.length q.ct,.slice q.pk n q.ck] 25)).drewN nq).setCell ⟨cb,6,none⟩ (.slice A n6 n6)):=((HTS0.out).drewN nq).setCell _ _ (.inl HCBP.out);obtain ⟨w2,hw2⟩:∃w2,((w.alloc (.cells #[.int .i64 x.kind,.string x.text,.int .i64 x.num,.slice q.pn x.names.length q.cn,.slice q.pt x.temps.length q.ct,.slice q.pk n q.ck] 25)).drewN nq).setCell ⟨cb,6,none⟩ (.slice A n6 n6)=w2:=⟨_,rfl⟩;rw [hw2] at hyb hbb hts ⊢;obtain ⟨Pb,hPb⟩:∃Pb:Nat→Prop,(fun k=>(P k∨(w.heap.size≤k∧k<w.heap.size+1))∨(Value.slice A n6 n6).ownBlock=some k)=Pb:=⟨_,rfl⟩;rw [hPb] at hyb;have INB:Hid (Pb w.heap.size):=J (by rw [←hPb];exact .inl (.inr ⟨Nat.le_refl _,by omega⟩));have HSUB:Hid (∀k,P k→Pb k):=J (fun k z=>by rw [←hPb];exact .inl (.inl z));have HNM:Hid (∀wz,Turns (cP Pb) w2 wz→NmRow wz (fun k=>¬Pb k∧k≠cb) (.slice A n6 n6) s.names):=J (fun wz ht=>(hyb.names.clip (W':=fun _=>False) HN6.out).same ht.size (fun k hk=>ht.block k (hyb.names.lt hk) (fun z=>z (by rw [←hPb];exact .inr hk))) (fun _ _ z=>z.elim));have HX2:Hid (CT w0 Pb w2 w2 cb m s):=J ⟨⟨_,_,_,_,_,hyb,HFW.out⟩,Turns.refl _ _⟩;have HB2:=J hbb;have HBL:=J (aA hbb);have HTS:=J hts;have hc6:=cW HB2.out;have c0:=hc6.c0;have c1:=hc6.c1;have c2:=hc6.c2;have c3:=hc6.c3;have c4:=hc6.c4;have c5:=hc6.c5;clear hc6;clear hyb hbb hts hw2 hPb hsl k6a f6a HYA HTS0 HBX HCBN;go_wp2_with (first | (go_at_call 54;(with_reducible refine (lG HX2.out bel HSN.out.1 rfl HNL.out true).mono ?_);rintro e w3 ⟨rfl,hx3⟩;have HX3:=J hx3;have HB3:=J ((hx3.2.block w.heap.size HBL.out (fun z=>z INB.out)).trans HB2.out);clear hx3;have hc6:=cW HB3.out;have c0:=hc6.c0;have c1:=hc6.c1;have c2:=hc6.c2;have c3:=hc6.c3;have c4:=hc6.c4;have c5:=hc6.c5;clear hc6) | (go_at_call 54;(with_reducible refine (lG HX3.out bel HSN.out.2 rfl HTL.out false).mono ?_);rintro e w4 ⟨rfl,hx3⟩;have HX4:=J hx3;have HB4:=J ((hx3.2.block w.heap.size HBL.out (fun z=>z INB.out)).trans HB2.out);clear hx3;have hc6:=cW HB4.out;have c0:=hc6.c0;have c1:=hc6.c1;have c2:=hc6.c2;have c3:=hc6.c3;have c4:=hc6.c4;have c5:=hc6.c5;clear hc6))
 go_loopw [37] (fun i wr=>∃(k:Nat) (sk:CSt),i= .int .i64 k∧k≤n∧CT w0 Pb w2 wr cb m sk∧dD (aL f) true x.kids sd=dD (aL f) (decide (k=0)) (x.kids.drop k) sk∧(sk.code.length+8*NodT.sizes (x.kids.drop k)+1≤1000000∧sk.lits.length+NodT.sizes (x.kids.drop k)≤100000)) (fun i _=>n-(intOf i).toNat)
 case atStart=>exact ⟨0,sd,rfl,Nat.zero_le _,by rw [←HSD.out];exact HX4.out,rfl,HRM0.out⟩
 case round=>
  obtain ⟨k,sk,rfl,hk,hct,hde,hrm⟩:=hrel;have HX:=J hct;have HD:=J hde;have HRM:=J hrm;clear hct hde hrm c0 c1 c2 c3 c4 c5
  by_cases hlt:k<n
  ·have d1:=aD hlt;have d2:=aT hlt;have hkl:k<x.kids.length:=Y82;obtain ⟨b,off,q',hpk,hbl,hc6,hkd⟩:=HRW.out k hkl;have hsz:=dN x.kids k hkl;have hst:=HX.out.1.stat;have hc6w:=hc6.same (hst.block b hbl);have hsk:(x.kids[k]).size≤f:=Nat.le_trans (cR x.kids k hkl) HXS.out;have hdr:x.kids.drop k=x.kids[k] :: x.kids.drop (k+1):=List.drop_eq_getElem_cons hkl;obtain ⟨kd,hkx⟩:=aE (x.kids[k]);rw [hkx] at hc6w hkd hsz hsk hdr;have HSZ:=J hsz;have HSK:=J hsk;have HDR:=J hdr;have HKD:=J hkd;have HLT:=J hlt;have hbw:b<wr.heap.size:=aN hbl hst.size;have c0:=hc6w.c0;have c1:=hc6w.c1;have c2:=hc6w.c2;have c3:=hc6w.c3;have c4:=hc6w.c4;have c5:=hc6w.c5;have g0:(0:Int)≤(k:Int):=I;have g1:(k:Int)<(n:Int):=I;have hbe:Below wr.heap.size wr (wr.alloc (.cells #[.int .i64 kd.kind,.string kd.text,.int .i64 kd.num,.slice q'.pn kd.names.length q'.cn,.slice q'.pt kd.temps.length q'.ct,.slice q'.pk kd.kids.length q'.ck] 25)):=ba;have hk5:=HX.out.1.keep hbe;have hb5:(wr.alloc (.cells #[.int .i64 kd.kind,.string kd.text,.int .i64 kd.num,.slice q'.pn kd.names.length q'.cn,.slice q'.pt kd.temps.length q'.ct,.slice q'.pk kd.kids.length q'.ck] 25)).heap[wr.heap.size]? =some (.cells #[.int .i64 kd.kind,.string kd.text,.int .i64 kd.num,.slice q'.pn kd.names.length q'.cn,.slice q'.pt kd.temps.length q'.ct,.slice q'.pk kd.kids.length q'.ck] 25 (0,0)):=heap_alloc_new wr _;have hin5:wr.heap.size≤wr.heap.size∧wr.heap.size<(wr.alloc (.cells #[.int .i64 kd.kind,.string kd.text,.int .i64 kd.num,.slice q'.pn kd.names.length q'.cn,.slice q'.pt kd.temps.length q'.ct,.slice q'.pk kd.kids.length q'.ck] 25)).heap.size:=⟨Nat.le_refl _,aA hb5⟩;have HWB0:=J hbe;have HK50:=J hk5;have HB50:=J hb5;have HIN50:=J hin5;clear hbe hk5 hb5 hin5;rw [hpk];clear hst hc6 hc6w hkd hsz hsk hdr hkx hkl hlt hpk
   go_upto_region 8 with fail
   have hbe:=HWB0.out;have hk5:=HK50.out;have hb5:=HB50.out;have hin5:=HIN50.out;obtain ⟨wb,hwb⟩:∃wb,(wr.alloc (.cells #[.int .i64 kd.kind,.string kd.text,.int .i64 kd.num,.slice q'.pn kd.names.length q'.cn,.slice q'.pt kd.temps.length q'.ct,.slice q'.pk kd.kids.length q'.ck] 25))=wb:=⟨_,rfl⟩;rw [hwb] at hbe hk5 hb5 hin5 ⊢;have HWB:=J hbe;have HK5:=J hk5;have HB5:=J hb5;have HIN5:Hid ((fun j=>Pb j∨wr.heap.size≤j∧j<wb.heap.size) wr.heap.size):=J (.inr hin5);have hc6:=bZ HB5.out;have d0:=hc6.c0;have d1:=hc6.c1;have d2:=hc6.c2;have d3:=hc6.c3;have d4:=hc6.c4;have d5:=hc6.c5;clear hc6;clear hbe hk5 hb5 hin5 hwb HWB0 HK50 HB50 HIN50
   by_cases ek:k=0
   ·have HK0:Hid (decide (k=0)=true):=J (by simpa using ek);have g2:decide ((0:Int)<(k:Int))=false:=aK I;have g3:decide (0<k)=false:=aK I;clear ek
    by_cases e10:kd.kind=10
    ·have HE10:Hid ((kd.kind=10)=True):=J (eq_true e10);have q1:(kd.kind==10)=true:=Y26;clear e10;have hgr:=dB f kd sk HSK.out;have hva:∀{wa W:World},CT w0 (fun j=>Pb j∨wr.heap.size≤j∧j<wb.heap.size) wb wa cb m sk→Below wa.heap.size wa W→Calls Tryz.prog 55 #[.pointer (some ⟨cb,0,none⟩),ndV kd q'] W fun e w'=>e= .returned (.tuple #[])∧CT w0 (fun j=>Pb j∨wr.heap.size≤j∧j<wb.heap.size) wb w' cb m (aL f kd sk):=fun hc hb=>HV.out.at_ HSK.out hc hb HKD.out Y31 Y31
     unfold ndV at hva;have HVA:Hid (∀{wa W:World},CT w0 (fun j=>Pb j∨wr.heap.size≤j∧j<wb.heap.size) wb wa cb m sk→Below wa.heap.size wa W→_):=J hva;have HF5:Hid (sk.code.length≤1000000):=J Y34;have HF7:Hid (((aL f kd sk)).code.length≤1000000):=J Y93;have HG:Hid (((aB (aL f kd sk) 2 0 0)).code.length+8*NodT.sizes (x.kids.drop (k+1))+1≤1000000∧((aB (aL f kd sk) 2 0 0)).lits.length+NodT.sizes (x.kids.drop (k+1))≤100000):=J (by
      have h0:=hgr.code;have h4:=hgr.lits;have h1:=HRM.out;have h2:=HSZ.out;have h3:=kd.size_pos;rw [aM,cC];exact ⟨by omega,by omega⟩)
     clear hva hgr;go_wp2_with (first | (go_at_call 55;(with_reducible refine (HVA.out HK5.out.ct bel).mono ?_);rintro e w7 ⟨rfl,hx3⟩;have HX7:=J hx3;have HB7:=J ((hx3.2.block wr.heap.size (aA HB5.out) (fun z=>z HIN5.out)).trans HB5.out);clear hx3;have hc6:=bZ HB7.out;have d0:=hc6.c0;have d1:=hc6.c1;have d2:=hc6.c2;have d3:=hc6.c3;have d4:=hc6.c4;have d5:=hc6.c5;clear hc6) | (go_at_call 56;(with_reducible refine (bP HX7.out bel 2 0 0 HF7.out).mono ?_);rintro e w8 ⟨rfl,HX8⟩;replace HX8:=J HX8));go_roundw
     case rel=>exact ⟨k+1,(aB (aL f kd sk) 2 0 0),by go_num,HLT.out,HX.out.back HWB.out HX8.out (fun k z=>.inl z),by rw [HD.out,HDR.out,dD];simp only [HE10.out,HK0.out,decide_true,decide_false,if_true,if_false];rfl,HG.out⟩
     case measure=>simp [intOf];have:=HLT.out;omega
    ·have HE10:Hid ((kd.kind=10)=False):=J (eq_false e10);have q1:(kd.kind==10)=false:=Y26;clear e10;have hgr:=dB f kd sk HSK.out;have hva:∀{wa W:World},CT w0 (fun j=>Pb j∨wr.heap.size≤j∧j<wb.heap.size) wb wa cb m sk→Below wa.heap.size wa W→Calls Tryz.prog 55 #[.pointer (some ⟨cb,0,none⟩),ndV kd q'] W fun e w'=>e= .returned (.tuple #[])∧CT w0 (fun j=>Pb j∨wr.heap.size≤j∧j<wb.heap.size) wb w' cb m (aL f kd sk):=fun hc hb=>HV.out.at_ HSK.out hc hb HKD.out Y31 Y31
     unfold ndV at hva;have HVA:Hid (∀{wa W:World},CT w0 (fun j=>Pb j∨wr.heap.size≤j∧j<wb.heap.size) wb wa cb m sk→Below wa.heap.size wa W→_):=J hva;have HF5:Hid (sk.code.length≤1000000):=J Y34;have HF7:Hid (((aL f kd sk)).code.length≤1000000):=J Y93;have HG:Hid (((aL f kd sk)).code.length+8*NodT.sizes (x.kids.drop (k+1))+1≤1000000∧((aL f kd sk)).lits.length+NodT.sizes (x.kids.drop (k+1))≤100000):=J (by
      have h0:=hgr.code;have h4:=hgr.lits;have h1:=HRM.out;have h2:=HSZ.out;have h3:=kd.size_pos;exact ⟨by omega,by omega⟩)
     clear hva hgr;go_wp2_with (first | (go_at_call 55;(with_reducible refine (HVA.out HK5.out.ct bel).mono ?_);rintro e w7 ⟨rfl,hx3⟩;have HX7:=J hx3;have HB7:=J ((hx3.2.block wr.heap.size (aA HB5.out) (fun z=>z HIN5.out)).trans HB5.out);clear hx3;have hc6:=bZ HB7.out;have d0:=hc6.c0;have d1:=hc6.c1;have d2:=hc6.c2;have d3:=hc6.c3;have d4:=hc6.c4;have d5:=hc6.c5;clear hc6));go_roundw
     case rel=>exact ⟨k+1,(aL f kd sk),by go_num,HLT.out,HX.out.back HWB.out HX7.out (fun k z=>.inl z),by rw [HD.out,HDR.out,dD];simp only [HE10.out,HK0.out,decide_true,decide_false,if_true,if_false];rfl,HG.out⟩
     case measure=>simp [intOf];have:=HLT.out;omega
   ·have HK0:Hid (decide (k=0)=false):=J (by simpa using ek);have g2:decide ((0:Int)<(k:Int))=true:=aD I;have g3:decide (0<k)=true:=aD I;clear ek
    by_cases e10:kd.kind=10
    ·have HE10:Hid ((kd.kind=10)=True):=J (eq_true e10);have q1:(kd.kind==10)=true:=Y26;clear e10;have hgr:=dB f kd (aB sk 12 0 0) HSK.out;have hva:∀{wa W:World},CT w0 (fun j=>Pb j∨wr.heap.size≤j∧j<wb.heap.size) wb wa cb m (aB sk 12 0 0)→Below wa.heap.size wa W→Calls Tryz.prog 55 #[.pointer (some ⟨cb,0,none⟩),ndV kd q'] W fun e w'=>e= .returned (.tuple #[])∧CT w0 (fun j=>Pb j∨wr.heap.size≤j∧j<wb.heap.size) wb w' cb m (aL f kd (aB sk 12 0 0)):=fun hc hb=>HV.out.at_ HSK.out hc hb HKD.out (by have h1:=HRM.out;have h2:=HSZ.out;rw [aM];omega) (by have h1:=HRM.out;have h2:=HSZ.out;rw [cC];omega)
     unfold ndV at hva;have HVA:Hid (∀{wa W:World},CT w0 (fun j=>Pb j∨wr.heap.size≤j∧j<wb.heap.size) wb wa cb m (aB sk 12 0 0)→Below wa.heap.size wa W→_):=J hva;have HF5:Hid (sk.code.length≤1000000):=J Y34;have HF7:Hid (((aL f kd (aB sk 12 0 0))).code.length≤1000000):=J Y71;have HG:Hid (((aB (aL f kd (aB sk 12 0 0)) 2 0 0)).code.length+8*NodT.sizes (x.kids.drop (k+1))+1≤1000000∧((aB (aL f kd (aB sk 12 0 0)) 2 0 0)).lits.length+NodT.sizes (x.kids.drop (k+1))≤100000):=J (by
      have h0:=hgr.code;have h4:=hgr.lits;have h1:=HRM.out;have h2:=HSZ.out;have h3:=kd.size_pos;rw [aM] at h0;rw [cC] at h4;rw [aM,cC];exact ⟨by omega,by omega⟩)
     clear hva hgr;go_wp2_with (first | (go_at_call 56;(with_reducible refine (bP HK5.out.ct bel 12 0 0 HF5.out).mono ?_);rintro e w6 ⟨rfl,hx3⟩;have HX6:=J hx3;have HB6:=J ((hx3.2.block wr.heap.size (aA HB5.out) (fun z=>z HIN5.out)).trans HB5.out);clear hx3;have hc6:=bZ HB6.out;have d0:=hc6.c0;have d1:=hc6.c1;have d2:=hc6.c2;have d3:=hc6.c3;have d4:=hc6.c4;have d5:=hc6.c5;clear hc6) | (go_at_call 55;(with_reducible refine (HVA.out HX6.out bel).mono ?_);rintro e w7 ⟨rfl,hx3⟩;have HX7:=J hx3;have HB7:=J ((hx3.2.block wr.heap.size (aA HB5.out) (fun z=>z HIN5.out)).trans HB5.out);clear hx3;have hc6:=bZ HB7.out;have d0:=hc6.c0;have d1:=hc6.c1;have d2:=hc6.c2;have d3:=hc6.c3;have d4:=hc6.c4;have d5:=hc6.c5;clear hc6) | (go_at_call 56;(with_reducible refine (bP HX7.out bel 2 0 0 HF7.out).mono ?_);rintro e w8 ⟨rfl,HX8⟩;replace HX8:=J HX8));go_roundw
     case rel=>exact ⟨k+1,(aB (aL f kd (aB sk 12 0 0)) 2 0 0),by go_num,HLT.out,HX.out.back HWB.out HX8.out (fun k z=>.inl z),by rw [HD.out,HDR.out,HK0.out,dD];simp only [HE10.out,decide_true,decide_false,if_true,if_false];rfl,HG.out⟩
     case measure=>simp [intOf];have:=HLT.out;omega
    ·have HE10:Hid ((kd.kind=10)=False):=J (eq_false e10);have q1:(kd.kind==10)=false:=Y26;clear e10;have hgr:=dB f kd (aB sk 12 0 0) HSK.out;have hva:∀{wa W:World},CT w0 (fun j=>Pb j∨wr.heap.size≤j∧j<wb.heap.size) wb wa cb m (aB sk 12 0 0)→Below wa.heap.size wa W→Calls Tryz.prog 55 #[.pointer (some ⟨cb,0,none⟩),ndV kd q'] W fun e w'=>e= .returned (.tuple #[])∧CT w0 (fun j=>Pb j∨wr.heap.size≤j∧j<wb.heap.size) wb w' cb m (aL f kd (aB sk 12 0 0)):=fun hc hb=>HV.out.at_ HSK.out hc hb HKD.out (by have h1:=HRM.out;have h2:=HSZ.out;rw [aM];omega) (by have h1:=HRM.out;have h2:=HSZ.out;rw [cC];omega)
     unfold ndV at hva;have HVA:Hid (∀{wa W:World},CT w0 (fun j=>Pb j∨wr.heap.size≤j∧j<wb.heap.size) wb wa cb m (aB sk 12 0 0)→Below wa.heap.size wa W→_):=J hva;have HF5:Hid (sk.code.length≤1000000):=J Y34;have HF7:Hid (((aL f kd (aB sk 12 0 0))).code.length≤1000000):=J Y71;have HG:Hid (((aL f kd (aB sk 12 0 0))).code.length+8*NodT.sizes (x.kids.drop (k+1))+1≤1000000∧((aL f kd (aB sk 12 0 0))).lits.length+NodT.sizes (x.kids.drop (k+1))≤100000):=J (by
      have h0:=hgr.code;have h4:=hgr.lits;have h1:=HRM.out;have h2:=HSZ.out;have h3:=kd.size_pos;rw [aM] at h0;rw [cC] at h4;exact ⟨by omega,by omega⟩)
     clear hva hgr;go_wp2_with (first | (go_at_call 56;(with_reducible refine (bP HK5.out.ct bel 12 0 0 HF5.out).mono ?_);rintro e w6 ⟨rfl,hx3⟩;have HX6:=J hx3;have HB6:=J ((hx3.2.block wr.heap.size (aA HB5.out) (fun z=>z HIN5.out)).trans HB5.out);clear hx3;have hc6:=bZ HB6.out;have d0:=hc6.c0;have d1:=hc6.c1;have d2:=hc6.c2;have d3:=hc6.c3;have d4:=hc6.c4;have d5:=hc6.c5;clear hc6) | (go_at_call 55;(with_reducible refine (HVA.out HX6.out bel).mono ?_);rintro e w7 ⟨rfl,hx3⟩;have HX7:=J hx3;have HB7:=J ((hx3.2.block wr.heap.size (aA HB5.out) (fun z=>z HIN5.out)).trans HB5.out);clear hx3;have hc6:=bZ HB7.out;have d0:=hc6.c0;have d1:=hc6.c1;have d2:=hc6.c2;have d3:=hc6.c3;have d4:=hc6.c4;have d5:=hc6.c5;clear hc6));go_roundw
     case rel=>exact ⟨k+1,(aL f kd (aB sk 12 0 0)),by go_num,HLT.out,HX.out.back HWB.out HX7.out (fun k z=>.inl z),by rw [HD.out,HDR.out,HK0.out,dD];simp only [HE10.out,decide_true,decide_false,if_true,if_false];rfl,HG.out⟩
     case measure=>simp [intOf];have:=HLT.out;omega
  ·skip
   have hkn:k=n:=I;have d1:=aK hlt;have d2:=aF hlt;clear hlt;have hd0:dD (aL f) true x.kids sd=sk:=Y70;subst hkn;have HFZ:Hid (sk.code.length≤1000000):=J Y34;have HTM:Hid (s.temps≤sk.temps):=J (by
    have h1:=((iX true x.names s).trans (iX false x.temps _)).trans (lK (jG f) true x.kids _);rw [HSD.out,hd0] at h1;exact h1.temps)
   have HB9:=J ((HX.out.2.block w.heap.size HBL.out (fun z=>z INB.out)).trans HB2.out);have hc6:=cW HB9.out;have c0:=hc6.c0;have c1:=hc6.c1;have c2:=hc6.c2;have c3:=hc6.c3;have c4:=hc6.c4;have c5:=hc6.c5;clear hc6;obtain ⟨lvy,cvy,nvy,Dy,psy,hyy,hfy⟩:=HX.out.1;have f6y:=hyy.free 6;have k6y:wr.cell? ⟨cb,6,none⟩=some nvy:=by rw [hyy.cell];rfl
   have HYY:=J hyy;clear hyy
   by_cases e0:k=0
   ·have HBD:Hid (cN (aL f) x s={aB sk 2 0 0 with names:=s.names}):=J (by rw [oL,HSD.out,hd0,if_pos Y153]);have z1:(k==0)=true:=by simpa using e0
    have z2:((k:Int)==0)=true:=Y4;clear e0 hd0;go_wp2_with (first | (go_at_call 56;(with_reducible refine (bP HX.out bel 2 0 0 HFZ.out).mono ?_);rintro e w8 ⟨rfl,hx3⟩;have HX8:=J hx3;obtain ⟨lvz,cvz,nvz,Dz,psz,hyz,hfz⟩:=hx3.1;have f6z:=hyz.free 6;have k6z:w8.cell? ⟨cb,6,none⟩=some nvz:=(by rw [hyz.cell];rfl);have HYZ:=J hyz;clear hx3 hyz));go_returns;refine ⟨rfl,?_,?_⟩
    ·have hy9:=HYZ.out.store (s':={aB sk 2 0 0 with names:=s.names}) 6 (.slice A n6 n6) (by simp [fR]) rfl rfl (HNM.out w8 HX8.out.2) HNOK.out HYZ.out.enm;rw [HBD.out];refine CX.less (P:=Pb) ⟨_,_,_,_,_,hy9,?_,?_⟩ HSUB.out HLOW.out
     ·have h1:=HX8.out.1.few;exact h1.1
     ·have h1:=HFW.out;have h2:=HTM.out
      show s.names.length≤8+(aB sk 2 0 0).temps
      have h3:sk.temps=(aB sk 2 0 0).temps:=rfl;omega
    ·exact (HTS.out.trans (HX8.out.2.mono (fun k _ z q=>z (HSUB.out k q)))).setCell _ _ (.inl HCBP.out)
   ·have HBD:Hid (cN (aL f) x s={sk with names:=s.names}):=J (by rw [oL,HSD.out,hd0,if_neg Y153]);have z1:(k==0)=false:=by simpa using e0
    have z2:((k:Int)==0)=false:=Y4;clear e0 hd0;go_wp2_with fail;go_returns;refine ⟨rfl,?_,?_⟩
    ·have hy9:=HYY.out.store (s':={sk with names:=s.names}) 6 (.slice A n6 n6) (by simp [fR]) rfl rfl (HNM.out wr HX.out.2) HNOK.out HYY.out.enm;rw [HBD.out];refine CX.less (P:=Pb) ⟨_,_,_,_,_,hy9,?_,?_⟩ HSUB.out HLOW.out
     ·have h1:=HX.out.1.few;exact h1.1
     ·have h1:=HFW.out;have h2:=HTM.out
      show s.names.length≤8+(sk).temps
      have h3:sk.temps=(sk).temps:=rfl;omega
    ·exact (HTS.out.trans (HX.out.2.mono (fun k _ z q=>z (HSUB.out k q)))).setCell _ _ (.inl HCBP.out)
theorem sP {f:Nat} (hv:VSpec f) {w0 w:World} {P:Nat→Prop} {cb:Nat} {m:MK} {s:CSt} (h:CX w0 P w cb m s) {x:NodT} {q:NS} (hn:IsNd w0 (fun _=>True) x q) (hx:x.size≤f+1) (hf:s.code.length+8*x.size≤1000000) (hl:s.lits.length+x.size≤100000):
  Calls Tryz.prog 84 #[.pointer (some ⟨cb,0,none⟩),ndV x q] w fun e w'=>e= .returned (.tuple #[])∧CT w0 P w w' cb m (cN (aL f) x s):=eO hv h hn hx I hl
end Go.Proofs.YtnojndgmgkgnpaaGreat
