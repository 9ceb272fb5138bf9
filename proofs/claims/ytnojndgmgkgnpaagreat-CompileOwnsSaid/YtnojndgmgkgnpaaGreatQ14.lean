/- Chapter 10: words and contracts for the law. -/
import Derived.Test.YtnojndgmgkgnpaaGreatQ01
import Derived.Test.YtnojndgmgkgnpaaGreatQ04
import Derived.Test.YtnojndgmgkgnpaaGreatQ13
set_option maxRecDepth 100000
set_option maxHeartbeats 40000000
set_option linter.unusedVariables false
set_option linter.unusedSimpArgs false
namespace Go.Proofs.YtnojndgmgkgnpaaGreat
structure Go7 (T:Tks) (s s':PSt):Prop where
 le:s.i≤s'.i
 top:s.i≤T.length→s'.i≤T.length
 err:s.e≠0→s'.e≠0
namespace Go7
variable {T:Tks}
theorem refl (s:PSt):Go7 T s s:=⟨Nat.le_refl _,id,id⟩
theorem trans {s t u:PSt} (h:Go7 T s t) (g:Go7 T t u):Go7 T s u:=⟨Nat.le_trans h.le g.le,fun z=>g.top (h.top z),fun z=>g.err (h.err z)⟩
theorem fail (s:PSt) (t:Lx.ATok) (e:Int) (he:e≠0):Go7 T s (cH s t e):=by
 unfold cH
 split
 ·exact ⟨Nat.le_refl _,id,fun _=>he⟩
 ·exact refl s
theorem take {s:PSt} (h:s.i<T.length):Go7 T s (aI s):=⟨Nat.le_succ _,fun _=>h,id⟩
theorem shut (s:PSt):Go7 T s (hE s):=⟨Nat.le_refl _,id,id⟩
end Go7
theorem kK (s:PSt) (t:Lx.ATok) (e:Int):(cH s t e).i=s.i:=by unfold cH;split <;> rfl
theorem jJ (s:PSt) (t:Lx.ATok) (e:Int) (he:e≠0):(cH s t e).e≠0:=by
 unfold cH
 split
 ·exact he
 ·assumption
structure TokPos (T:Tks):Prop where
 pos:0<T.length
 last:(T.getD (T.length-1) fG).kind=0
theorem eT {T:Tks} {s:PSt} {k:Int} {text:ByteArray} (h:isT T s k text=true) (hok:TokPos T) (hk:k≠0):s.i<T.length:=by
 unfold isT at h;simp only [Bool.and_eq_true,beq_iff_eq] at h
 rcases Nat.lt_or_ge s.i T.length with q | q
 ·exact q
 ·have:=h.2.1;unfold ahd at this;rw [if_pos I,hok.last] at this;exact absurd this.symm hk
theorem is_e {T:Tks} {s:PSt} {k:Int} {text:ByteArray} (h:isT T s k text=true):s.e=0:=by
 unfold isT at h;simp only [Bool.and_eq_true,beq_iff_eq] at h;exact h.1
theorem Z67 {P:Prop} (h:P:=by
 exact ⟨Go7.take (eT h hok Y3),fun _=>Nat.lt_succ_self _,fun z=>(by cases z),one _ _ _,kn _ _ _ Y3⟩):P:=h
section
variable {T:Tks} (hok:TokPos T)
include hok
theorem fU (s:PSt) (k:Int) (text:ByteArray) (hk:k≠0):Go7 T s (bT T s k text).2:=by
 unfold bT
 split
 ·rename_i h;exact Go7.take (eT h hok hk)
 ·exact Go7.fail _ _ _ Y3
theorem jW (s:PSt) (k:Int) (l:List ByteArray) (hk:k≠0):Go7 T s (cV T k l s).2:=by
 unfold cV;dsimp only
 split
 ·exact (fU hok s k eB hk).trans (Go7.fail _ _ _ Y3)
 ·exact fU hok s k eB hk
theorem qT:∀(g:Nat) (l:List ByteArray) (s:PSt),Go7 T s (hL T g l s).2
 | 0,l,s=>Go7.refl s
 | g+1,l,s=>by
  unfold hL
  split
  ·rename_i h;exact (Go7.take (eT h hok Y3)).trans (qT g _ _)
  ·exact Go7.refl s
theorem nG (s:PSt):Go7 T s (fB T s).2:=by
 unfold fB
 split
 ·rename_i h;exact ((Go7.take (eT h hok Y3)).trans (qT hok _ _ _)).trans (fU hok _ _ _ Y3)
 ·exact Go7.refl s
theorem nH (s:PSt):Go7 T s (bV T s).2.2∧((bV T s).2.1=true→s.i<(bV T s).2.2.i)∧((bV T s).2.1=false→(bV T s).1=nd0∧(bV T s).2.2=s)∧(bV T s).1.size=1∧((bV T s).1.kind≠7):=by
 have one:∀(k n:Int) (t:ByteArray),(NodT.node k t n [] [] []).size=1:=fun k n t=>by unfold NodT.size NodT.sizes;rfl
 have kn:∀(k n:Int) (t:ByteArray),k≠7→(NodT.node k t n [] [] []).kind≠7:=fun _ _ _ h=>h
 unfold bV
 split
 ·rename_i h;rw [Bool.and_eq_true] at h;have h1:=eT h.1 hok Y3;refine ⟨?_,fun _=>(by show s.i<s.i+1+1;omega),fun z=>(by cases z),one _ _ _,kn _ _ _ Y3⟩
  by_cases h2:s.i+1<T.length
  ·exact (Go7.take h1).trans (Go7.take h2)
  ·exfalso
   have h3:=h.2;rw [Bool.and_eq_true] at h3;have h4:=h3.1;unfold ahd at h4;rw [if_pos I,hok.last] at h4;exact absurd h4 Y3
 split
 ·rename_i h;exact Z67
 split
 ·rename_i h;exact Z67
 split
 ·rename_i h;exact Z67
 ·exact ⟨Go7.refl s,fun z=>(by cases z),fun _=>⟨rfl,rfl⟩,one _ _ _,kn _ _ _ Y3⟩
omit hok in
theorem lT {s:PSt} (h:s.i<T.length):Go7 T s (dW T s).2∧(dW T s).2.i=s.i+1∧((dW T s).1=false→(dW T s).2.e≠0):=by
 unfold dW
 split
 ·exact ⟨(Go7.take h).trans (Go7.fail _ _ _ Y3),kK _ _ _,fun _=>jJ _ _ _ Y3⟩
 ·exact ⟨⟨Nat.le_succ _,fun _=>h,id⟩,rfl,fun z=>(by cases z)⟩
end
def HasK (x:NodT):Prop:=x.kind=7→x.kids≠[]
theorem HasK.of {k:Int} {t:ByteArray} {n:Int} {a b:List ByteArray} {l:List NodT} (h:k≠7∨l≠[]):HasK (.node k t n a b l):=fun e=>h.elim (fun z=>absurd e z) id
theorem tF:HasK nd0:=HasK.of (.inl Y3)
theorem lC:nd0.size=1:=by unfold nd0 NodT.size NodT.sizes;rfl
theorem dT (k:Int) (t:ByteArray) (n:Int) (a b:List ByteArray) (l:List NodT):(NodT.node k t n a b l).size=1+NodT.sizes l:=by unfold NodT.size;rfl
theorem gQ:∀(l r:List NodT),NodT.sizes (l++r)=NodT.sizes l+NodT.sizes r
 | [],r=>by simp [NodT.sizes]
 | a :: l,r=>by simp only [List.cons_append,NodT.sizes,gQ l r];omega
theorem NodT.sizes_two'' {a b:NodT}:NodT.sizes [a,b]=a.size+b.size:=Y152
theorem dG (a:NodT):NodT.sizes [a]=a.size:=Y152
structure Gp (T:Tks) (s:PSt) (r:NodT×PSt) (c:Nat):Prop where
 go:Go7 T s r.2
 size:r.1.size≤c+6*(r.2.i-s.i)
 kids:HasK r.1
structure GoR (T:Tks) (R:Rc):Prop where
 expr:∀s,Gp T s (R.expr s) 1
 prim:∀s,Gp T s (R.prim s) 1
 bin:∀x s,HasK x→Gp T s (R.bin x s) x.size
 kw:∀x s,HasK x→Gp T s (R.kw x s) x.size
 msg:∀s,Go7 T s (R.msg s).2∧NodT.sizes (R.msg s).1.kids≤6*((R.msg s).2.i-s.i)-5
 msg2:∀s,isT T s 2 eB=true→s.i<(R.msg s).2.i
 exprC:∀s,(R.expr s).2.e=0→s.i<(R.expr s).2.i
 primC:∀s,(R.prim s).2.e=0→s.i<(R.prim s).2.i
 litsC:∀s,s.i<T.length→(R.lits s).2.e=0→s.i<(R.lits s).2.i
 litsB:∀s,s.i<T.length→(R.lits s).2.e=0→(R.lits s).1.size≤6*((R.lits s).2.i-s.i)
 blkC:∀s,s.i<T.length→(R.blk s).2.e=0→s.i<(R.blk s).2.i
 lits:∀s,s.i<T.length→Gp T s (R.lits s) 1
 blk:∀s,s.i<T.length→Gp T s (R.blk s) 1
 stmts:∀s,Go7 T s (R.stmts s).2∧NodT.sizes (R.stmts s).1≤6*((R.stmts s).2.i-s.i)+1
theorem Z68 {P:Prop} (h:P:=by
 exact ⟨⟨Go7.fail _ _ _ Y3,by show nd0.size≤_;rw [lC];omega,tF⟩,fun z=>absurd z (jJ _ _ _ Y3)⟩):P:=h
section
variable {T:Tks} (hok:TokPos T)
include hok
theorem unL_gp:∀(g:Nat) (x:NodT) (s:PSt),HasK x→Gp T s (unL T g x s) x.size
 | 0,x,s,h=>⟨Go7.refl s,by show x.size≤_;omega,h⟩
 | g+1,x,s,h=>by
  unfold unL
  split
  ·rename_i hq;have h1:=unL_gp g (.node 7 (tx (ahd T s 0)) 0 [] [] [x]) (aI s) (HasK.of (.inr Y12));have h2:=h1.size;have h3:=h1.go.le;rw [dT,dG] at h2;have h4:(aI s).i=s.i+1:=rfl;exact ⟨(Go7.take (eT hq hok Y3)).trans h1.go,by omega,h1.kids⟩
  ·exact ⟨Go7.refl s,by show x.size≤_;omega,h⟩
theorem nI (x:NodT) (s:PSt) (h:HasK x):Gp T s (unT T x s) x.size:=unL_gp hok _ x s h
variable {R:Rc} (hr:GoR T R)
include hr
theorem pQ:∀(g:Nat) (l:List NodT) (s:PSt),Go7 T s (iH T R g l s).2∧NodT.sizes (iH T R g l s).1+5*(if isT T s 10 kP=true∧0<g then 1 else 0)≤NodT.sizes l+6*((iH T R g l s).2.i-s.i)
 | 0,l,s=>⟨Go7.refl s,by simp [iH]⟩
 | g+1,l,s=>by
  unfold iH
  split
  ·rename_i hq;have h0:=Go7.take (eT hq hok Y3);obtain ⟨m1,m2⟩:=hr.msg (aI s);obtain ⟨h1,h2⟩:=pQ g (l++[(R.msg (aI s)).1]) (R.msg (aI s)).2;refine ⟨(h0.trans m1).trans h1,?_⟩;rw [gQ,dG,NodT.size_kids] at h2;have h4:(aI s).i=s.i+1:=rfl;have h5:=m1.le;have h6:=h1.le;rw [if_pos ⟨hq,Nat.succ_pos _⟩];omega
  ·rename_i hq;refine ⟨Go7.refl s,?_⟩;rw [if_neg (fun z=>hq z.1)];dsimp only;omega
theorem exprS_gp (s:PSt):Gp T s (iI T R s) 1:=by
 unfold iI
 split
 ·rename_i hq;rw [Bool.and_eq_true] at hq;have hlt:=eT hq.1 hok Y3;have hlt2:s.i+1<T.length:=by
   rcases Nat.lt_or_ge (s.i+1) T.length with q | q
   ·exact q
   ·have h4:=hq.2;unfold ahd at h4;rw [if_pos I,hok.last] at h4;exact absurd h4 Y3
  have h0:=(Go7.take hlt).trans (Go7.take (s:=aI s) hlt2);have h1:=hr.expr (aI (aI s));have h2:=h1.size;have h3:=h1.go.le;have h4:(aI (aI s)).i=s.i+2:=rfl;refine ⟨h0.trans h1.go,?_,HasK.of (.inl Y3)⟩;dsimp only;rw [dT,dG];omega
 ·dsimp only;have h0:=hr.prim s
  generalize R.prim s=r0 at h0
  have h1:=nI hok r0.1 r0.2 h0.kids
  generalize unT T r0.1 r0.2=r1 at h1
  have h2:=hr.bin r1.1 r1.2 h1.kids
  generalize R.bin r1.1 r1.2=r2 at h2
  have h3:=hr.kw r2.1 r2.2 h2.kids
  generalize R.kw r2.1 r2.2=r3 at h3
  have hg:=((h0.go.trans h1.go).trans h2.go).trans h3.go;have l0:=h0.go.le;have l1:=h1.go.le;have l2:=h2.go.le;have l3:=h3.go.le;have s0:=h0.size;have s1:=h1.size;have s2:=h2.size;have s3:=h3.size
  split
  ·rename_i hs
   split
   ·exact ⟨hg.trans (Go7.fail _ _ _ Y3),by rw [kK];dsimp only;omega,h3.kids⟩
   ·rename_i hk;have hk7:r3.1.kind=7:=Decidable.not_not.1 hk;obtain ⟨c1,c2⟩:=pQ hok hr (T.length+1) [r3.1.kids.headD nd0,.node 7 r3.1.text 0 [] [] (r3.1.kids.drop 1)] r3.2;have c3:=c1.le;refine ⟨hg.trans c1,?_,HasK.of (.inl Y3)⟩;rw [if_pos ⟨hs,Nat.succ_pos _⟩] at c2;dsimp only;rw [dT];have hne:=h3.kids hk7;have e9:NodT.sizes [r3.1.kids.headD nd0,.node 7 r3.1.text 0 [] [] (r3.1.kids.drop 1)]=r3.1.size:=by
     rw [NodT.size_kids r3.1]
     cases hkk:r3.1.kids with
     | nil=>exact absurd hkk hne
     | cons a l=>simp [NodT.sizes,NodT.size];omega
    rw [e9] at c2;omega
  ·exact ⟨hg,by omega,h3.kids⟩
theorem rU:∀(g:Nat) (t:ByteArray) (l:List NodT) (s:PSt),Go7 T s (jD T R g t l s).2.2∧NodT.sizes (jD T R g t l s).2.1≤NodT.sizes l+(6*((jD T R g t l s).2.2.i-s.i)-5)
 | 0,t,l,s=>⟨Go7.refl s,by simp [jD]⟩
 | g+1,t,l,s=>by
  unfold jD
  split
  ·rename_i hq;dsimp only;have h0:=hr.prim (aI s)
   generalize R.prim (aI s)=r0 at h0
   have h1:=nI hok r0.1 r0.2 h0.kids
   generalize unT T r0.1 r0.2=r1 at h1
   have h2:=hr.bin r1.1 r1.2 h1.kids
   generalize R.bin r1.1 r1.2=r2 at h2
   obtain ⟨h3,h4⟩:=rU g (t++tx (ahd T s 0)) (l++[r2.1]) r2.2;have l0:=h0.go.le;have l1:=h1.go.le;have l2:=h2.go.le;have l3:=h3.le;have s0:=h0.size;have s1:=h1.size;have s2:=h2.size;have h5:(aI s).i=s.i+1:=rfl;refine ⟨((((Go7.take (eT hq hok Y3)).trans h0.go).trans h1.go).trans h2.go).trans h3,?_⟩;rw [gQ,dG] at h4;omega
  ·exact ⟨Go7.refl s,by dsimp only;omega⟩
theorem msgS_gp (s:PSt):Go7 T s (mD T R s).2∧NodT.sizes (mD T R s).1.kids≤6*((mD T R s).2.i-s.i)-5:=by
 unfold mD
 split
 ·rename_i hq;exact ⟨Go7.take (eT hq hok Y3),by simp [NodT.kids,NodT.sizes]⟩
 split
 ·rename_i hq;dsimp only;have h0:=hr.prim (aI s)
  generalize R.prim (aI s)=r0 at h0
  have h1:=nI hok r0.1 r0.2 h0.kids
  generalize unT T r0.1 r0.2=r1 at h1
  have l0:=h0.go.le;have l1:=h1.go.le;have s0:=h0.size;have s1:=h1.size;have h5:(aI s).i=s.i+1:=rfl;refine ⟨((Go7.take (eT hq hok Y3)).trans h0.go).trans h1.go,?_⟩
  show NodT.sizes [r1.1]≤_
  rw [dG];omega
 ·dsimp only;have h0:Go7 T s (if isT T s 2 eB then s else cH s (ahd T s 0) 13)∧(if isT T s 2 eB then s else cH s (ahd T s 0) 13).i=s.i:=by
   split
   ·exact ⟨Go7.refl s,rfl⟩
   ·exact ⟨Go7.fail _ _ _ Y3,kK _ _ _⟩
  generalize (if isT T s 2 eB then s else cH s (ahd T s 0) 13)=s1 at h0
  obtain ⟨h1,h2⟩:=rU hok hr (T.length+1) eB [] s1;refine ⟨h0.1.trans h1,?_⟩
  show NodT.sizes (jD T R (T.length+1) eB [] s1).2.1≤_
  have h3:NodT.sizes ([]:List NodT)=0:=rfl;have h4:=h0.2;omega
omit hok in
theorem kwS_gp (x:NodT) (s:PSt) (hx:HasK x):Gp T s (kwS T R x s) x.size:=by
 unfold kwS
 split
 ·rename_i hq;dsimp only;obtain ⟨h1,h2⟩:=hr.msg s;refine ⟨h1,?_,HasK.of (.inr Y12)⟩;rw [dT];simp only [NodT.sizes];have h3:=hr.msg2 s hq;omega
 ·exact ⟨Go7.refl s,by dsimp only;omega,hx⟩
theorem wT:∀(g:Nat) (x:NodT) (s:PSt),HasK x→Gp T s (oJ T R g x s) x.size
 | 0,x,s,h=>⟨Go7.refl s,by show x.size≤_;omega,h⟩
 | g+1,x,s,h=>by
  unfold oJ
  split
  ·rename_i hq;dsimp only;have h0:=hr.prim (aI s)
   generalize R.prim (aI s)=r0 at h0
   have h1:=nI hok r0.1 r0.2 h0.kids
   generalize unT T r0.1 r0.2=r1 at h1
   have h2:=wT g (.node 7 (tx (ahd T s 0)) 0 [] [] [x,r1.1]) r1.2 (HasK.of (.inr Y12));have l0:=h0.go.le;have l1:=h1.go.le;have l2:=h2.go.le;have s0:=h0.size;have s1:=h1.size;have s2:=h2.size;rw [dT,NodT.sizes_two''] at s2;have h5:(aI s).i=s.i+1:=rfl;exact ⟨(((Go7.take (eT hq hok Y3)).trans h0.go).trans h1.go).trans h2.go,by omega,h2.kids⟩
  ·exact ⟨Go7.refl s,by dsimp only;omega,h⟩
theorem tG (s:PSt):Gp T s (hF T R s) 1∧((hF T R s).2.e=0→s.i<(hF T R s).2.i):=by
 have hp:=nH hok s;unfold hF
 split
 ·rename_i he;exact ⟨⟨Go7.refl s,by show nd0.size≤_;rw [lC];omega,tF⟩,fun z=>absurd z he⟩
 split
 ·rename_i hb;exact ⟨⟨hp.1,by dsimp only;rw [hp.2.2.2.1];omega,fun e=>absurd e hp.2.2.2.2⟩,fun _=>hp.2.1 hb⟩
 split
 ·rename_i hq;exact ⟨⟨Go7.take (eT hq hok Y3),by rw [dT];simp [NodT.sizes],HasK.of (.inl Y3)⟩,fun _=>Nat.lt_succ_self _⟩
 split
 ·rename_i hq;have hlt:=eT hq hok Y3;exact ⟨hr.lits s hlt,hr.litsC s hlt⟩
 split
 ·rename_i hq;have hlt:=eT hq hok Y3;obtain ⟨o1,o2,o3⟩:=lT hlt
  split
  ·dsimp only;have h1:=hr.expr (dW T s).2
   generalize R.expr (dW T s).2=r at h1
   have h2:=fU hok r.2 10 mC Y3;have l1:=h1.go.le;have l2:=h2.le;have s1:=h1.size;have e9:(hE (bT T r.2 10 mC).2).i=(bT T r.2 10 mC).2.i:=rfl;exact ⟨⟨((o1.trans h1.go).trans h2).trans (Go7.shut _),by dsimp only;omega,h1.kids⟩,fun _=>by omega⟩
  ·rename_i hb;exact ⟨⟨o1,by show nd0.size≤_;rw [lC];omega,tF⟩,fun z=>absurd z (o3 (by simpa using hb))⟩
 split
 ·rename_i hq;have hlt:=eT hq hok Y3;exact ⟨hr.blk s hlt,hr.blkC s hlt⟩
 ·exact Z68
theorem nW (s:PSt):Gp T s (fK T R s) 1∧((fK T R s).2.e=0→s.i<(fK T R s).2.i∧(fK T R s).1.size≤6*((fK T R s).2.i-s.i)):=by
 have hp:=nH hok s;unfold fK
 split
 ·rename_i hb;have h1:=hp.2.1 hb;exact ⟨⟨hp.1,by dsimp only;rw [hp.2.2.2.1];omega,fun e=>absurd e hp.2.2.2.2⟩,fun _=>⟨h1,by dsimp only;rw [hp.2.2.2.1];omega⟩⟩
 split
 ·rename_i hq;rw [Bool.or_eq_true] at hq;have hlt:s.i<T.length:=hq.elim (fun z=>eT z hok Y3) (fun z=>eT z hok Y3);exact ⟨hr.lits s hlt,fun z=>⟨hr.litsC s hlt z,hr.litsB s hlt z⟩⟩
 ·exact Z68
theorem pR:∀(g:Nat) (l:List NodT) (s:PSt),Go7 T s (fS T R g l s).2∧NodT.sizes (fS T R g l s).1≤NodT.sizes l+6*((fS T R g l s).2.i-s.i)+1∧((fS T R g l s).2.e=0→NodT.sizes (fS T R g l s).1≤NodT.sizes l+6*((fS T R g l s).2.i-s.i))
 | 0,l,s=>⟨Go7.refl s,by dsimp only [fS];omega,fun _=>by dsimp only [fS];omega⟩
 | g+1,l,s=>by
  unfold fS
  split
  ·obtain ⟨h1,h2⟩:=nW hok hr s;have l1:=h1.go.le;have s1:=h1.size
   by_cases he:(fK T R s).2.e=0
   ·obtain ⟨h3,h4,h5⟩:=pR g (l++[(fK T R s).1]) (fK T R s).2;rw [gQ,dG] at h4 h5;have l3:=h3.le;have h6:=(h2 he).2;exact ⟨h1.go.trans h3,by omega,fun z=>by have:=h5 z;omega⟩
   ·have hstop:fS T R g (l++[(fK T R s).1]) (fK T R s).2=(l++[(fK T R s).1],(fK T R s).2):=by
     cases g with
     | zero=>rfl
     | succ g=>
      unfold fS;rw [if_neg (fun z=>by rw [Bool.and_eq_true,beq_iff_eq] at z;exact he z.1)]
    rw [hstop];refine ⟨h1.go,?_,fun z=>absurd z he⟩;dsimp only;rw [gQ,dG];omega
  ·exact ⟨Go7.refl s,by dsimp only;omega,fun _=>by dsimp only;omega⟩
theorem qU:∀(g:Nat) (l:List NodT) (s:PSt),s.i≤T.length→T.length<g+s.i→(fS T R g l s).2.e=0→isT T (fS T R g l s).2 10 mC=true
 | 0,l,s,h1,h2,_=>by omega
 | g+1,l,s,h1,h2,h3=>by
  unfold fS at h3 ⊢
  split at h3
  ·rename_i hc;rw [if_pos hc];obtain ⟨k1,k2⟩:=nW hok hr s
   by_cases he:(fK T R s).2.e=0
   ·exact qU g _ _ (k1.go.top h1) (by have:=(k2 he).1;omega) h3
   ·exact absurd h3 ((pR hok hr g _ _).1.err he)
  ·rename_i hc;rw [if_neg hc];dsimp only at h3 ⊢
   cases hq:isT T s 10 mC with
   | true=>rfl
   | false=>exact absurd (by rw [h3,hq];rfl) hc
theorem pS (s:PSt) (hlt:s.i<T.length):Gp T s (jP T R s) 1∧((jP T R s).2.e=0→s.i<(jP T R s).2.i∧(jP T R s).1.size≤6*((jP T R s).2.i-s.i)):=by
 obtain ⟨o1,o2,o3⟩:=lT hlt;have h30:NodT.sizes ([]:List NodT)=0:=rfl;unfold jP;dsimp only
 cases ho:(dW T s).1 with
 | false=>
  have he:=o3 ho;simp only [Bool.false_eq_true,if_false];rw [if_neg he];exact ⟨⟨o1,by dsimp only;rw [dT];omega,HasK.of (.inl Y3)⟩,fun z=>absurd z he⟩
 | true=>
  simp only [if_true];obtain ⟨h1,h2,h3⟩:=pR hok hr (T.length+1) [] (dW T s).2;have h4:=qU hok hr (T.length+1) [] (dW T s).2 I I
  generalize fS T R (T.length+1) [] (dW T s).2=r at h1 h2 h3 h4
  have l1:=h1.le
  split
  ·rename_i he;have h5:=eT (h4 he) hok Y3;have h6:=h3 he;have e9:(hE (aI r.2)).i=r.2.i+1:=rfl;refine ⟨⟨(o1.trans h1).trans ((Go7.take h5).trans (Go7.shut _)),?_,HasK.of (.inl Y3)⟩,fun _=>⟨by rw [e9];omega,?_⟩⟩
   ·try dsimp only
    rw [dT,e9];omega
   ·try dsimp only
    rw [dT,e9];omega
  ·rename_i he;refine ⟨⟨o1.trans h1,?_,HasK.of (.inl Y3)⟩,fun z=>absurd z he⟩;dsimp only;rw [dT];omega
omit hr in
theorem wU:∀(g:Nat) (l:List ByteArray) (s:PSt),Go7 T s (iF T g l s).2
 | 0,l,s=>Go7.refl s
 | g+1,l,s=>by
  unfold iF
  split
  ·exact (jW hok s 8 l Y3).trans (wU g _ _)
  ·exact Go7.refl s
theorem wV (s:PSt) (hlt:s.i<T.length):Gp T s (oT T R s) 1∧((oT T R s).2.e=0→s.i<(oT T R s).2.i):=by
 obtain ⟨o1,o2,o3⟩:=lT hlt;unfold oT
 split
 ·dsimp only;have h1:=wU hok (T.length+1) [] (dW T s).2
  generalize iF T (T.length+1) [] (dW T s).2=r at h1
  have h2:Go7 T r.2 (if 0<r.1.length∧isT T r.2 10 jN=false then (bT T r.2 10 kR).2 else r.2):=by
   split
   ·exact fU hok _ _ _ Y3
   ·exact Go7.refl _
  generalize (if 0<r.1.length∧isT T r.2 10 jN=false then (bT T r.2 10 kR).2 else r.2)=s2 at h2
  have h3:=nG hok s2
  generalize fB T s2=t at h3
  obtain ⟨h4,h5⟩:=hr.stmts t.2
  generalize R.stmts t.2=k at h4 h5
  have h6:=fU hok k.2 10 jN Y3;have l1:=h1.le;have l2:=h2.le;have l3:=h3.le;have l4:=h4.le;have l6:=h6.le;have e9:(hE (bT T k.2 10 jN).2).i=(bT T k.2 10 jN).2.i:=rfl;refine ⟨⟨(((((o1.trans h1).trans h2).trans h3).trans h4).trans h6).trans (Go7.shut _),?_,HasK.of (.inl Y3)⟩,fun _=>by omega⟩;dsimp only;rw [dT,e9];omega
 ·rename_i ho;exact ⟨⟨o1,by rw [dT];simp [NodT.sizes],HasK.of (.inl Y3)⟩,fun z=>absurd z (o3 (by simpa using ho))⟩
theorem exprS_c (s:PSt) (he:(iI T R s).2.e=0):s.i<(iI T R s).2.i:=by
 unfold iI at he ⊢
 split at he
 ·rename_i hq;rw [if_pos hq];have h1:=(hr.expr (aI (aI s))).go.le;have h4:(aI (aI s)).i=s.i+2:=rfl;dsimp only;omega
 ·rename_i hq;rw [if_neg hq];dsimp only at he ⊢;have h0:=hr.prim s;have h00:=hr.primC s
  generalize R.prim s=r0 at h0 h00 he
  have h1:=nI hok r0.1 r0.2 h0.kids
  generalize unT T r0.1 r0.2=r1 at h1 he
  have h2:=hr.bin r1.1 r1.2 h1.kids
  generalize R.bin r1.1 r1.2=r2 at h2 he
  have h3:=hr.kw r2.1 r2.2 h2.kids
  generalize R.kw r2.1 r2.2=r3 at h3 he
  have key:∀s9:PSt,Go7 T r3.2 s9→s9.e=0→s.i<s9.i:=fun s9 g9 e9=>by
   have h9:r0.2.e=0:=by
    rcases Decidable.em (r0.2.e=0) with q | q
    ·exact q
    ·exact absurd e9 ((((h1.go.trans h2.go).trans h3.go).trans g9).err q)
   have:=h00 h9;have:=h1.go.le;have:=h2.go.le;have:=h3.go.le;have:=g9.le;omega
  by_cases hs:isT T r3.2 10 kP=true
  ·rw [if_pos hs] at he ⊢
   by_cases hk:r3.1.kind≠7
   ·rw [if_pos hk] at he;exact absurd he (jJ _ _ _ Y3)
   ·rw [if_neg hk] at he ⊢;exact key _ (pQ hok hr _ _ _).1 he
  ·rw [if_neg hs] at he ⊢;exact key _ (Go7.refl _) he
theorem qV:∀(g:Nat) (l:List NodT) (s:PSt),Go7 T s (dY T R g l s).2∧NodT.sizes (dY T R g l s).1≤NodT.sizes l+6*((dY T R g l s).2.i-s.i)+1
 | 0,l,s=>⟨Go7.refl s,by dsimp only [dY];omega⟩
 | g+1,l,s=>by
  unfold dY
  split
  ·split
   ·rename_i hq;dsimp only;have h0:=Go7.take (eT hq hok Y3);have h1:=hr.expr (aI s)
    generalize R.expr (aI s)=r at h1
    have h5:(aI s).i=s.i+1:=rfl;have l1:=h1.go.le;have s1:=h1.size;have h2:Go7 T r.2 (if isT T r.2 10 rM then aI r.2 else r.2):=by
     split
     ·rename_i hd;exact Go7.take (eT hd hok Y3)
     ·exact Go7.refl _
    have l2:=h2.le;refine ⟨(h0.trans h1.go).trans h2,?_⟩;rw [gQ,dG,dT,dG];omega
   ·dsimp only;have h1:=hr.expr s
    generalize R.expr s=r at h1
    have l1:=h1.go.le;have s1:=h1.size
    split
    ·rename_i hd;obtain ⟨h3,h4⟩:=qV g (l++[r.1]) (aI r.2);have l3:=h3.le;have h5:(aI r.2).i=r.2.i+1:=rfl;rw [gQ,dG] at h4;exact ⟨(h1.go.trans (Go7.take (eT hd hok Y3))).trans h3,by omega⟩
    ·refine ⟨h1.go,?_⟩;dsimp only;rw [gQ,dG];omega
  ·exact ⟨Go7.refl s,by dsimp only;omega⟩
theorem msgS_2 (s:PSt) (h:isT T s 2 eB=true):s.i<(mD T R s).2.i:=by
 unfold mD;have hk:∀k:Int,k≠2→isT T s k eB=false:=fun k hk=>by
  cases hq:isT T s k eB with
  | false=>rfl
  | true=>
   unfold isT at h hq;simp only [Bool.and_eq_true,beq_iff_eq] at h hq;exact absurd (hq.2.1.symm.trans h.2.1) hk
 rw [if_neg (by rw [hk 1 Y3];decide),if_neg (by rw [hk 3 Y3];decide)];dsimp only;rw [if_pos h]
 show s.i<(jD T R (T.length+1) eB [] s).2.2.i
 unfold jD;rw [if_pos h];dsimp only;have h0:=hr.prim (aI s);have h1:=nI hok (R.prim (aI s)).1 (R.prim (aI s)).2 h0.kids;have h2:=hr.bin _ (unT T (R.prim (aI s)).1 (R.prim (aI s)).2).2 h1.kids;have h3:=(rU hok hr T.length (eB++tx (ahd T s 0)) ([]++[(R.bin (unT T (R.prim (aI s)).1 (R.prim (aI s)).2).1 (unT T (R.prim (aI s)).1 (R.prim (aI s)).2).2).1]) (R.bin (unT T (R.prim (aI s)).1 (R.prim (aI s)).2).1 (unT T (R.prim (aI s)).1 (R.prim (aI s)).2).2).2).1.le;have l0:=h0.go.le;have l1:=h1.go.le;have l2:=h2.go.le;have h5:(aI s).i=s.i+1:=rfl;omega
theorem stepR_go:GoR T (stepR T R) where
 expr:=exprS_gp hok hr
 prim:=fun s=>(tG hok hr s).1
 bin:=fun x s h=>wT hok hr _ x s h
 kw:=kwS_gp hr
 msg:=msgS_gp hok hr
 msg2:=msgS_2 hok hr
 exprC:=exprS_c hok hr
 primC:=fun s=>(tG hok hr s).2
 litsC:=fun s h z=>((pS hok hr s h).2 z).1
 litsB:=fun s h z=>((pS hok hr s h).2 z).2
 blkC:=fun s h=>(wV hok hr s h).2
 lits:=fun s h=>(pS hok hr s h).1
 blk:=fun s h=>(wV hok hr s h).1
 stmts:=fun s=>by
  have h:=qV hok hr (T.length+1) [] s;have h3:NodT.sizes ([]:List NodT)=0:=rfl;exact ⟨h.1,by have:=h.2;show NodT.sizes (dY T R (T.length+1) [] s).1≤6*((dY T R (T.length+1) [] s).2.i-s.i)+1;omega⟩
end
theorem fY {T:Tks} (hok:TokPos T):∀f,GoR T (rcF T f)
 | 0=>by
  have hf:∀s:PSt,Gp T s (nd0,cH s fG 1) 1:=fun s=>⟨Go7.fail _ _ _ Y3,by show nd0.size≤_;rw [lC];omega,tF⟩
  have he:∀s:PSt,(cH s fG 1).e=0→s.i<(cH s fG 1).i:=fun s z=>absurd z (jJ _ _ _ Y3)
  have hx:∀(x:NodT) (s:PSt),HasK x→Gp T s (x,s) x.size:=fun x s h=>⟨Go7.refl s,by show x.size≤_;omega,h⟩
  exact {
   expr:=hf,prim:=hf,bin:=hx,kw:=hx,
   msg:=fun s=>by
    refine ⟨?_,by show NodT.sizes []≤_;simp [NodT.sizes]⟩
    show Go7 T s (if s.i<T.length then aI s else s)
    split
    ·rename_i h;exact Go7.take h
    ·exact Go7.refl s
   msg2:=fun s h=>by
    show s.i<(if s.i<T.length then aI s else s).i
    rw [if_pos (eT h hok Y3)];exact Nat.lt_succ_self _
   exprC:=he,primC:=he,litsC:=fun s _=>he s,litsB:=fun s _ z=>absurd z (jJ _ _ _ Y3),blkC:=fun s _=>he s
   lits:=fun s _=>hf s,blk:=fun s _=>hf s
   stmts:=fun s=>⟨Go7.refl s,by show NodT.sizes []≤_;simp [NodT.sizes]⟩}
 | f+1=>stepR_go hok (fY hok f)
end Go.Proofs.YtnojndgmgkgnpaaGreat
namespace Go.Proofs.YtnojndgmgkgnpaaGreat
open Go.ChangeShapes Go.WideShapes Go.ChangeAt Go.RowKit Go.Deep Go.Joins Go.Maps
theorem PT.keepB {w4 W w5:World} {pb:Nat} {v:Value} {T:Tks} {s:PSt} (hb:Below w4.heap.size w4 W) (hx:PT pb v T W w5 s) {b:Nat} {o:Obj} (h:w4.heap[b]? =some o) (hne:b≠pb):w5.heap[b]? =some o:=
 ((hx.2.block b (aN (aA h) hb.size) hne).trans (hb.block b (aA h))).trans h
theorem PT.keepN {w4 W w5:World} {pb:Nat} {v:Value} {T:Tks} {s:PSt} (hb:Below w4.heap.size w4 W) (hx:PT pb v T W w5 s) {D:Nat→Prop} {x:NodT} {q:NS} (h:IsNd w4 D x q) (hD:∀b,D b→b≠pb):IsNd w5 D x q:=
 h.same (Nat.le_trans hb.size hx.2.size) (fun b z hl=>(hx.2.block b (aN hl hb.size) (hD b z)).trans (hb.block b hl)) (fun _ z=>z)
def NdP (D:Nat→Prop) (pb:Nat) (v:Value) (T:Tks) (r:NodT×PSt) (w:World) (e:Ending) (w':World):Prop:=∃q,e= .returned (ndV r.1 q)∧PT pb v T w w' r.2∧IsNd w' (fun b=>D b∨w.heap.size≤b) r.1 q
theorem IsNd.lt {w:World} {D:Nat→Prop} {x:NodT} {q:NS} (h:IsNd w D x q):IsNd w (fun b=>D b∧b<w.heap.size) x q:=by
 induction h with
 | node x q Q h1 h2 h3 h4 h5 ih=>
  refine .node x q Q h1 (fun i hi=>?_) (fun i hi=>?_) (fun i hi=>?_) ih
  ·obtain ⟨b,off,e,k1,k2,k3⟩:=h2 i hi;exact ⟨b,off,e,k1,⟨k2,k1⟩,k3⟩
  ·obtain ⟨b,off,e,k1,k2,k3⟩:=h3 i hi;exact ⟨b,off,e,k1,⟨k2,k1⟩,k3⟩
  ·obtain ⟨b,off,e,k1,k2,k3⟩:=h4 i hi;exact ⟨b,off,e,k1,⟨k2,k1⟩,k3⟩
theorem IsNd.turns {w w':World} {D D' X:Nat→Prop} {x:NodT} {q:NS} (h:IsNd w D x q) (ht:Turns X w w') (hX:∀b,D b→b<w.heap.size→¬X b) (hD:∀b,D b→D' b):IsNd w' D' x q:=h.same ht.size (fun b hb hl=>ht.block b hl (hX b hb hl)) hD
theorem IsNd.more {w:World} {D D':Nat→Prop} {x:NodT} {q:NS} (h:IsNd w D x q) (hD:∀b,D b→b<w.heap.size→D' b):IsNd w D' x q:=h.lt.same aR (fun _ _ _=>rfl) (fun b z=>hD b z.1 z.2)
theorem IsNd.leaf (w:World) (D:Nat→Prop) {k n:Int} {t:ByteArray} (hk:InI k) (hn:InI n) (ht:t.size≤bL):IsNd w D (.node k t n [] [] []) ⟨none,0,none,0,none,0⟩:=
 .node _ _ (fun _=>⟨none,0,none,0,none,0⟩) ⟨hk,hn,ht,⟨Nat.le_refl _,Nat.zero_le _⟩,⟨Nat.le_refl _,Nat.zero_le _⟩,⟨Nat.le_refl _,Nat.zero_le _⟩⟩ (fun i h=>absurd h (by simp [NodT.names])) (fun i h=>absurd h (by simp [NodT.temps])) (fun i h=>absurd h (by simp [NodT.kids])) (fun i h=>absurd h (by simp [NodT.kids]))
theorem tH (w:World) (D:Nat→Prop) (p:Option Addr):Strs w D p []:=fun i h=>absurd h Y12
theorem IsNd.over {w:World} {D:Nat→Prop} {k n:Int} {t:ByteArray} {l:List NodT} {p:Option Addr} {c:Nat} (Q:Nat→NS) (hk:InI k) (hn:InI n) (ht:t.size≤bL) (hc:l.length≤c∧c≤maxLen)
  (h4:∀i (h:i<l.length),∃b off,p=some ⟨b,off,none⟩∧b<w.heap.size∧D b∧Cells6 w b (off+i*6) l[i] (Q i)) (h5:∀i (h:i<l.length),IsNd w D l[i] (Q i)):IsNd w D (.node k t n [] [] l) ⟨none,0,none,0,p,c⟩:=
 .node _ _ Q ⟨hk,hn,ht,⟨Nat.le_refl _,Nat.zero_le _⟩,⟨Nat.le_refl _,Nat.zero_le _⟩,hc⟩ (tH _ _ _) (tH _ _ _) h4 h5
theorem iN {T:Tks} {s:PSt} {k:Nat} {t:Lx.ATok} (hok:TokOk T) (ht:ahd T s k=t):(tx t).size≤bL:=by
 have:=hok.text t (by rw [←ht];exact gK hok)
 show _≤9223372036854775807
 omega
theorem IsNd.one {w:World} {D:Nat→Prop} {k n:Int} {t:ByteArray} {x:NodT} {q:NS} {b:Nat} (hk:InI k) (hn:InI n) (ht:t.size≤bL) (hb:w.heap[b]? =some (.cells #[.int .i64 x.kind,.string x.text,.int .i64 x.num,.slice q.pn x.names.length q.cn,.slice q.pt x.temps.length q.ct,.slice q.pk x.kids.length q.ck] 25 (0,0))) (hD:D b) (hx:IsNd w D x q):IsNd w D (.node k t n [] [] [x]) ⟨none,0,none,0,some ⟨b,0,none⟩,1⟩:=by
 refine IsNd.over (fun _=>q) hk hn ht ⟨Nat.le_refl _,by unfold maxLen;simp⟩ (fun i hi=>?_) (fun i hi=>?_)
 ·have e:i=0:=Y156;subst e;exact ⟨b,0,rfl,aA hb,hD,by have h9:=bZ hb;exact h9⟩
 ·have e:i=0:=Y156;subst e;exact hx
theorem Z69 {P:Prop} (h:P:=by
 have h9:gk=(gk-1)+1:=Y45;rw [HUL.out,h9,unL,if_pos HB.out,HT.out,Nat.add_sub_cancel]):P:=h
theorem un_any {w:World} {pb:Nat} {v:Value} {T:Tks} {s:PSt} (h:PW w pb v T s) (hok:TokOk T) (hi:s.i≤T.length) {D:Nat→Prop} (hD:∀b,D b→b≠pb) {x:NodT} {q:NS} (hx:IsNd w D x q):Calls Tryz.prog 70 #[.pointer (some ⟨pb,0,none⟩),ndV x q] w (NdP D pb v T (unT T x s) w):=by
 have HOK:=J hok;have HI:=J hi;have hpl:=aA h.box;have H0:Hid (PW ((w.alloc (.cells #[.int .i64 x.kind,.string x.text,.int .i64 x.num,.slice q.pn x.names.length q.cn,.slice q.pt x.temps.length q.ct,.slice q.pk x.kids.length q.ck] 25)).alloc (.cells #[.int .i64 0,.string eB,.int .i64 0,.slice none 0 0,.slice none 0 0,.slice none 0 0] 25)) pb v T s∧Below w.heap.size w ((w.alloc (.cells #[.int .i64 x.kind,.string x.text,.int .i64 x.num,.slice q.pn x.names.length q.cn,.slice q.pt x.temps.length q.ct,.slice q.pk x.kids.length q.ck] 25)).alloc (.cells #[.int .i64 0,.string eB,.int .i64 0,.slice none 0 0,.slice none 0 0,.slice none 0 0] 25))∧(((w.alloc (.cells #[.int .i64 x.kind,.string x.text,.int .i64 x.num,.slice q.pn x.names.length q.cn,.slice q.pt x.temps.length q.ct,.slice q.pk x.kids.length q.ck] 25)).alloc (.cells #[.int .i64 0,.string eB,.int .i64 0,.slice none 0 0,.slice none 0 0,.slice none 0 0] 25)).heap[w.heap.size]? =some (.cells #[.int .i64 x.kind,.string x.text,.int .i64 x.num,.slice q.pn x.names.length q.cn,.slice q.pt x.temps.length q.ct,.slice q.pk x.kids.length q.ck] 25 (0,0))∧((w.alloc (.cells #[.int .i64 x.kind,.string x.text,.int .i64 x.num,.slice q.pn x.names.length q.cn,.slice q.pt x.temps.length q.ct,.slice q.pk x.kids.length q.ck] 25)).alloc (.cells #[.int .i64 0,.string eB,.int .i64 0,.slice none 0 0,.slice none 0 0,.slice none 0 0] 25)).heap[w.heap.size+1]? =some (.cells #[.int .i64 0,.string eB,.int .i64 0,.slice none 0 0,.slice none 0 0,.slice none 0 0] 25 (0,0)))∧IsNd ((w.alloc (.cells #[.int .i64 x.kind,.string x.text,.int .i64 x.num,.slice q.pn x.names.length q.cn,.slice q.pt x.temps.length q.ct,.slice q.pk x.kids.length q.ck] 25)).alloc (.cells #[.int .i64 0,.string eB,.int .i64 0,.slice none 0 0,.slice none 0 0,.slice none 0 0] 25)) (fun b=>(D b∧b<w.heap.size)∨w.heap.size+2≤b) x q):=J (by
  have hb:Below w.heap.size w ((w.alloc (.cells #[.int .i64 x.kind,.string x.text,.int .i64 x.num,.slice q.pn x.names.length q.cn,.slice q.pt x.temps.length q.ct,.slice q.pk x.kids.length q.ck] 25)).alloc (.cells #[.int .i64 0,.string eB,.int .i64 0,.slice none 0 0,.slice none 0 0,.slice none 0 0] 25)):=bel;have h1:=heap_alloc_new w (.cells #[.int .i64 x.kind,.string x.text,.int .i64 x.num,.slice q.pn x.names.length q.cn,.slice q.pt x.temps.length q.ct,.slice q.pk x.kids.length q.ck] 25);have h2:=heap_alloc_new (w.alloc (.cells #[.int .i64 x.kind,.string x.text,.int .i64 x.num,.slice q.pn x.names.length q.cn,.slice q.pt x.temps.length q.ct,.slice q.pk x.kids.length q.ck] 25)) (.cells #[.int .i64 0,.string eB,.int .i64 0,.slice none 0 0,.slice none 0 0,.slice none 0 0] 25);rw [World.size_alloc] at h2;exact ⟨h.below hb,hb,⟨(ba |>.block _ (aA h1)).trans h1,h2⟩,hx.lt.same hb.size (fun b z _=>hb.block b z.2) (fun b z=>.inl z)⟩)
 have HPL:=J hpl;have HD:=J hD;have HOLD:=J h.old;have HOLD1:Hid (v.ownBlock≠some (w.heap.size+1)):=J (fun e=>by have:=(World.ownsRow.lt h.row _ e).2;omega);unfold ndV;clear h hok hi hx hD;go_enter Tryz.func70,Tryz.ntmps70;go_wp2_with fail;have h1:=H0.out;obtain ⟨w1,hw1⟩:∃w1,((w.alloc (.cells #[.int .i64 x.kind,.string x.text,.int .i64 x.num,.slice q.pn x.names.length q.cn,.slice q.pt x.temps.length q.ct,.slice q.pk x.kids.length q.ck] 25)).alloc (.cells #[.int .i64 0,.string eB,.int .i64 0,.slice none 0 0,.slice none 0 0,.slice none 0 0] 25))=w1:=⟨_,rfl⟩;rw [hw1] at h1 ⊢;have HB1:=J h1.2.1;have HZ1:=J h1.2.2.1.2;clear hw1 H0
 go_loopg [] (T.length+1) (fun g wr=>∃(x':NodT) (q':NS) (sk:PSt),PT pb v T w wr sk∧wr.heap[w.heap.size]? =some (.cells #[.int .i64 x'.kind,.string x'.text,.int .i64 x'.num,.slice q'.pn x'.names.length q'.cn,.slice q'.pt x'.temps.length q'.ct,.slice q'.pk x'.kids.length q'.ck] 25 (0,0))∧wr.heap[w.heap.size+1]? =some (.cells #[.int .i64 0,.string eB,.int .i64 0,.slice none 0 0,.slice none 0 0,.slice none 0 0] 25 (0,0))∧IsNd wr (fun b=>(D b∧b<w.heap.size)∨w.heap.size+2≤b) x' q'∧unL T (T.length+1) x s=unL T g x' sk∧T.length<g+sk.i∧sk.i≤T.length)
 case atStart=>exact ⟨x,q,s,⟨h1.1,Turns.of_below HB1.out⟩,h1.2.2.1.1,h1.2.2.1.2,h1.2.2.2,rfl,by omega,HI.out⟩
 case round=>
  obtain ⟨x',q',sk,hpt,hb0,hb1,hnd,hul,hg,hil⟩:=hrel;have HX:=J hpt;have HB0:=J hb0;have HZ:=J hb1;have HND:=J hnd;have HUL:=J hul;have HG:=J hg;have HIL:=J hil;obtain ⟨t,ht⟩:=aE (ahd T sk 0);have HT:=J ht;obtain ⟨b,hb⟩:=aE (isT T sk 1 eB);have HB:=J hb;clear hpt hb0 hb1 hnd hul hg hil ht hb h1;have hf1:=nF
  cases b with
  | true=>
   have HLT:=J (eL HB.out HOK.out Y3)
   go_upto_region 2 with (first | (go_at_call 48;(with_reducible refine (bD HX.out.1.pt bel HOK.out 1 eB).mono ?_);rw [HB.out];rintro e w4 ⟨rfl,hx⟩;have xb9:=(hx.2.block w.heap.size (aA HB0.out) (fun e=>by have:=HPL.out;omega)).trans HB0.out;have zb9:=(hx.2.block (w.heap.size+1) (aA HZ.out) (fun e=>by have:=HPL.out;omega)).trans HZ.out;have HB0:=J xb9;have HZ:=J zb9;obtain ⟨m0,m1,m2,m3,m4,m5,mr0,mr1,mr2,mr3,mr4,mr5⟩:=cf6 xb9;obtain ⟨n0,n1,n2,n3,n4,n5,nr0,nr1,nr2,nr3,nr4,nr5⟩:=cf6 zb9;clear xb9 zb9;have HZ4:=J HZ.out;have HN4:=J (HND.out.turns (D':=fun b=>(D b∧b<w.heap.size)∨w.heap.size+2≤b) hx.2 (fun b z _ e=>z.elim (fun y=>HD.out b y.1 e) (fun y=>by have:=HPL.out;have e9:b=pb:=e;omega)) (fun _ z=>z));have HX4:=J (HX.out.go hx);clear hx))
   go_region_with (first | (go_at_call 49;(with_reducible refine (dI (HX4.out.1.below bel) HOK.out HIL.out HT.out).mono ?_);rintro e w5 ⟨rfl,hx⟩;have xb9:=PT.keepB bel hx HB0.out Y6;have zb9:=PT.keepB bel hx HZ.out Y6;have HB5:=J xb9;have HZ5:=J zb9;have xa9:=((Below.refl _ _).alloc aR (.cells #[.int .i64 x'.kind,.string x'.text,.int .i64 x'.num,.slice q'.pn x'.names.length q'.cn,.slice q'.pt x'.temps.length q'.ct,.slice q'.pk x'.kids.length q'.ck] 25) |>.block _ (aA xb9)).trans xb9;have m0:w5.cell? ⟨w.heap.size,0,none⟩=some (.int .i64 x'.kind):=aC xb9 rfl;have mr0:w5.frozen? ⟨w.heap.size,0,none⟩=false:=Y94;have ma0:(w5.alloc (.cells #[.int .i64 x'.kind,.string x'.text,.int .i64 x'.num,.slice q'.pn x'.names.length q'.cn,.slice q'.pt x'.temps.length q'.ct,.slice q'.pk x'.kids.length q'.ck] 25)).cell? ⟨w.heap.size,0,none⟩=some (.int .i64 x'.kind):=aC xa9 rfl;have mar0:(w5.alloc (.cells #[.int .i64 x'.kind,.string x'.text,.int .i64 x'.num,.slice q'.pn x'.names.length q'.cn,.slice q'.pt x'.temps.length q'.ct,.slice q'.pk x'.kids.length q'.ck] 25)).frozen? ⟨w.heap.size,0,none⟩=false:=Y95;have m1:w5.cell? ⟨w.heap.size,1,none⟩=some (.string x'.text):=aC xb9 rfl;have mr1:w5.frozen? ⟨w.heap.size,1,none⟩=false:=Y94;have ma1:(w5.alloc (.cells #[.int .i64 x'.kind,.string x'.text,.int .i64 x'.num,.slice q'.pn x'.names.length q'.cn,.slice q'.pt x'.temps.length q'.ct,.slice q'.pk x'.kids.length q'.ck] 25)).cell? ⟨w.heap.size,1,none⟩=some (.string x'.text):=aC xa9 rfl;have mar1:(w5.alloc (.cells #[.int .i64 x'.kind,.string x'.text,.int .i64 x'.num,.slice q'.pn x'.names.length q'.cn,.slice q'.pt x'.temps.length q'.ct,.slice q'.pk x'.kids.length q'.ck] 25)).frozen? ⟨w.heap.size,1,none⟩=false:=Y95;have m2:w5.cell? ⟨w.heap.size,2,none⟩=some (.int .i64 x'.num):=aC xb9 rfl;have mr2:w5.frozen? ⟨w.heap.size,2,none⟩=false:=Y94;have ma2:(w5.alloc (.cells #[.int .i64 x'.kind,.string x'.text,.int .i64 x'.num,.slice q'.pn x'.names.length q'.cn,.slice q'.pt x'.temps.length q'.ct,.slice q'.pk x'.kids.length q'.ck] 25)).cell? ⟨w.heap.size,2,none⟩=some (.int .i64 x'.num):=aC xa9 rfl;have mar2:(w5.alloc (.cells #[.int .i64 x'.kind,.string x'.text,.int .i64 x'.num,.slice q'.pn x'.names.length q'.cn,.slice q'.pt x'.temps.length q'.ct,.slice q'.pk x'.kids.length q'.ck] 25)).frozen? ⟨w.heap.size,2,none⟩=false:=Y95;have m3:w5.cell? ⟨w.heap.size,3,none⟩=some (.slice q'.pn x'.names.length q'.cn):=aC xb9 rfl;have mr3:w5.frozen? ⟨w.heap.size,3,none⟩=false:=Y94;have ma3:(w5.alloc (.cells #[.int .i64 x'.kind,.string x'.text,.int .i64 x'.num,.slice q'.pn x'.names.length q'.cn,.slice q'.pt x'.temps.length q'.ct,.slice q'.pk x'.kids.length q'.ck] 25)).cell? ⟨w.heap.size,3,none⟩=some (.slice q'.pn x'.names.length q'.cn):=aC xa9 rfl;have mar3:(w5.alloc (.cells #[.int .i64 x'.kind,.string x'.text,.int .i64 x'.num,.slice q'.pn x'.names.length q'.cn,.slice q'.pt x'.temps.length q'.ct,.slice q'.pk x'.kids.length q'.ck] 25)).frozen? ⟨w.heap.size,3,none⟩=false:=Y95;have m4:w5.cell? ⟨w.heap.size,4,none⟩=some (.slice q'.pt x'.temps.length q'.ct):=aC xb9 rfl;have mr4:w5.frozen? ⟨w.heap.size,4,none⟩=false:=Y94;have ma4:(w5.alloc (.cells #[.int .i64 x'.kind,.string x'.text,.int .i64 x'.num,.slice q'.pn x'.names.length q'.cn,.slice q'.pt x'.temps.length q'.ct,.slice q'.pk x'.kids.length q'.ck] 25)).cell? ⟨w.heap.size,4,none⟩=some (.slice q'.pt x'.temps.length q'.ct):=aC xa9 rfl;have mar4:(w5.alloc (.cells #[.int .i64 x'.kind,.string x'.text,.int .i64 x'.num,.slice q'.pn x'.names.length q'.cn,.slice q'.pt x'.temps.length q'.ct,.slice q'.pk x'.kids.length q'.ck] 25)).frozen? ⟨w.heap.size,4,none⟩=false:=Y95;have m5:w5.cell? ⟨w.heap.size,5,none⟩=some (.slice q'.pk x'.kids.length q'.ck):=aC xb9 rfl;have mr5:w5.frozen? ⟨w.heap.size,5,none⟩=false:=Y94;have ma5:(w5.alloc (.cells #[.int .i64 x'.kind,.string x'.text,.int .i64 x'.num,.slice q'.pn x'.names.length q'.cn,.slice q'.pt x'.temps.length q'.ct,.slice q'.pk x'.kids.length q'.ck] 25)).cell? ⟨w.heap.size,5,none⟩=some (.slice q'.pk x'.kids.length q'.ck):=aC xa9 rfl;have mar5:(w5.alloc (.cells #[.int .i64 x'.kind,.string x'.text,.int .i64 x'.num,.slice q'.pn x'.names.length q'.cn,.slice q'.pt x'.temps.length q'.ct,.slice q'.pk x'.kids.length q'.ck] 25)).frozen? ⟨w.heap.size,5,none⟩=false:=Y95;have HN5:=J (PT.keepN bel hx HN4.out (fun b z e=>z.elim (fun y=>HD.out b y.1 e) (fun y=>by have:=HPL.out;omega)));have HX5:=J ((HX4.out.below bel).go hx);have HXR:=J hx;have hsz5:=aA xb9;clear hx xb9 zb9 xa9))
   all_goals
    go_wp2_with fail
    go_roundg (gk-1)
    case measure=>have:=HG.out;have:=HLT.out;omega
    case rel=>
     first
     | (
       obtain ⟨U,hU⟩:∃U,U=((((((w5.setCell ⟨w.heap.size,0,none⟩ (.int .i64 7)).setCell ⟨w.heap.size,1,none⟩ (.string (tx t))).setCell ⟨w.heap.size,2,none⟩ (.int .i64 0)).setCell ⟨w.heap.size,3,none⟩ (.slice none 0 0)).setCell ⟨w.heap.size,4,none⟩ (.slice none 0 0)).setCell ⟨w.heap.size,5,none⟩ (.slice (some ⟨w5.heap.size,0,none⟩) 1 1)):=⟨_,rfl⟩;rw [←hU];have hT:Turns (fun k=>k=w.heap.size) w5 U:=Y54;have hB:U.heap[w.heap.size]? =some (.cells #[.int .i64 7,.string (tx t),.int .i64 0,.slice none 0 0,.slice none 0 0,.slice (some ⟨w5.heap.size,0,none⟩) 1 1] 25 (0,0)):=by rw [hU];exact aV HB5.out
       have hsz:U.heap.size=w5.heap.size:=by rw [hU];simp
       have hw5:w.heap.size+2≤w5.heap.size:=by have h9:=aA HZ5.out;omega
       have hal:=(Below.refl U.heap.size U).alloc aR (.cells #[.int .i64 x'.kind,.string x'.text,.int .i64 x'.num,.slice q'.pn x'.names.length q'.cn,.slice q'.pt x'.temps.length q'.ct,.slice q'.pk x'.kids.length q'.ck] 25);have hpt:PT pb v T w U (aI sk):=HX5.out.turned hT (fun k e=>⟨by omega,by have:=HPL.out;omega,by rw [e];exact HOLD.out⟩);have hnU:IsNd U (fun b=>(D b∧b<w.heap.size)∨w.heap.size+2≤b) x' q':=HN5.out.turns hT (fun b z _ e=>z.elim (fun y=>by have:=y.2;have e9:b=w.heap.size:=e;omega) (fun y=>by have e9:b=w.heap.size:=e;omega)) (fun _ z=>z);have hrow:(U.alloc (.cells #[.int .i64 x'.kind,.string x'.text,.int .i64 x'.num,.slice q'.pn x'.names.length q'.cn,.slice q'.pt x'.temps.length q'.ct,.slice q'.pk x'.kids.length q'.ck] 25)).heap[w5.heap.size]? =some (.cells #[.int .i64 x'.kind,.string x'.text,.int .i64 x'.num,.slice q'.pn x'.names.length q'.cn,.slice q'.pt x'.temps.length q'.ct,.slice q'.pk x'.kids.length q'.ck] 25 (0,0)):=by
        rw [←hsz];exact heap_alloc_new U _
       have hz9:=(hT.block _ (aA HZ5.out) (fun e=>by have e9:w.heap.size+1=w.heap.size:=e;omega)).trans HZ5.out;have hul:unL T (T.length+1) x s=unL T (gk-1) (.node 7 (tx t) 0 [] [] [x']) (aI sk):=by
        exact Z69
       exact ⟨.node 7 (tx t) 0 [] [] [x'],⟨none,0,none,0,some ⟨w5.heap.size,0,none⟩,1⟩,aI sk,hpt.below hal,(hal.block _ (aA (hB))).trans (hB),(hal.block _ (aA (hz9))).trans (hz9),IsNd.one ⟨by decide,by decide⟩ ⟨by decide,by decide⟩ (iN HOK.out HT.out) hrow (.inr hw5) (hnU.under hal),hul,by show T.length<_+(sk.i+1);have:=HG.out;have:=HLT.out;omega,HLT.out⟩
      )
     | (
       obtain ⟨U,hU⟩:∃U,U=((((((w5.setCell ⟨w.heap.size,0,none⟩ (.int .i64 7)).setCell ⟨w.heap.size,1,none⟩ (.string (tx t))).setCell ⟨w.heap.size,2,none⟩ (.int .i64 0)).setCell ⟨w.heap.size,3,none⟩ (.slice none 0 0)).setCell ⟨w.heap.size,4,none⟩ (.slice none 0 0)).setCell ⟨w.heap.size,5,none⟩ (.slice (some ⟨w4.heap.size,0,none⟩) 1 1)):=⟨_,rfl⟩;rw [←hU];have hT:Turns (fun k=>k=w.heap.size) w5 U:=Y54;have hB:U.heap[w.heap.size]? =some (.cells #[.int .i64 7,.string (tx t),.int .i64 0,.slice none 0 0,.slice none 0 0,.slice (some ⟨w4.heap.size,0,none⟩) 1 1] 25 (0,0)):=by rw [hU];exact aV HB5.out
       have hsz:U.heap.size=w5.heap.size:=by rw [hU];simp
       have hw5:w.heap.size+2≤w4.heap.size:=by have h9:=aA HZ.out;have h8:=aA HZ4.out;omega
       have hal:=(Below.refl U.heap.size U).alloc aR (.cells #[.int .i64 x'.kind,.string x'.text,.int .i64 x'.num,.slice q'.pn x'.names.length q'.cn,.slice q'.pt x'.temps.length q'.ct,.slice q'.pk x'.kids.length q'.ck] 25);have hpt:PT pb v T w U (aI sk):=HX5.out.turned hT (fun k e=>⟨by omega,by have:=HPL.out;omega,by rw [e];exact HOLD.out⟩);have hnU:IsNd U (fun b=>(D b∧b<w.heap.size)∨w.heap.size+2≤b) x' q':=HN5.out.turns hT (fun b z _ e=>z.elim (fun y=>by have:=y.2;have e9:b=w.heap.size:=e;omega) (fun y=>by have e9:b=w.heap.size:=e;omega)) (fun _ z=>z);have hrow:U.heap[w4.heap.size]? =some (.cells #[.int .i64 x'.kind,.string x'.text,.int .i64 x'.num,.slice q'.pn x'.names.length q'.cn,.slice q'.pt x'.temps.length q'.ct,.slice q'.pk x'.kids.length q'.ck] 25 (0,0)):=by
        refine (hT.block _ (aN (by rw [World.size_drew,World.size_alloc];exact Nat.lt_succ_self _) HXR.out.2.size) (fun e=>by have e9:w4.heap.size=w.heap.size:=e;omega)).trans ((HXR.out.2.block _ Y12 (fun e=>by have h7:=aA HX4.out.1.box;have e9:w4.heap.size=pb:=e;omega)).trans (heap_alloc_new w4 _))
       have hz9:=(hT.block _ (aA HZ5.out) (fun e=>by have e9:w.heap.size+1=w.heap.size:=e;omega)).trans HZ5.out;have hul:unL T (T.length+1) x s=unL T (gk-1) (.node 7 (tx t) 0 [] [] [x']) (aI sk):=by
        exact Z69
       exact ⟨.node 7 (tx t) 0 [] [] [x'],⟨none,0,none,0,some ⟨w4.heap.size,0,none⟩,1⟩,aI sk,hpt,hB,hz9,IsNd.one ⟨by decide,by decide⟩ ⟨by decide,by decide⟩ (iN HOK.out HT.out) hrow (.inr hw5) (hnU),hul,by show T.length<_+(sk.i+1);have:=HG.out;have:=HLT.out;omega,HLT.out⟩
      )
  | false=>
   have hq:unL T (T.length+1) x s=(x',sk):=by
    rw [HUL.out]
    cases gk with
    | zero=>rfl
    | succ g=>rw [unL,if_neg Y91]
   have HE:Hid (unT T x s=(x',sk)):=J hq;clear hq;go_wp2_with (first | (go_at_call 48;(with_reducible refine (bD HX.out.1.pt bel HOK.out 1 eB).mono ?_);rw [HB.out];rintro e w4 ⟨rfl,hx⟩;have xb9:=(hx.2.block w.heap.size (aA HB0.out) (fun e=>by have:=HPL.out;omega)).trans HB0.out;have zb9:=(hx.2.block (w.heap.size+1) (aA HZ.out) (fun e=>by have:=HPL.out;omega)).trans HZ.out;have HB0:=J xb9;have HZ:=J zb9;obtain ⟨m0,m1,m2,m3,m4,m5,mr0,mr1,mr2,mr3,mr4,mr5⟩:=cf6 xb9;obtain ⟨n0,n1,n2,n3,n4,n5,nr0,nr1,nr2,nr3,nr4,nr5⟩:=cf6 zb9;clear xb9 zb9;have HZ4:=J HZ.out;have HN4:=J (HND.out.turns (D':=fun b=>(D b∧b<w.heap.size)∨w.heap.size+2≤b) hx.2 (fun b z _ e=>z.elim (fun y=>HD.out b y.1 e) (fun y=>by have:=HPL.out;have e9:b=pb:=e;omega)) (fun _ z=>z));have HX4:=J (HX.out.go hx);clear hx));obtain ⟨W9,hW9⟩:∃W9,W9=((((((w4.setCell ⟨w.heap.size+1,0,none⟩ (.int .i64 x'.kind)).setCell ⟨w.heap.size+1,1,none⟩ (.string x'.text)).setCell ⟨w.heap.size+1,2,none⟩ (.int .i64 x'.num)).setCell ⟨w.heap.size+1,3,none⟩ (.slice q'.pn x'.names.length q'.cn)).setCell ⟨w.heap.size+1,4,none⟩ (.slice q'.pt x'.temps.length q'.ct)).setCell ⟨w.heap.size+1,5,none⟩ (.slice q'.pk x'.kids.length q'.ck)):=⟨_,rfl⟩;have h9:W9.heap[w.heap.size+1]? =some (.cells #[.int .i64 x'.kind,.string x'.text,.int .i64 x'.num,.slice q'.pn x'.names.length q'.cn,.slice q'.pt x'.temps.length q'.ct,.slice q'.pk x'.kids.length q'.ck] 25 (0,0)):=Y38;obtain ⟨z0,z1,z2,z3,z4,z5⟩:=cc6 h9;have HT9:Hid (Turns (fun k=>k=w.heap.size+1) w4 W9):=J Y16;rw [←hW9];clear hW9 h9;refine bodyPost_ret (v:=.agg #[.int .i64 x'.kind,.string x'.text,.int .i64 x'.num,.slice q'.pn x'.names.length q'.cn,.slice q'.pt x'.temps.length q'.ct,.slice q'.pk x'.kids.length q'.ck]) (by simp [results,Tryz.results70,go_sem,z0,z1,z2,z3,z4,z5]) rfl ?_;rw [HE.out];refine ⟨q',rfl,HX4.out.turned HT9.out (fun k e=>⟨by omega,by have:=HPL.out;omega,by rw [e];exact HOLD1.out⟩),?_⟩;exact HN4.out.turns HT9.out (fun b z _ e=>z.elim (fun y=>by have:=y.2;have e9:b=w.heap.size+1:=e;omega) (fun y=>by have e9:b=w.heap.size+1:=e;omega)) (fun b z=>z.elim (fun y=>.inl y.1) (fun y=>.inr I))
end Go.Proofs.YtnojndgmgkgnpaaGreat
