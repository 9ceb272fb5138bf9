/- Chapter 10: words and contracts for the law. -/
import Derived.Test.YtnojndgmgkgnpaaGreatQ11
import Derived.Test.YtnojndgmgkgnpaaGreatQ00
import Derived.WalkMore
import Derived.Deep.DeepCutAuto
import Derived.Deep.CutRange
import Derived.Test.YtnojndgmgkgnpaaGreatQ01
import Derived.Test.YtnojndgmgkgnpaaGreatQ10
import Derived.Deep.QuietTactic
import Derived.BigQuiet
set_option maxRecDepth 100000
set_option maxHeartbeats 40000000
set_option linter.unusedVariables false
set_option linter.unusedSimpArgs false
namespace Go.Proofs.YtnojndgmgkgnpaaGreat.Lx
open Go.ChangeShapes Go.WideShapes Go.ChangeAt Go.RowKit
structure NBox (w wr:World) (v:Int) (i:Nat):Prop where
 c0:wr.cell? ⟨w.heap.size+1,0,none⟩=some (.int .i64 4)
 c1:wr.cell? ⟨w.heap.size+1,1,none⟩=some (.string ⟨#[]⟩)
 c2:wr.cell? ⟨w.heap.size+1,2,none⟩=some (.int .i64 v)
 c3:wr.cell? ⟨w.heap.size+1,3,none⟩=some (.int .i64 i)
 r0:wr.cell? ⟨w.heap.size,0,none⟩=some (.int .i64 0)
 r1:wr.cell? ⟨w.heap.size,1,none⟩=some (.string ⟨#[]⟩)
 r2:wr.cell? ⟨w.heap.size,2,none⟩=some (.int .i64 0)
 r3:wr.cell? ⟨w.heap.size,3,none⟩=some (.int .i64 0)
 f2:wr.frozen? ⟨w.heap.size+1,2,none⟩=false
 g0:wr.frozen? ⟨w.heap.size,0,none⟩=false
 g1:wr.frozen? ⟨w.heap.size,1,none⟩=false
 g2:wr.frozen? ⟨w.heap.size,2,none⟩=false
 g3:wr.frozen? ⟨w.heap.size,3,none⟩=false
 sz:w.heap.size+2≤wr.heap.size
 grown:w.grownBy wr none
theorem NBox.put {w wr:World} {v:Int} {i:Nat} (h:NBox w wr v i) (x:Int):NBox w (wr.setCell ⟨w.heap.size+1,2,none⟩ (.int .i64 x)) x i where
 c0:=(World.cell?_setCell_other _ _ _ _ Y12).trans h.c0
 c1:=(World.cell?_setCell_other _ _ _ _ Y12).trans h.c1
 c2:=World.cell?_setCell_same _ _ _ h.c2
 c3:=(World.cell?_setCell_other _ _ _ _ Y12).trans h.c3
 r0:=(World.cell?_setCell_other _ _ _ _ Y12).trans h.r0
 r1:=(World.cell?_setCell_other _ _ _ _ Y12).trans h.r1
 r2:=(World.cell?_setCell_other _ _ _ _ Y12).trans h.r2
 r3:=(World.cell?_setCell_other _ _ _ _ Y12).trans h.r3
 f2:=(World.frozen?_setCell _ _ _ _).trans h.f2
 g0:=(World.frozen?_setCell _ _ _ _).trans h.g0
 g1:=(World.frozen?_setCell _ _ _ _).trans h.g1
 g2:=(World.frozen?_setCell _ _ _ _).trans h.g2
 g3:=(World.frozen?_setCell _ _ _ _).trans h.g3
 sz:=by have:=h.sz;simpa using this
 grown:=aZ h.grown I _
theorem wR {c:UInt8} (h:digB c=true):dE c=false:=by
 cases hl:dE c
 ·rfl
 ·have h1:=uK c;have h2:=rK c;rw [hl] at h1;rw [h] at h2;have h1':=h1.symm;have h2':=h2.symm;simp only [Bool.or_eq_true,Bool.and_eq_true,decide_eq_true_eq] at h1' h2';omega
theorem kJ (c:UInt8):(dX c==2)=digB c:=by
 unfold dX
 cases hd:digB c
 ·cases dE c <;> cases fQ c <;> cases cF c <;> cases gD c <;> rfl
 ·rw [wR hd];rfl
theorem at_dig (s:ByteArray) (i:Nat):hd digB (s.data.toList.drop i)=(atV s i==2):=by
 unfold atV
 by_cases h:i<s.size
 ·rw [dif_pos h,mS h,kJ]
 ·rw [dif_neg h,nO I];rfl
theorem rR {c:UInt8} {r:Bs} (h:digB c=true):hJ (c :: r)=hJ r+1:=by simp [hJ,h]
theorem tC {l:Bs} (h:hd digB l=false):hJ l=0:=by
 cases l with
 | nil=>rfl
 | cons c r=>simp [hd] at h;simp [hJ,h]
theorem num_end {l:Bs} (h:hd digB l=false) (v:Int):numV l v=some v:=by
 cases l with
 | nil=>rfl
 | cons c r=>simp [hd] at h;simp [numV,h]
theorem tok_num0 {l:Bs} (h:hd digB l=true):tokV l=match numV l 0 with | none=>.err 2 | some n=>.ok ⟨4,[],n⟩ (hJ l):=by
 obtain ⟨c,r,rfl,hc⟩:=oK h;simp only [tokV];rw [if_neg (by simp [wR hc]),if_pos hc]
 all_goals (cases numV (c :: r) 0 <;> rfl)
def NRel (w:World) (s:ByteArray) (i g:Nat) (o:Value) (wr:World):Prop:=
 ∃(j:Nat) (v:Int),o= .int .i64 j∧g+j=s.size∧i≤j∧0≤v∧v≤1152921504606846976∧numV (s.data.toList.drop i) 0=numV (s.data.toList.drop j) v∧hJ (s.data.toList.drop i)=hJ (s.data.toList.drop j)+(j-i)∧NBox w wr v i
theorem Z56 {P:Prop} (h:P:=by
 repeat' (first | (with_reducible assumption) | (with_reducible refine bC ?_ _) | (with_reducible refine aZ ?_ ?_ _) | omega)):P:=h
theorem rtok_num (s:ByteArray) (i:Nat) (w:World) (hs:s.size≤100000) (hi:i<s.size) (hdg:hd digB (s.data.toList.drop i)=true):
  Calls Tryz.prog 47 #[.string s,.int .i64 i] w (RPost (tokV (s.data.toList.drop i)) w i i):=by
 have HT:=J (tok_num0 hdg);obtain ⟨a,ha⟩:∃a,a=(2:Int):=⟨_,rfl⟩;have HA:Hid (atV s i=a):=by show _=_;rw [ha];have:=at_dig s i;rw [hdg] at this;simpa using this.symm
 have a1:(a==1)=false:=Y17;have a2:(a==2)=true:=Y17;clear ha hdg;go_enter Tryz.func47,Tryz.ntmps47;go_wp2_with (first | (go_at_call 64;(with_reducible refine (dF _ _ _ hs).mono ?_);rw [HA.out];rintro e w' ⟨rfl,rfl⟩))
 go_loopg [1] (s.size-i) (fun g o wr=>NRel w s i g o wr)
 case atStart=>
  refine ⟨i,0,rfl,by omega,by omega,by omega,by omega,rfl,by simp,?_⟩;exact {c0:=by (first | assumption | (simp [go_sem];done) | (simp [go_sem, *];done)),c1:=by (first | assumption | (simp [go_sem];done) | (simp [go_sem, *];done)),c2:=by (first | assumption | (simp [go_sem];done) | (simp [go_sem, *];done)),c3:=by (first | assumption | (simp [go_sem];done) | (simp [go_sem, *];done)),r0:=by (first | assumption | (simp [go_sem];done) | (simp [go_sem, *];done)),r1:=by (first | assumption | (simp [go_sem];done) | (simp [go_sem, *];done)),r2:=by (first | assumption | (simp [go_sem];done) | (simp [go_sem, *];done)),r3:=by (first | assumption | (simp [go_sem];done) | (simp [go_sem, *];done)),f2:=by (first | assumption | (simp [go_sem];done) | (simp [go_sem, *];done)),g0:=by (first | assumption | (simp [go_sem];done) | (simp [go_sem, *];done)),g1:=by (first | assumption | (simp [go_sem];done) | (simp [go_sem, *];done)),g2:=by (first | assumption | (simp [go_sem];done) | (simp [go_sem, *];done)),g3:=by (first | assumption | (simp [go_sem];done) | (simp [go_sem, *];done)),sz:=by go_size,grown:=bF (bF (World.grownBy.refl _ _) _) _}
 case round=>
  obtain ⟨j,v,rfl,hg,hij,hv0,hv1,hnv,hdl,hB⟩:=hrel;have HG:=J hg;have HNV:=J hnv;have HDL:=J hdl;have HB:=J hB;clear hg hnv hdl hB;have B:=HB.out;obtain ⟨c0,c1,c2,c3,r0,r1,r2,r3,hfr,g0,g1,g2,g3,sz,grown⟩:=B;have HAD:=J (at_dig s j);have hjs:j≤s.size:=by have:=HG.out;omega
  obtain ⟨b,hb⟩:=aE (atV s j);have HAB:=J hb
  cases hd2:b==2
  ·have HE:Hid (hd digB (s.data.toList.drop j)=false):=by show _=_;rw [HAD.out,HAB.out];exact hd2
   clear hb;go_wp2_with (go_at_call 64;(with_reducible refine (dF _ _ _ hs).mono ?_);rw [HAB.out];rintro e w' ⟨rfl,rfl⟩);refine bodyPost_ret (v:=.tuple #[.agg #[.int .i64 4,.string ⟨#[]⟩,.int .i64 v,.int .i64 i],.int .i64 j,.int .i64 0]) Y13 rfl ?_;refine ⟨?_,.inr ⟨⟨4,[],v⟩,j-i,⟨#[]⟩,?_,rfl,?_⟩⟩
   ·exact Z56
   ·rw [HT.out,HNV.out,num_end HE.out,HDL.out,tC HE.out,Nat.zero_add]
   ·rw [show i+(j-i)=j by omega]
  ·have HE:Hid (hd digB (s.data.toList.drop j)=true):=by show _=_;rw [HAD.out,HAB.out];exact hd2
   have hjl:j<s.size:=pK (k:=2) (by rw [hb];simpa using hd2) Y3;have b1:(j:Int)<(s.size:Int):=I;have b0:(0:Int)≤(j:Int):=I;obtain ⟨c,hc⟩:=aE (s[j]);have hcons:=cX hjl;rw [bO hjl,hc] at hcons;have HC:=J hcons;have hdc:digB c=true:=by have:=HE.out;rw [hcons] at this;exact this
   have HDC:=J hdc;have hde:=rK c;rw [hdc] at hde;have hde':=hde.symm;simp only [Bool.and_eq_true,decide_eq_true_eq] at hde';obtain ⟨k1,k2⟩:=hde';clear hb hcons hde hdc
   by_cases hov:(1152921504606846976-((c.toNat:Int)-48)) / 10<v
   ·have d1:decide ((1152921504606846976-((c.toNat:Int)-48)) / 10<v)=true:=aD hov;have F:Hid (numV (s.data.toList.drop i) 0=none):=by
     show _=_
     rw [HNV.out,HC.out,qG HDC.out,if_pos (by unfold big;omega)]
    clear hov;go_wp2_with (go_at_call 64;(with_reducible refine (dF _ _ _ hs).mono ?_);rw [HAB.out];rintro e w' ⟨rfl,rfl⟩);refine bodyPost_ret (v:=.tuple #[.agg #[.int .i64 4,.string ⟨#[]⟩,.int .i64 v,.int .i64 i],.int .i64 0,.int .i64 2]) Y13 rfl ?_;refine ⟨?_,.inl ⟨_,?_,_,_,_,rfl⟩⟩
    ·exact Z56
    ·rw [HT.out,F.out]
   ·have d1:decide ((1152921504606846976-((c.toNat:Int)-48)) / 10<v)=false:=aK hov;have m1:10*v+((c.toNat:Int)-48)≤1152921504606846976:=I;have F:Hid (numV (s.data.toList.drop i) 0=numV (s.data.toList.drop (j+1)) (10*v+((c.toNat:Int)-48))):=by
     show _=_
     rw [HNV.out,HC.out,qG HDC.out,if_neg (by unfold big;omega),show v*10=10*v by omega]
    clear hov;go_wp2_with (go_at_call 64;(with_reducible refine (dF _ _ _ hs).mono ?_);rw [HAB.out];rintro e w' ⟨rfl,rfl⟩)
    go_roundg (gk-1)
    case measure=>have h2:=HG.out;omega
    case rel=>
     have h2:=HG.out;refine ⟨j+1,_,rfl,by omega,by omega,by omega,m1,F.out,?_,HB.out.put _⟩;rw [HDL.out,HC.out,rR HDC.out];omega
def jI (l:Bs) (n:Nat):Prop:=symV l=if cK (l.drop n) then (match kws (l.length+1) (l.drop (n+1)) with | none=>Took.err 12 | some k=>Took.ok (l.take (n+1+k)) (n+1+k)) else Took.ok (l.take n) n
theorem symAt0 {l:Bs} (h:hd cF l=false) (h':hd dE l=true) (h24:¬bA l > 24):jI l (bA l):=by
 unfold jI
 cases hc:cK (l.drop (bA l))
 ·rw [sym_name h h' h24 hc];rfl
 ·rw [sym_kw h h' h24 hc,oR l.length (l.length+1) _ Y12 Y4];rfl
theorem yD {l:Bs} {n:Nat} (h:jI l n) (hc:cK (l.drop n)=false):symV l= .ok (l.take n) n:=by
 unfold jI at h;rw [h,if_neg (by simp [hc])]
theorem pL {l:Bs} {n:Nat} (h:jI l n) (hc:cK (l.drop n)=true) (hk:¬(hd dE (l.drop (n+1))=true∧cK (l.drop (n+1+bA (l.drop (n+1))))=true)):symV l= .ok (l.take (n+1)) (n+1):=by
 unfold jI at h;rw [h,if_pos hc,kws_some (by rw [List.drop_drop];exact hk)]
theorem uY {l:Bs} {n:Nat} (h:jI l n) (hc:cK (l.drop n)=true) (h1:hd dE (l.drop (n+1))=true) (h2:cK (l.drop (n+1+bA (l.drop (n+1))))=true) (h24:bA (l.drop (n+1)) > 24):symV l= .err 12:=by
 unfold jI at h;rw [h,if_pos hc,kws_none h1 (by rw [List.drop_drop];exact h2) h24]
theorem uZ {l:Bs} {n:Nat} (h:jI l n) (hc:cK (l.drop n)=true) (h1:hd dE (l.drop (n+1))=true) (h2:cK (l.drop (n+1+bA (l.drop (n+1))))=true) (h24:¬bA (l.drop (n+1)) > 24):jI l (n+1+bA (l.drop (n+1))):=by
 unfold jI at h ⊢;rw [if_pos h2,h,if_pos hc,kws_more h1 (by rw [List.drop_drop];exact h2) h24 Y12,List.drop_drop,show n+1+(bA (l.drop (n+1))+1)=n+1+bA (l.drop (n+1))+1 by omega]
 cases kws (l.length+1) (l.drop (n+1+bA (l.drop (n+1))+1)) with
 | none=>rfl
 | some k=>simp only [Option.map];rw [show n+1+(k+(bA (l.drop (n+1))+1))=n+1+bA (l.drop (n+1))+1+k by omega]
theorem Z57 {P:Prop} (h:P:=by
 refine bodyPost_ret (v:=.tuple #[.agg #[.int .i64 6,.string t,.int .i64 0,.int .i64 i],.int .i64 ((q:Int)+1),.int .i64 0]) Y33 rfl ?_;refine ⟨?_,.inr ⟨_,_,t,F.out,by rw [←HT.out];exact HX.out,by rw [show i+1+(q+1-(i+1))=q+1 by omega] <;> rfl⟩⟩
 (repeat' (first | (with_reducible exact World.grownBy.refl _ _) | (with_reducible assumption) | (with_reducible refine bF ?_ _) | (with_reducible refine bC ?_ _) | (with_reducible refine aZ ?_ ?_ _) | omega))):P:=h
theorem yE (s:ByteArray) (i:Nat) (w:World) (hs:s.size≤100000) (hi:i+1≤s.size) (h40:hd (·==40) (s.data.toList.drop (i+1))=false) (hsg:hd cF (s.data.toList.drop (i+1))=false) (hlt:hd dE (s.data.toList.drop (i+1))=true) (h24:¬bA (s.data.toList.drop (i+1)) > 24):
  Calls Tryz.prog 68 #[.string s,.agg #[.int .i64 0,.string ⟨#[]⟩,.int .i64 0,.int .i64 i]] w (RPost (gN (s.data.toList.drop (i+1))) w i (i+1)):=by
 have H40:=J h40;have HS0:=J (symAt0 hsg hlt h24);rw [gJ (p:=(·==40)) rfl] at h40;rw [kH] at hsg;rw [iZ] at hlt;have hlt':i+1<s.size:=pK (by simpa using hlt) Y3;obtain ⟨a,ha⟩:=aE (atV s (i+1));have HA:=J ha;rw [ha] at hsg hlt;have nlt:(a != 1)=false:=by unfold bne;rw [hlt];rfl
 clear ha;have hbn:=mT s (i+1) hi;obtain ⟨n,hn⟩:=aE (bA (s.data.toList.drop (i+1)));have HN:=J hn;rw [hn] at h24 hbn;clear hn;obtain ⟨q0,hq0⟩:∃q0,q0=i+1+n:=⟨_,rfl⟩;have HQ:=J hq0;have t24:decide (24<(q0:Int)-((i:Int)+1))=false:=aK I;rw [←hq0] at hbn;clear hq0;have b3:(0:Int)≤(i:Int)+1:=I;rw [bO hlt'] at h40;have d1:decide (i+1<s.size)=true:=aD hlt';have d1':decide ((i:Int)+1<(s.size:Int))=true:=aD I;have b2:(i:Int)+1<(s.size:Int):=I;obtain ⟨x,hx⟩:=aE (s[i+1]);rw [hx] at h40;have e40:=fF x 40 I;rw [show (x==UInt8.ofNat 40)=false from h40] at e40;have n40:((x.toNat:Int)==40)=false:=e40;clear h40 e40;go_enter Tryz.func68,Tryz.ntmps68;go_wp2_with (first | (go_at_call 64;(with_reducible refine (lW _ _ _ hs).mono ?_);rw [HA.out];rintro e w' ⟨rfl,rfl⟩) | (go_at_call 65;(with_reducible refine (mK _ _ _ hs hi).mono ?_);rw [HN.out,←HQ.out];rintro e w' ⟨rfl,rfl⟩))
 go_loop [9] (fun x=>∃q:Nat,i+1≤q∧q≤s.size∧x= .int .i64 q∧jI (s.data.toList.drop (i+1)) (q-(i+1))) (fun x=>s.size-(intOf x).toNat)
 case atStart=>
  have hq:=HQ.out;refine ⟨q0,by omega,hbn,rfl,?_⟩;rw [hq,show i+1+n-(i+1)=n by omega,←HN.out];exact HS0.out
 case round=>
  obtain ⟨q,hqi,hqs,rfl,hAt⟩:=hrel;have HAT:=J hAt;clear hAt hbn t24 HQ HS0 HN;have hdl:∀k,(s.data.toList.drop (i+1)).drop (q-(i+1)+k)=s.data.toList.drop (q+k):=fun k=>by rw [List.drop_drop,show i+1+(q-(i+1)+k)=q+k by omega]
  have HDL:=J hdl;have HDL0:Hid ((s.data.toList.drop (i+1)).drop (q-(i+1))=s.data.toList.drop q):=hdl 0;clear hdl
  cases hc:cK (s.data.toList.drop q)
  ·have HC:=J hc;have F:Hid (gN (s.data.toList.drop (i+1))= .ok ⟨6,(s.data.toList.drop (i+1)).take (q-(i+1)),0⟩ (q-(i+1))):=by show _=_;rw [jA H40.out,yD HAT.out Y110]
   have b4:(q:Int)≤(s.size:Int):=I;have b5:(i:Int)+1≤(q:Int):=I;have b6:(0:Int)≤(q:Int):=I;have b7:((q:Int)).toNat=q:=I;have b8:((i:Int)+1).toNat=i+1:=I;have b9:i+1≤q:=I;have b10:q≤s.size:=I;have hx:=fW s (i+1) (q-(i+1));rw [show i+1+(q-(i+1))=q by omega] at hx;have HX:=J hx;obtain ⟨t,ht⟩:=aE (s.extract (i+1) (q));have HT:=J ht;clear hx hc;go_wp2_with (first | (go_at_call 66;(with_reducible refine (eV s q _ hs).mono ?_);rw [HC.out];rintro e w' ⟨rfl,rfl⟩));refine bodyPost_ret (v:=.tuple #[.agg #[.int .i64 6,.string t,.int .i64 0,.int .i64 i],.int .i64 ((q:Int)),.int .i64 0]) Y33 rfl ?_;refine ⟨?_,.inr ⟨_,_,t,F.out,by rw [←HT.out];exact HX.out,by rw [show i+1+(q-(i+1))=q by omega] <;> rfl⟩⟩
   (repeat' (first | (with_reducible exact World.grownBy.refl _ _) | (with_reducible assumption) | (with_reducible refine bF ?_ _) | (with_reducible refine bC ?_ _) | (with_reducible refine aZ ?_ ?_ _) | omega))
  ·have HC:=J hc;have hq1:q+1≤s.size:=by
    have:=iO hc;simp at this;have:s.data.size=s.size:=rfl;omega
   have g0:(0:Int)≤(q:Int)+1:=I;have HAL:=J (iZ s (q+1));obtain ⟨a1,ha1⟩:=aE (atV s (q+1));have HA1:=J ha1;clear ha1
   cases hl:a1==1
   ·have nl:(a1 != 1)=true:=by unfold bne;rw [hl];rfl
    have HL:Hid (hd dE (s.data.toList.drop (q+1))=false):=by show _=_;rw [HAL.out,HA1.out];exact hl
    have F:Hid (gN (s.data.toList.drop (i+1))= .ok ⟨6,(s.data.toList.drop (i+1)).take (q+1-(i+1)),0⟩ (q+1-(i+1))):=by show _=_;rw [jA H40.out,pL HAT.out Y110 (by rw [HDL.out,HL.out];simp),show q-(i+1)+1=q+1-(i+1) by omega]
    have b4:(q:Int)+1≤(s.size:Int):=I;have b5:(i:Int)+1≤(q:Int)+1:=I;have b6:(0:Int)≤(q:Int)+1:=I;have b7:((q:Int)+1).toNat=q+1:=I;have b8:((i:Int)+1).toNat=i+1:=I;have b9:i+1≤q+1:=I;have b10:q+1≤s.size:=I;have hx:=fW s (i+1) (q+1-(i+1));rw [show i+1+(q+1-(i+1))=q+1 by omega] at hx;have HX:=J hx;obtain ⟨t,ht⟩:=aE (s.extract (i+1) (q+1));have HT:=J ht;clear hx hc;go_wp2_with (first | (go_at_call 66;(with_reducible refine (eV s q _ hs).mono ?_);rw [HC.out];rintro e w' ⟨rfl,rfl⟩) | (go_at_call 64;(with_reducible refine (lW s q _ hs).mono ?_);rw [HA1.out];rintro e w' ⟨rfl,rfl⟩));exact Z57
   ·have nl:(a1 != 1)=false:=by unfold bne;rw [hl];rfl
    have HL:Hid (hd dE (s.data.toList.drop (q+1))=true):=by show _=_;rw [HAL.out,HA1.out];exact hl
    have hbm:=mT s (q+1) hq1;obtain ⟨m,hm⟩:=aE (bA (s.data.toList.drop (q+1)));have HM:=J hm;rw [hm] at hbm;clear hm;obtain ⟨nx,hnx⟩:∃nx,nx=q+1+m:=⟨_,rfl⟩;have HNX:=J hnx;rw [←hnx] at hbm
    cases hc2:cK (s.data.toList.drop (q+1+m))
    ·have HC2:Hid (cK (s.data.toList.drop nx)=false):=by show _=_;rw [hnx];exact hc2
     have HC3:=J hc2;clear hnx hc2;have F:Hid (gN (s.data.toList.drop (i+1))= .ok ⟨6,(s.data.toList.drop (i+1)).take (q+1-(i+1)),0⟩ (q+1-(i+1))):=by show _=_;rw [jA H40.out,pL HAT.out Y110 (by rw [Nat.add_assoc (q-(i+1)) 1,HDL.out,HDL.out,HM.out,←Nat.add_assoc,HC3.out];simp),show q-(i+1)+1=q+1-(i+1) by omega]
     have b4:(q:Int)+1≤(s.size:Int):=I;have b5:(i:Int)+1≤(q:Int)+1:=I;have b6:(0:Int)≤(q:Int)+1:=I;have b7:((q:Int)+1).toNat=q+1:=I;have b8:((i:Int)+1).toNat=i+1:=I;have b9:i+1≤q+1:=I;have b10:q+1≤s.size:=I;have hx:=fW s (i+1) (q+1-(i+1));rw [show i+1+(q+1-(i+1))=q+1 by omega] at hx;have HX:=J hx;obtain ⟨t,ht⟩:=aE (s.extract (i+1) (q+1));have HT:=J ht;clear hx hc;go_wp2_with (first | (go_at_call 66;(with_reducible refine (eV s q _ hs).mono ?_);rw [HC.out];rintro e w' ⟨rfl,rfl⟩) | (go_at_call 64;(with_reducible refine (lW s q _ hs).mono ?_);rw [HA1.out];rintro e w' ⟨rfl,rfl⟩) | (go_at_call 65;(with_reducible refine (mK s q _ hs hq1).mono ?_);rw [HM.out,←HNX.out];rintro e w' ⟨rfl,rfl⟩) | (go_at_call 66;(with_reducible refine (eV s nx _ hs).mono ?_);rw [HC2.out];rintro e w' ⟨rfl,rfl⟩));exact Z57
    ·have HC2:Hid (cK (s.data.toList.drop nx)=true):=by show _=_;rw [hnx];exact hc2
     have HC3:=J hc2
     by_cases h24':m > 24
     ·have F:Hid (gN (s.data.toList.drop (i+1))= .err 12):=by
       show _=_
       rw [jA H40.out,uY HAT.out Y110 (by rw [HDL.out];exact HL.out) Y88 (by rw [HDL.out,HM.out];exact h24')]
      have t24':decide (24<(nx:Int)-((q:Int)+1))=true:=aD I;clear hnx hc2 hc;go_wp2_with (first | (go_at_call 66;(with_reducible refine (eV s q _ hs).mono ?_);rw [HC.out];rintro e w' ⟨rfl,rfl⟩) | (go_at_call 64;(with_reducible refine (lW s q _ hs).mono ?_);rw [HA1.out];rintro e w' ⟨rfl,rfl⟩) | (go_at_call 65;(with_reducible refine (mK s q _ hs hq1).mono ?_);rw [HM.out,←HNX.out];rintro e w' ⟨rfl,rfl⟩) | (go_at_call 66;(with_reducible refine (eV s nx _ hs).mono ?_);rw [HC2.out];rintro e w' ⟨rfl,rfl⟩));refine bodyPost_ret (v:=.tuple #[.agg #[.int .i64 6,.string ⟨#[]⟩,.int .i64 0,.int .i64 i],.int .i64 0,.int .i64 12]) Y33 rfl ?_;refine ⟨?_,.inl ⟨_,F.out,_,_,_,rfl⟩⟩
      (repeat' (first | (with_reducible exact World.grownBy.refl _ _) | (with_reducible assumption) | (with_reducible refine bF ?_ _) | (with_reducible refine bC ?_ _) | (with_reducible refine aZ ?_ ?_ _) | omega))
     ·have F:Hid (jI (s.data.toList.drop (i+1)) (nx-(i+1))):=by
       show jI _ _
       have:=uZ HAT.out Y110 (by rw [HDL.out];exact HL.out) Y88 (by rw [HDL.out,HM.out];exact h24');rw [HDL.out,HM.out,show q-(i+1)+1+m=nx-(i+1) by omega] at this;exact this
      have t24':decide (24<(nx:Int)-((q:Int)+1))=false:=aK I;have hmeas:s.size-nx<s.size-q:=I;have hin:i+1≤nx:=I;clear hnx hc2 hc;go_wp2_with (first | (go_at_call 66;(with_reducible refine (eV s q _ hs).mono ?_);rw [HC.out];rintro e w' ⟨rfl,rfl⟩) | (go_at_call 64;(with_reducible refine (lW s q _ hs).mono ?_);rw [HA1.out];rintro e w' ⟨rfl,rfl⟩) | (go_at_call 65;(with_reducible refine (mK s q _ hs hq1).mono ?_);rw [HM.out,←HNX.out];rintro e w' ⟨rfl,rfl⟩) | (go_at_call 66;(with_reducible refine (eV s nx _ hs).mono ?_);rw [HC2.out];rintro e w' ⟨rfl,rfl⟩))
      go_round
      case rel=>exact ⟨nx,hin,hbm,rfl,F.out⟩
      case measure=>simp [intOf];omega
theorem rsym_any (s:ByteArray) (i:Nat) (w:World) (hs:s.size≤100000) (hi:i+1≤s.size):
  Calls Tryz.prog 68 #[.string s,.agg #[.int .i64 0,.string ⟨#[]⟩,.int .i64 0,.int .i64 i]] w (RPost (gN (s.data.toList.drop (i+1))) w i (i+1)):=by
 cases h40:hd (·==40) (s.data.toList.drop (i+1))
 ·cases hsg:hd cF (s.data.toList.drop (i+1))
  ·cases hlt:hd dE (s.data.toList.drop (i+1))
   ·exact xX s i w hs hi h40 hsg hlt
   ·by_cases h24:bA (s.data.toList.drop (i+1)) > 24
    ·exact xY s i w hs hi h40 hsg hlt h24
    ·exact yE s i w hs hi h40 hsg hlt h24
  ·cases hsg2:hd cF (s.data.toList.drop (i+1+1))
   ·exact uV s i w hs hi h40 hsg hsg2
   ·exact uU s i w hs hi h40 hsg hsg2
 ·exact rsym_arr s i w hs hi h40
theorem tD (r:Bs):tokV (35 :: r)=match gN r with | .err e=>.err e | .ok t n=>.ok t (n+1):=by
 show (if hd (·==40) r then Took.ok (Tok.mk 7 [] 0) 2 else match symV r with | .err e=>.err e | .ok t n=>.ok ⟨6,t,0⟩ (n+1))=_
 unfold gN
 cases hd (·==40) r
 ·rw [if_neg Y12,if_neg Y12]
  cases symV r <;> rfl
 ·rw [if_pos rfl,if_pos rfl]
theorem rsymR (s:ByteArray) (i:Nat) (w:World) (hs:s.size≤100000) (hi:i+1≤s.size) (h35:bQ s i=35):
  Calls Tryz.prog 68 #[.string s,.agg #[.int .i64 0,.string ⟨#[]⟩,.int .i64 0,.int .i64 i]] w (RPost (tokV (s.data.toList.drop i)) w i i):=by
 refine (rsym_any s i w hs hi).mono ?_;have hc:s.data.toList.drop i=35 :: s.data.toList.drop (i+1):=by rw [cX hi,h35]
 rintro e w' ⟨hg,⟨x,hn,k1,k2,k3,rfl⟩ | ⟨t,n,T,ht,hT,rfl⟩⟩
 ·exact ⟨hg,.inl ⟨x,by rw [hc,tD,hn],_,_,_,rfl⟩⟩
 ·refine ⟨hg,.inr ⟨t,n+1,T,by rw [hc,tD,ht],hT,?_⟩⟩;rw [show i+1+n=i+(n+1) by omega]
theorem yF (s:ByteArray) (i:Nat) (w:World) (hs:s.size≤100000) (hi:i<s.size) (h35:bQ s i=35):
  Calls Tryz.prog 47 #[.string s,.int .i64 i] w (RPost (tokV (s.data.toList.drop i)) w i i):=by
 have R:=fun w'=>rsymR s i w' hs hi h35
 have h0:atV s i=0:=by unfold atV;rw [dif_pos hi,←bO hi,h35];rfl
 obtain ⟨V,hV⟩:=aE (tokV (s.data.toList.drop i));rw [hV];rw [hV] at R;obtain ⟨a,ha⟩:∃a,a=(0:Int):=⟨_,rfl⟩;rw [←ha] at h0;have HA:=J h0;have a1:(a==1)=false:=Y17;have a2:(a==2)=false:=Y17;have a3:(a==3)=false:=Y17;have a4:(a==4)=false:=Y17;have hx:s[i]=35:=by rw [←bO hi,h35]
 have b0:(0:Int)≤(i:Int):=I;have b1:(i:Int)<(s.size:Int):=I;clear ha h0 hV h35;have v0:∀o:Obj,((w.alloc (.cells #[.int .i64 0,.string ⟨#[]⟩,.int .i64 0,.int .i64 0] 72)).alloc o).cell? ⟨w.heap.size,0,none⟩=some (.int .i64 0):=fun o=>by simp [go_sem]
 have v1:∀o:Obj,((w.alloc (.cells #[.int .i64 0,.string ⟨#[]⟩,.int .i64 0,.int .i64 0] 72)).alloc o).cell? ⟨w.heap.size,1,none⟩=some (.string ⟨#[]⟩):=fun o=>by simp [go_sem]
 have v2:∀o:Obj,((w.alloc (.cells #[.int .i64 0,.string ⟨#[]⟩,.int .i64 0,.int .i64 0] 72)).alloc o).cell? ⟨w.heap.size,2,none⟩=some (.int .i64 0):=fun o=>by simp [go_sem]
 have v3:∀o:Obj,((w.alloc (.cells #[.int .i64 0,.string ⟨#[]⟩,.int .i64 0,.int .i64 0] 72)).alloc o).cell? ⟨w.heap.size,3,none⟩=some (.int .i64 0):=fun o=>by simp [go_sem]
 have z0:∀(o:Obj) (k:Nat),((w.alloc (.cells #[.int .i64 0,.string ⟨#[]⟩,.int .i64 0,.int .i64 0] 72)).alloc o).frozen? ⟨w.heap.size,k,none⟩=false:=fun o k=>by simp [go_sem]
 go_enter Tryz.func47,Tryz.ntmps47;go_wp2_with (first | (go_at_call 64;(with_reducible refine (dF _ _ _ hs).mono ?_);rw [HA.out];rintro e w' ⟨rfl,rfl⟩))
 (with_reducible refine (R _).mono ?_)
 rintro e w2 hR;obtain ⟨k1,k2,k3,m,x,rfl⟩:=RPost.shape (V:=V) (i:=i) (base:=i) hR;have hbk:=hR.1.block w.heap.size (by simp only [World.alloc,Array.size_push];omega) Y12;have cf:=fun (o:Nat)=>World.cell?_of_block (a:=⟨w.heap.size,o,none⟩) hbk
 have ff:=fun (o:Nat)=>World.frozen?_of_block (a:=⟨w.heap.size,o,none⟩) hbk
 have c0:=(cf 0).trans (v0 _);have c1:=(cf 1).trans (v1 _);have c2:=(cf 2).trans (v2 _);have c3:=(cf 3).trans (v3 _);have f0:=(ff 0).trans (z0 _ 0);have f1:=(ff 1).trans (z0 _ 1);have f2:=(ff 2).trans (z0 _ 2);have f3:=(ff 3).trans (z0 _ 3);go_wp2;refine bodyPost_ret (v:=.tuple #[.agg #[.int .i64 k1,.string k2,.int .i64 k3,.int .i64 i],.int .i64 m,.int .i64 x]) Y13 rfl ?_;refine ⟨?_,hR.2⟩;have g0:w.grownBy w2 none:=((World.grownBy_alloc _ _ _).trans (World.grownBy_alloc _ _ _)).trans hR.1
 repeat' (first | (with_reducible assumption) | (with_reducible refine bC ?_ _) | (with_reducible refine aZ ?_ ?_ _) | omega)
theorem Z58 {P:Prop} (h:P:=by
 refine bodyPost_ret (v:=.tuple #[.agg #[.int .i64 0,.string ⟨#[]⟩,.int .i64 0,.int .i64 i],.int .i64 0,.int .i64 10]) Y13 rfl ?_;refine ⟨?_,.inl ⟨_,F.out,_,_,_,rfl⟩⟩
 (repeat' (first | (with_reducible exact World.grownBy.refl _ _) | (with_reducible assumption) | (with_reducible refine bF ?_ _) | (with_reducible refine bC ?_ _) | (with_reducible refine aZ ?_ ?_ _) | omega))):P:=h
theorem yG (s:ByteArray) (i:Nat) (w:World) (hs:s.size≤100000) (hi:i<s.size) (h1:dE (bQ s i)=false) (h2:digB (bQ s i)=false) (h3:cF (bQ s i)=false) (h4:gD (bQ s i)=false) (h39:(bQ s i==39)=false) (h35:(bQ s i==35)=false) (h58:(bQ s i==58)=false):
  Calls Tryz.prog 47 #[.string s,.int .i64 i] w (RPost (tokV (s.data.toList.drop i)) w i i):=by
 obtain ⟨x,hx⟩:=aE (s[i]);have hxb:bQ s i=x:=by rw [bO hi,hx]
 obtain ⟨a,ha⟩:=aE (atV s i);have HA:=J ha;have hk:atV s i=dX x:=Y155;have a1:(a==1)=false:=Y157;have a2:(a==2)=false:=Y158;have a3:(a==3)=false:=Y159;have a4:(a==4)=false:=Y160;have b0:(0:Int)≤(i:Int):=I;have b01:(i:Int)<(s.size:Int):=I;have b03:(0:Int)≤(i:Int)+1:=I;rw [hxb] at h1 h2 h3 h4 h39 h35 h58;have e39:=fF x 39 I;rw [show (x==UInt8.ofNat 39)=false from h39] at e39;have n39:((x.toNat:Int)==39)=false:=e39;have e35:=fF x 35 I;rw [show (x==UInt8.ofNat 35)=false from h35] at e35;have n35:((x.toNat:Int)==35)=false:=e35;have e58:=fF x 58 I;rw [show (x==UInt8.ofNat 58)=false from h58] at e58;have n58:((x.toNat:Int)==58)=false:=e58;have F:Hid (tokV (s.data.toList.drop i)= .err 10):=by
  show _=_
  rw [cX hi,hxb];simp only [tokV,h1,h2,h3,h4,h39,h35,h58,Bool.false_and,Bool.false_eq_true,if_false]
 clear ha hk hxb h1 h2 h3 h4 h39 h35 h58 e39 e35 e58;go_enter Tryz.func47,Tryz.ntmps47;go_wp2_with (first | (go_at_call 64;(with_reducible refine (dF _ _ _ hs).mono ?_);rw [HA.out];rintro e w' ⟨rfl,rfl⟩));exact Z58
theorem Z59 {P:Prop} (h:P:=by
 go_enter Tryz.func47,Tryz.ntmps47;go_wp2_with (first | (go_at_call 64;(with_reducible refine (dF _ _ _ hs).mono ?_);rw [HA.out];rintro e w' ⟨rfl,rfl⟩) | (go_at_call 64;(with_reducible refine (lW s i _ hs).mono ?_);rw [HA'.out];rintro e w' ⟨rfl,rfl⟩));exact Z58):P:=h
theorem Z60 {P:Prop} (h:P:=by
 show _=_
 rw [cX hi,hxb];simp only [tokV,h1,h2,h3,h4,h39,h35,h58,q61,hlt,Bool.and_false,Bool.false_eq_true,if_false]):P:=h
theorem tE (s:ByteArray) (i:Nat) (w:World) (hs:s.size≤100000) (hi:i<s.size) (h1:dE (bQ s i)=false) (h2:digB (bQ s i)=false) (h3:cF (bQ s i)=false) (h4:gD (bQ s i)=false) (h39:(bQ s i==39)=false) (h35:(bQ s i==35)=false) (h58:(bQ s i==58)=true) (hi1:i+1<s.size) (h61:(bQ s (i+1)==61)=false) (hlt:hd dE (s.data.toList.drop (i+1))=false):
  Calls Tryz.prog 47 #[.string s,.int .i64 i] w (RPost (tokV (s.data.toList.drop i)) w i i):=by
 obtain ⟨x,hx⟩:=aE (s[i]);have hxb:bQ s i=x:=by rw [bO hi,hx]
 obtain ⟨a,ha⟩:=aE (atV s i);have HA:=J ha;have hk:atV s i=dX x:=Y155;have a1:(a==1)=false:=Y157;have a2:(a==2)=false:=Y158;have a3:(a==3)=false:=Y159;have a4:(a==4)=false:=Y160;have b0:(0:Int)≤(i:Int):=I;have b01:(i:Int)<(s.size:Int):=I;have b03:(0:Int)≤(i:Int)+1:=I;rw [hxb] at h1 h2 h3 h4 h39 h35 h58;have e39:=fF x 39 I;rw [show (x==UInt8.ofNat 39)=false from h39] at e39;have n39:((x.toNat:Int)==39)=false:=e39;have e35:=fF x 35 I;rw [show (x==UInt8.ofNat 35)=false from h35] at e35;have n35:((x.toNat:Int)==35)=false:=e35;have e58:=fF x 58 I;rw [show (x==UInt8.ofNat 58)=true from h58] at e58;have n58:((x.toNat:Int)==58)=true:=e58;have q61:hd (·==61) (s.data.toList.drop (i+1))=false:=by rw [gJ (p:=(·==61)) rfl];exact h61
 have F:Hid (tokV (s.data.toList.drop i)= .err 10):=by
  exact Z60
 have d1:decide (i+1<s.size)=true:=aD hi1;have d1':decide ((i:Int)+1<(s.size:Int))=true:=aD I;have b02:(i:Int)+1<(s.size:Int):=I;obtain ⟨y,hy⟩:=aE (s[i+1]);have hyb:bQ s (i+1)=y:=by rw [bO hi1,hy]
 have e61:=fF y 61 I;rw [show (y==UInt8.ofNat 61)=false from by rw [←hyb];exact h61] at e61;have n61:((y.toNat:Int)==61)=false:=e61;clear h61 e61 hyb;obtain ⟨a',ha'⟩:∃a',atV s (i+1)=a':=⟨_,rfl⟩;have HA':=J ha';have a1':(a'==1)=false:=by rw [←ha',←iZ];exact hlt
 clear ha ha' hk hxb h1 h2 h3 h4 h39 h35 h58 e39 e35 e58 q61 hlt;exact Z59
theorem rS (s:ByteArray) (i:Nat) (w:World) (hs:s.size≤100000) (hi:i<s.size) (h1:dE (bQ s i)=false) (h2:digB (bQ s i)=false) (h3:cF (bQ s i)=false) (h4:gD (bQ s i)=false) (h39:(bQ s i==39)=false) (h35:(bQ s i==35)=false) (h58:(bQ s i==58)=true) (hi1:¬i+1<s.size):
  Calls Tryz.prog 47 #[.string s,.int .i64 i] w (RPost (tokV (s.data.toList.drop i)) w i i):=by
 obtain ⟨x,hx⟩:=aE (s[i]);have hxb:bQ s i=x:=by rw [bO hi,hx]
 obtain ⟨a,ha⟩:=aE (atV s i);have HA:=J ha;have hk:atV s i=dX x:=Y155;have a1:(a==1)=false:=Y157;have a2:(a==2)=false:=Y158;have a3:(a==3)=false:=Y159;have a4:(a==4)=false:=Y160;have b0:(0:Int)≤(i:Int):=I;have b01:(i:Int)<(s.size:Int):=I;have b03:(0:Int)≤(i:Int)+1:=I;rw [hxb] at h1 h2 h3 h4 h39 h35 h58;have e39:=fF x 39 I;rw [show (x==UInt8.ofNat 39)=false from h39] at e39;have n39:((x.toNat:Int)==39)=false:=e39;have e35:=fF x 35 I;rw [show (x==UInt8.ofNat 35)=false from h35] at e35;have n35:((x.toNat:Int)==35)=false:=e35;have e58:=fF x 58 I;rw [show (x==UInt8.ofNat 58)=true from h58] at e58;have n58:((x.toNat:Int)==58)=true:=e58;have hd0:s.data.toList.drop (i+1)=[]:=List.drop_eq_nil_of_le (by have:s.data.toList.length=s.size:=rfl;omega);have q61:hd (·==61) (s.data.toList.drop (i+1))=false:=by rw [hd0];rfl
 have hlt:hd dE (s.data.toList.drop (i+1))=false:=by rw [hd0];rfl
 have F:Hid (tokV (s.data.toList.drop i)= .err 10):=by
  exact Z60
 have d1:decide (i+1<s.size)=false:=aK hi1;have d1':decide ((i:Int)+1<(s.size:Int))=false:=aK I;obtain ⟨a',ha'⟩:∃a',atV s (i+1)=a':=⟨_,rfl⟩;have HA':=J ha';have a1':(a'==1)=false:=by rw [←ha',←iZ];exact hlt
 clear ha ha' hk hxb h1 h2 h3 h4 h39 h35 h58 e39 e35 e58 q61 hlt hd0 hi1;exact Z59
theorem pM (s:ByteArray) (i:Nat) (w:World) (hs:s.size≤100000) (hi:i<s.size):Calls Tryz.prog 47 #[.string s,.int .i64 i] w (RPost (tokV (s.data.toList.drop i)) w i i):=by
 have hb:=fun (p:UInt8→Bool)=>show hd p (s.data.toList.drop i)=p (bQ s i) by rw [cX hi];rfl
 cases h1:dE (bQ s i)
 ·cases h2:digB (bQ s i)
  ·cases h3:cF (bQ s i)
   ·cases h4:gD (bQ s i)
    ·cases h39:bQ s i==39
     ·cases h35:bQ s i==35
      ·cases h58:bQ s i==58
       ·exact yG s i w hs hi h1 h2 h3 h4 h39 h35 h58
       ·have g58:bQ s i=58:=by simpa using h58
        by_cases hi1:i+1<s.size
        ·cases h61:bQ s (i+1)==61
         ·cases hlt:hd dE (s.data.toList.drop (i+1))
          ·exact tE s i w hs hi h1 h2 h3 h4 h39 h35 h58 hi1 h61 hlt
          ·by_cases h24:bA (s.data.toList.drop (i+1)) > 24
           ·exact qC s i w hs hi g58 h61 hlt _ rfl h24
           ·exact rtok_par s i w hs hi g58 h61 hlt _ rfl h24
         ·exact tB s i w hs hi g58 (by simpa using h61)
        ·exact rS s i w hs hi h1 h2 h3 h4 h39 h35 h58 hi1
      ·exact yF s i w hs hi (by simpa using h35)
     ·exact yA s i w hs hi (by simpa using h39)
    ·exact xZ s i w hs hi h4
   ·cases h5:hd cF (s.data.toList.drop (i+1))
    ·exact uX s i w hs hi (by rw [hb];exact h3) h5
    ·exact uW s i w hs hi (by rw [hb];exact h3) h5
  ·exact rtok_num s i w hs hi (by rw [hb];exact h2)
 ·by_cases h24:bA (s.data.toList.drop i) > 24
  ·exact yB s i w hs hi (by rw [hb];exact h1) _ rfl h24
  ·cases hc:cK (s.data.toList.drop (i+bA (s.data.toList.drop i)))
   ·exact yC s i w hs hi (by rw [hb];exact h1) _ rfl h24 hc
   ·exact rtok_kw s i w hs hi (by rw [hb];exact h1) _ rfl h24 hc
theorem info33:(Tryz.prog.info? 72).map (fun i=>(i.zero,i.size,i.bytes))=some (some (.agg #[.int .i64 0,.string ⟨#[]⟩,.int .i64 0,.int .i64 0]),4,40):=Y40
theorem tok_errs {l:Bs} {x:Int} (h:tokV l= .err x):x≠0:=by
 match l with
 | []=>cases h;decide
 | c :: r=>
  simp only [tokV] at h
  by_cases q1:dE c=true
  ·rw [if_pos q1] at h;unfold wrdV at h
   split at h
   ·cases h;decide
   ·split at h <;> cases h
  ·rw [if_neg q1] at h
   by_cases q2:digB c=true
   ·rw [if_pos q2] at h
    cases hn:numV (c :: r) 0 with
    | none=>rw [hn] at h;cases h;decide
    | some v=>rw [hn] at h;cases h
   ·rw [if_neg q2] at h
    by_cases q3:(c==39)=true
    ·rw [if_pos q3] at h
     cases hn:txt r with
     | none=>rw [hn] at h;cases h;decide
     | some v=>rw [hn] at h;cases h
    ·rw [if_neg q3] at h
     by_cases q4:(c==35)=true
     ·rw [if_pos q4] at h
      split at h
      ·cases h
      ·cases hn:symV r with
       | err e=>rw [hn] at h;cases h;rcases sym_errs hn with rfl | rfl <;> decide
       | ok t n=>rw [hn] at h;cases h
     ·rw [if_neg q4] at h
      split at h
      ·cases h
      ·split at h
       ·split at h
        ·cases h;decide
        ·cases h
       ·split at h
        ·cases h
        ·split at h
         ·cases h
         ·cases h;decide
theorem vA (w:World) (t:TypeId) (l:List Value) (n:Nat) (hn:n=w.heap.size):∀(j:Nat) (u:Value),l[j]? =some u→(w.alloc (.cells l.toArray t)).cell? ((⟨n,0,none⟩:Addr).add j)=some u:=by
 subst hn;exact qD w t l
def TokensPost (w:World) (s:ByteArray) (e:Ending) (w':World):Prop:=
 Below w.heap.size w w'∧((2000<s.size∧e= .returned (.tuple #[.slice none 0 0,.int .i64 0,.int .i64 12]))∨
  (s.size≤2000∧((∃(a:Nat) (x:Int),toksV s.data.toList= .err a x∧x≠0∧e= .returned (.tuple #[.slice none 0 0,.int .i64 a,.int .i64 x]))∨
   ∃(A:List ATok) (v:Value),toksV s.data.toList= .ok A∧e= .returned (.tuple #[v,.int .i64 0,.int .i64 0])∧w'.ownsRow w.heap.size 72 4 v A.length (rowCells A))))
def TokRel (w:World) (s:ByteArray) (g:Nat) (o:Value) (wr:World):Prop:=
 ∃j acc,g+j=s.size∧acc.length≤j∧wr.ownsRow (w.heap.size+1) 33 4 o acc.length (rowCells acc)∧toksV s.data.toList=Toks.app acc (toksF (s.size+1) j (s.data.toList.drop j))∧Below w.heap.size w wr∧At wr w.heap.size s j
theorem kZ {w w':World} (h:w.grownBy w' none):Below w.heap.size w w':=⟨h.os,h.tape,h.output,h.size,fun k hk=>h.block k hk Y12⟩
theorem yH {s:ByteArray} {i:Nat} {w:World} {x:Int} (hs:s.size≤100000) (hi:i<s.size) (hv:tokV (s.data.toList.drop i)= .err x):
  Calls Tryz.prog 47 #[.string s,.int .i64 i] w fun e w'=>∃(k1:Int) (k2:ByteArray) (k3:Int),e= .returned (.tuple #[.agg #[.int .i64 k1,.string k2,.int .i64 k3,.int .i64 i],.int .i64 0,.int .i64 x])∧Below w.heap.size w w':=
 (pM s i w hs hi).mono fun e w' hp=>by
  rcases hp with ⟨hg,⟨y,h1,k1,k2,k3,rfl⟩ | ⟨t,n,T,h1,_⟩⟩
  ·rw [hv] at h1;cases h1;exact ⟨k1,k2,k3,rfl,kZ hg⟩
  ·rw [hv] at h1;cases h1
theorem rtok_okC {s:ByteArray} {i:Nat} {w:World} {t:Tok} {n:Nat} (hs:s.size≤100000) (hi:i<s.size) (hv:tokV (s.data.toList.drop i)= .ok t n):
  Calls Tryz.prog 47 #[.string s,.int .i64 i] w fun e w'=>e= .returned (.tuple #[.agg #[.int .i64 t.kind,.string (strB t.text),.int .i64 t.num,.int .i64 i],.int .i64 ((i+n:Nat):Int),.int .i64 0])∧Below w.heap.size w w':=
 (pM s i w hs hi).mono fun e w' hp=>by
  rcases hp with ⟨hg,⟨y,h1,_⟩ | ⟨t',n',T,h1,h2,h3⟩⟩
  ·rw [hv] at h1;cases h1
  ·rw [hv] at h1;cases h1;rw [←strB_of h2];exact ⟨h3,kZ hg⟩
theorem yI (f j n:Nat) (op:Bool) (l:Bs) (hn:skipV (l.drop j)=(n,op)):toksF (f+1) j (l.drop j)=if op then .err (j+n) 11 else if n=(l.drop j).length then .ok [⟨0,[],0,j+n⟩] else match tokV (l.drop (j+n)) with | .err e=>.err (j+n) e | .ok t m=>.cons ⟨t.kind,t.text,t.num,j+n⟩ (toksF f (j+n+m) (l.drop (j+n+m))):=by
 rw [toksF,hn]
 cases op
 ·simp only [Bool.false_eq_true,if_false]
  by_cases h:n=(l.drop j).length
  ·rw [if_pos h,if_pos h]
  ·rw [if_neg h,if_neg h];simp only [List.drop_drop]
   cases tokV (l.drop (j+n)) with
   | err e=>rfl
   | ok t m=>simp only [Nat.add_assoc]
 ·rfl
def RTokRel (w:World) (s:ByteArray) (g:Nat) (p o:Value) (wr:World):Prop:=
 ∃(j:Nat) (acc:List ATok),p= .int .i64 (j:Int)∧g+j=s.size∧acc.length≤j∧wr.ownsRow w.heap.size 72 4 o acc.length (rowCells acc)∧toksV s.data.toList=Toks.app acc (toksF (s.size+1) j (s.data.toList.drop j))∧Below w.heap.size w wr
theorem Z61 {P:Prop} (h:P:=by
 rw [mU];simp only [List.length_append,List.length_cons,List.length_nil,tokCells];exact hown2):P:=h
theorem rtokens_any (s:ByteArray) (w:World) (hs:s.size≤9223372036854775807):Calls Tryz.prog 23 #[.string s] w (TokensPost w s):=by
 obtain ⟨i0,hi,hz0,hz1,hz2⟩:=cQ info33
 by_cases hbig:2000<s.size
 ·have d1:=aD hbig;go_enter Tryz.func23,Tryz.ntmps23;go_wp2;go_ret3;exact ⟨Below.refl _ _,.inl ⟨hbig,rfl⟩⟩
 ·have d1:=aK hbig;have d1':decide ((2000:Int)<(s.size:Int))=false:=aK I;have hs2:s.size≤2000:=I;have hs3:s.size≤100000:=I;clear hbig;go_enter Tryz.func23,Tryz.ntmps23;go_wp2
  go_loopg [6,5] s.size (fun g p o wr=>RTokRel w s g p o wr)
  case atStart=>
   refine ⟨0,[],rfl,by omega,by simp,World.ownsRow_nil _ _ _ _,?_,?_⟩
   ·rw [Toks.app_nil];rfl
   ·(repeat' first | (with_reducible first | exact bl0 _ _ | assumption | apply bl1 | apply bl2 | apply bl3 | apply bl4) | go_size)
  case round=>
   obtain ⟨j,acc,rfl,hg,hal,hown,htk,hB⟩:=hrel;have HG:=J hg;have HTK:=J htk;have hj:j≤s.size:=I;have hlw:=hB.size;clear hg htk;have hskl:=jE _ (s.data.toList.drop j) aR;have hszl:s.data.toList.length=s.size:=rfl;simp only [List.length_drop] at hskl;obtain ⟨⟨n,op⟩,hn⟩:=aE (skipV (s.data.toList.drop j));rw [hn,hszl] at hskl;simp only at hskl;have HN:=J hn;have hstep:toksF (s.size+1) j (s.data.toList.drop j)=if op then .err (j+n) 11 else if n=(s.data.toList.drop j).length then .ok [⟨0,[],0,j+n⟩] else match tokV (s.data.toList.drop (j+n)) with | .err e=>.err (j+n) e | .ok t m=>.cons ⟨t.kind,t.text,t.num,j+n⟩ (toksF s.size (j+n+m) (s.data.toList.drop (j+n+m))):=by
    exact yI s.size j n op _ hn
   have HST:=J hstep;have hbn:j+n≤s.size:=I;obtain ⟨q,hq⟩:∃q,q=j+n:=⟨_,rfl⟩;have HQ:=J hq;rw [←hq] at hbn;have hlq:(s.data.toList.drop j).length=s.size-j:=Y12;clear hn hstep hszl
   cases op
   ·clear hskl
    by_cases hend:q=s.size
    ·have e1:((q:Int)==(s.size:Int))=true:=by rw [hend];simp
     have e1':(q==s.size)=true:=by rw [hend];simp
     have htoks:Hid (toksV s.data.toList= .ok (acc++[⟨0,[],0,q⟩])):=by
      show _=_
      rw [HTK.out,HST.out,if_neg Y12,if_pos (by rw [hlq];omega),←hq,Toks.app]
     have HE:=J hend;clear hend hq hlq;go_wp2_with (first | (go_at_call 46;(with_reducible refine (lP s j _ hs3 hj).mono ?_);rw [HN.out];dsimp only;rw [←HQ.out];rintro e w' ⟨rfl,hw'⟩;replace hw':=hw'.symm;subst hw') | (at_builtin;refine wpList_append_own _ rfl _ _ 62 rfl w.heap.size 72 i0 (.agg #[.int .i64 0,.string ⟨#[]⟩,.int .i64 0,.int .i64 0]) 4 40 Tryz.underlying62 hi hz0 hz1 hz2 rfl Y3 _ _ _ rfl (hown.alloc _) ⟨wr.heap.size,0,none⟩ 1 1 [.int .i64 0,.string ⟨#[]⟩,.int .i64 0,.int .i64 q] rfl rfl (qD _ _ _) Y89 Y24 I Y50 ?_;intro v2 w2 hown2 hg2 _));go_ret3;have hb2:=kO (hown.alloc (.cells #[.int .i64 0,.string ⟨#[]⟩,.int .i64 0,.int .i64 q] 72)) hg2 Y50;refine ⟨?_,.inr ⟨hs2,.inr ⟨_,v2,htoks.out,rfl,?_⟩⟩⟩
     ·have h3:Below w.heap.size w (wr.alloc (.cells #[.int .i64 0,.string ⟨#[]⟩,.int .i64 0,.int .i64 q] 72)):=bel;exact h3.trans (hb2.mono I)
     ·exact Z61
    ·have e1:((q:Int)==(s.size:Int))=false:=Y4;have e1':(q==s.size)=false:=Y4;have hql:q<s.size:=I;have htoks:Hid (toksF (s.size+1) j (s.data.toList.drop j)=match tokV (s.data.toList.drop q) with | .err e=>.err q e | .ok t m=>.cons ⟨t.kind,t.text,t.num,q⟩ (toksF s.size (q+m) (s.data.toList.drop (q+m)))):=by
      show _=_
      rw [HST.out,if_neg Y12,if_neg (by rw [hlq];omega),←hq]
     clear hend hlq;have hqj:j≤q:=I;clear hq
     cases hv:tokV (s.data.toList.drop q) with
     | err x=>
      have hx0:=tok_errs hv;have n1:(x==0)=false:=by simpa using hx0
      have n2:(x != 0)=true:=by simpa using hx0
      have HV:=J hv;clear hv;go_wp2_with (first | (go_at_call 46;(with_reducible refine (lP s j _ hs3 hj).mono ?_);rw [HN.out];dsimp only;rw [←HQ.out];rintro e w' ⟨rfl,hw'⟩;replace hw':=hw'.symm;subst hw') | (go_at_call 47;(with_reducible refine (yH hs3 hql HV.out).mono ?_);rintro e w2 ⟨k1,k2,k3,rfl,hb2⟩));go_ret3;have hS:=hb2.size;have hB2:=hB.trans (hb2.mono hlw);refine ⟨?_,.inr ⟨hs2,.inl ⟨q,x,?_,hx0,rfl⟩⟩⟩
      ·(repeat' first | (with_reducible first | exact bl0 _ _ | assumption | apply bl1 | apply bl2 | apply bl3 | apply bl4) | go_size)
      ·rw [HTK.out,htoks.out,HV.out];rfl
     | ok u n'=>
      have hpos:=tok_pos hv;simp only [List.length_drop] at hpos;have hszl:s.data.toList.length=s.size:=rfl;have hn1:q+n'≤s.size:=I;have hn2:1≤n':=hpos.1;have HV:=J hv;clear hv hpos hszl;go_wp2_with (first | (go_at_call 46;(with_reducible refine (lP s j _ hs3 hj).mono ?_);rw [HN.out];dsimp only;rw [←HQ.out];rintro e w' ⟨rfl,hw'⟩;replace hw':=hw'.symm;subst hw') | (go_at_call 47;(with_reducible refine (rtok_okC hs3 hql HV.out).mono ?_);rintro e w4 ⟨rfl,hb2⟩;have hown1:=lX hown hb2;have hB2:=hB.trans (hb2.mono hlw);have hlw2:=hB2.size;clear hb2) | (at_builtin;refine wpList_append_own _ rfl _ _ 62 rfl w.heap.size 72 i0 (.agg #[.int .i64 0,.string ⟨#[]⟩,.int .i64 0,.int .i64 0]) 4 40 Tryz.underlying62 hi hz0 hz1 hz2 rfl Y3 _ _ _ rfl ((hown1.alloc _).alloc _) ⟨w4.heap.size+1,0,none⟩ 1 1 [.int .i64 u.kind,.string (strB u.text),.int .i64 u.num,.int .i64 q] rfl rfl (vA _ _ _ _ (by simp only [World.size_alloc])) Y89 Y24 I Y50 ?_;intro v2 w2 hown2 hg2 _))
      go_roundg (gk-(n+n'))
      case measure=>have h1:=HG.out;have h2:=HQ.out;omega
      case rel=>
       have h1:=HG.out;have h2:=HQ.out;have hb3:=kO ((hown1.alloc (.cells #[.int .i64 u.kind,.string (strB u.text),.int .i64 u.num,.int .i64 q] 72)).alloc (.cells #[.int .i64 u.kind,.string (strB u.text),.int .i64 u.num,.int .i64 q] 72)) hg2 Y50;refine ⟨q+n',acc++[⟨u.kind,u.text,u.num,q⟩],rfl,by omega,by simp;omega,?_,?_,?_⟩
       ·exact Z61
       ·rw [HTK.out,htoks.out,HV.out];simp only;rw [Toks.app_cons,qF s.size (s.size+1) _ _ Y4 Y4]
       ·have h3:Below w.heap.size w ((w4.alloc (.cells #[.int .i64 u.kind,.string (strB u.text),.int .i64 u.num,.int .i64 q] 72)).alloc (.cells #[.int .i64 u.kind,.string (strB u.text),.int .i64 u.num,.int .i64 q] 72)):=bel;exact h3.trans (hb3.mono I)
   ·have htoks:Hid (toksV s.data.toList= .err q 11):=by
     show _=_
     rw [HTK.out,HST.out,if_pos rfl,←hq];rfl
    clear hskl hq hlq;go_wp2_with (go_at_call 46;(with_reducible refine (lP s j _ hs3 hj).mono ?_);rw [HN.out];dsimp only;rw [←HQ.out];rintro e w' ⟨rfl,hw'⟩;replace hw':=hw'.symm;subst hw');go_ret3;exact ⟨hB,.inr ⟨hs2,.inl ⟨q,11,htoks.out,by decide,rfl⟩⟩⟩
end Go.Proofs.YtnojndgmgkgnpaaGreat.Lx
namespace Go.Proofs.YtnojndgmgkgnpaaGreat
open Go.ChangeShapes Go.WideShapes Go.ChangeAt Go.RowKit Go.Deep Go.Joins Go.Maps
structure PW (w:World) (pb:Nat) (v:Value) (T:Tks) (s:PSt):Prop where
 box:w.heap[pb]? =some (.cells #[v,.int .i64 (s.i:Int),.int .i64 s.deep,.int .i64 s.e,.int .i64 s.at_] 67 (0,0))
 row:w.ownsRow 0 72 4 v T.length (Lx.rowCells T)
 le:s.i≤T.length+1
structure TokOk (T:Tks):Prop where
 pos:0<T.length
 len:T.length≤100000
 last:(T.getD (T.length-1) fG).kind=0
 num:∀t,t∈T→InI t.num
 text:∀t,t∈T→(tx t).size≤100000
abbrev atP (pb:Nat):Nat→Prop:=fun k=>k=pb
abbrev PT (pb:Nat) (v:Value) (T:Tks) (w w':World) (s':PSt):Prop:=PW w' pb v T s'∧Turns (atP pb) w w'
theorem PW.ne {w:World} {pb:Nat} {v:Value} {T:Tks} {s:PSt} (h:PW w pb v T s):∀k,v.ownBlock=some k→k≠pb:=fun k hk e=>by
 obtain ⟨cur,hc⟩:=bN h.row hk;rw [e,h.box] at hc;simp at hc
theorem PW.below {w w':World} {pb:Nat} {v:Value} {T:Tks} {s:PSt} (h:PW w pb v T s) (hb:Below w.heap.size w w'):PW w' pb v T s:=
 ⟨(hb.block _ (aA h.box)).trans h.box,aJ h.row hb.size (fun k hk=>hb.block k (World.ownsRow.lt h.row k hk).2),h.le⟩
theorem PT.below {w w' w'':World} {pb:Nat} {v:Value} {T:Tks} {s:PSt} (h:PT pb v T w w' s) (hb:Below w'.heap.size w' w''):PT pb v T w w'' s:=⟨h.1.below hb,h.2.trans (Turns.of_below hb)⟩
theorem PT.go {w w' w'':World} {pb:Nat} {v:Value} {T:Tks} {s s':PSt} (h:PT pb v T w w' s) (g:PT pb v T w' w'' s'):PT pb v T w w'' s':=⟨g.1,h.2.trans g.2⟩
theorem PW.pt {w:World} {pb:Nat} {v:Value} {T:Tks} {s:PSt} (h:PW w pb v T s):PT pb v T w w s:=⟨h,Turns.refl _ _⟩
theorem PW.cell {w:World} {pb:Nat} {v:Value} {T:Tks} {s:PSt} (h:PW w pb v T s) {k:Nat} {u:Value} (hu:#[v,.int .i64 (s.i:Int),.int .i64 s.deep,.int .i64 s.e,.int .i64 s.at_][k]? =some u):w.cell? ⟨pb,k,none⟩=some u:=aC h.box hu
theorem PW.free {w:World} {pb:Nat} {v:Value} {T:Tks} {s:PSt} (h:PW w pb v T s) (k:Nat):w.frozen? ⟨pb,k,none⟩=false:=by simp [World.frozen?,h.box]
theorem rT (t:Lx.ATok):(Lx.tokCells t).length=4:=rfl
structure Tok4 (w:World) (g o:Nat) (t:Lx.ATok):Prop where
 c0:w.cell? ⟨g,o,none⟩=some (.int .i64 t.kind)
 c1:w.cell? ⟨g,o+1,none⟩=some (.string (tx t))
 c2:w.cell? ⟨g,o+2,none⟩=some (.int .i64 t.num)
 c3:w.cell? ⟨g,o+3,none⟩=some (.int .i64 (t.at_:Int))
theorem PW.tok {w:World} {pb:Nat} {v:Value} {T:Tks} {s:PSt} (h:PW w pb v T s) {j:Nat} (hj:j<T.length):∃g c,v= .slice (some ⟨g,0,none⟩) T.length c∧g<w.heap.size∧Tok4 w g (j*4) (T.getD j fG):=by
 have ho:=h.row
 rcases ho.2 with ⟨_,h0⟩ | ⟨g,cap,cur,hv,hg,hh,h1,h2,_⟩
 ·omega
 ·rw [hv] at ho;have e:T.getD j fG=T[j]:=by rw [List.getD_eq_getElem?_getD,List.getElem?_eq_getElem hj];rfl
  have hc:∀jj,jj<4→w.cell? ⟨g,j*4+jj,none⟩=(Lx.tokCells T[j])[jj]? :=fun jj hjj=>by
   rw [World.ownsRow.cellAt ho (j*4+jj) I];exact eY rT T j jj hj hjj
  rw [e];exact ⟨g,cap,hv,aA hh,hc 0 I,hc 1 I,hc 2 I,hc 3 I⟩
theorem mL {X:Nat→Prop} {w w':World} (h:Turns X w w') (b:Nat) (hb:X b) {x0 x1 x2 x3:Value}:Turns X w ((((w'.setCell ⟨b,0,none⟩ x0).setCell ⟨b,1,none⟩ x1).setCell ⟨b,2,none⟩ x2).setCell ⟨b,3,none⟩ x3):=
 (((h.setCell ⟨b,0,none⟩ x0 (.inl hb)).setCell ⟨b,1,none⟩ x1 (.inl hb)).setCell ⟨b,2,none⟩ x2 (.inl hb)).setCell ⟨b,3,none⟩ x3 (.inl hb)
def tkV (t:Lx.ATok):Value:=.agg #[.int .i64 t.kind,.string (tx t),.int .i64 t.num,.int .i64 (t.at_:Int)]
theorem Z62 {P:Prop} (h:P:=by
 have g0:(0:Int)≤(j:Int):=I;have g1:(j:Int)<(n:Int):=I;have HB2:Hid (Below w.heap.size w (w.alloc (.cells #[.int .i64 0,.string eB,.int .i64 0,.int .i64 0] 72))):=J (ba);have HMZ:Hid ((w.alloc (.cells #[.int .i64 0,.string eB,.int .i64 0,.int .i64 0] 72)).heap[w.heap.size]? =some (.cells #[.int .i64 0,.string eB,.int .i64 0,.int .i64 0] 72 (0,0))):=J (heap_alloc_new w _);have k1a:(w.alloc (.cells #[.int .i64 0,.string eB,.int .i64 0,.int .i64 0] 72)).cell? ⟨pb,1,none⟩=_:=Lib.cell?_alloc_marked _ k1;have k0a:(w.alloc (.cells #[.int .i64 0,.string eB,.int .i64 0,.int .i64 0] 72)).cell? ⟨pb,0,none⟩=_:=Lib.cell?_alloc_marked _ k0;have t0a:(w.alloc (.cells #[.int .i64 0,.string eB,.int .i64 0,.int .i64 0] 72)).cell? ⟨g,j*4,none⟩=_:=Lib.cell?_alloc_marked _ t0;have t1a:(w.alloc (.cells #[.int .i64 0,.string eB,.int .i64 0,.int .i64 0] 72)).cell? ⟨g,j*4+1,none⟩=_:=Lib.cell?_alloc_marked _ t1;have t2a:(w.alloc (.cells #[.int .i64 0,.string eB,.int .i64 0,.int .i64 0] 72)).cell? ⟨g,j*4+2,none⟩=_:=Lib.cell?_alloc_marked _ t2;have t3a:(w.alloc (.cells #[.int .i64 0,.string eB,.int .i64 0,.int .i64 0] 72)).cell? ⟨g,j*4+3,none⟩=_:=Lib.cell?_alloc_marked _ t3
 skip
 clear h hok ha ht hn hii hjn hi hlen hpos hlt k0 k1 t0 t1 t2 t3;clear hj;go_enter Tryz.func53,Tryz.ntmps53
 go_upto_region 1 with fail
 have hb2:=HB2.out;have hmz:=HMZ.out;have k0b:=k0a;have k1b:=k1a;have t0b:=t0a;have t1b:=t1a;have t2b:=t2a;have t3b:=t3a;clear HB2 HMZ k0a k1a t0a t1a t2a t3a;have hgl2:=aN hgl hb2.size;have hpl2:=aN hpl hb2.size;obtain ⟨w2,hw2x⟩:=aE (w.alloc (.cells #[.int .i64 0,.string eB,.int .i64 0,.int .i64 0] 72));rw [hw2x] at hb2 hmz k0b k1b t0b t1b t2b t3b hgl2 hpl2 ⊢;have HB2:=J hb2;have HMZ:=J hmz;obtain ⟨m0,m1,m2,m3⟩:=cc4 hmz;have r0:w2.frozen? ⟨w.heap.size,0,none⟩=false:=Y59;have r1:w2.frozen? ⟨w.heap.size,1,none⟩=false:=Y59;have r2:w2.frozen? ⟨w.heap.size,2,none⟩=false:=Y59;have r3:w2.frozen? ⟨w.heap.size,3,none⟩=false:=Y59;clear hb2 hmz hw2x
 go_quiet (fail)
 go_upto_region 2 with fail
 go_region
 all_goals
  go_wp2_with fail;obtain ⟨W9,hW9⟩:∃W9,W9=(((((w2.drewN (nq+1)).setCell ⟨w.heap.size,0,none⟩ (.int .i64 t.kind)).setCell ⟨w.heap.size,1,none⟩ (.string (tx t))).setCell ⟨w.heap.size,2,none⟩ (.int .i64 t.num)).setCell ⟨w.heap.size,3,none⟩ (.int .i64 (t.at_:Int))):=⟨_,rfl⟩;have h9:W9.heap[w.heap.size]? =some (.cells #[.int .i64 t.kind,.string (tx t),.int .i64 t.num,.int .i64 (t.at_:Int)] 72 (0,0)):=by rw [hW9];exact fT (by exact HMZ.out)
  obtain ⟨z0,z1,z2,z3⟩:=cc4 h9;have HB9:Hid (Below w.heap.size w W9):=J (by rw [hW9];exact eN (bM HB2.out _) aR);rw [←hW9];clear hW9 h9;refine bodyPost_ret (v:=.agg #[.int .i64 t.kind,.string (tx t),.int .i64 t.num,.int .i64 (t.at_:Int)]) (by simp [results,Tryz.results53,go_sem,z0,z1,z2,z3]) rfl ?_;exact ⟨rfl,by first | exact HB9.out | exact HB9.out.drew⟩):P:=h
theorem Z63 {P:Prop} (h:P:=by
 go_enter Tryz.func53,Tryz.ntmps53
 go_upto_region 1 with fail
 have hb2:=HB2.out;have hmz:=HMZ.out;have k0b:=k0a;have k1b:=k1a;have t0b:=t0a;have t1b:=t1a;have t2b:=t2a;have t3b:=t3a;clear HB2 HMZ k0a k1a t0a t1a t2a t3a;have hgl2:=aN hgl hb2.size;have hpl2:=aN hpl hb2.size;obtain ⟨w2,hw2x⟩:=aE (w.alloc (.cells #[.int .i64 0,.string eB,.int .i64 0,.int .i64 0] 72));rw [hw2x] at hb2 hmz k0b k1b t0b t1b t2b t3b hgl2 hpl2 ⊢;have HB2:=J hb2;have HMZ:=J hmz;obtain ⟨m0,m1,m2,m3⟩:=cc4 hmz;have r0:w2.frozen? ⟨w.heap.size,0,none⟩=false:=Y59;have r1:w2.frozen? ⟨w.heap.size,1,none⟩=false:=Y59;have r2:w2.frozen? ⟨w.heap.size,2,none⟩=false:=Y59;have r3:w2.frozen? ⟨w.heap.size,3,none⟩=false:=Y59;clear hb2 hmz hw2x
 go_quiet (fail)
 go_upto_region 3 with fail
 go_region
 all_goals
  go_wp2_with fail;obtain ⟨W9,hW9⟩:∃W9,W9=(((((w2.drewN (nq+1)).setCell ⟨w.heap.size,0,none⟩ (.int .i64 t.kind)).setCell ⟨w.heap.size,1,none⟩ (.string (tx t))).setCell ⟨w.heap.size,2,none⟩ (.int .i64 t.num)).setCell ⟨w.heap.size,3,none⟩ (.int .i64 (t.at_:Int))):=⟨_,rfl⟩;have h9:W9.heap[w.heap.size]? =some (.cells #[.int .i64 t.kind,.string (tx t),.int .i64 t.num,.int .i64 (t.at_:Int)] 72 (0,0)):=by rw [hW9];exact fT (by exact HMZ.out)
  obtain ⟨z0,z1,z2,z3⟩:=cc4 h9;have HB9:Hid (Below w.heap.size w W9):=J (by rw [hW9];exact eN (bM HB2.out _) aR);rw [←hW9];clear hW9 h9;refine bodyPost_ret (v:=.agg #[.int .i64 t.kind,.string (tx t),.int .i64 t.num,.int .i64 (t.at_:Int)]) (by simp [results,Tryz.results53,go_sem,z0,z1,z2,z3]) rfl ?_;exact ⟨rfl,by first | exact HB9.out | exact HB9.out.drew⟩):P:=h
theorem vB {w:World} {pb:Nat} {v:Value} {T:Tks} {s:PSt} (h:PW w pb v T s) (hok:TokOk T):Calls Tryz.prog 53 #[.pointer (some ⟨pb,0,none⟩),.int .i64 0] w fun e w'=>e= .returned (tkV (ahd T s 0))∧Below w.heap.size w w':=by
 have hi:=h.le
 by_cases hlt:T.length≤s.i+0
 ·have ha:ahd T s 0=T.getD (T.length-1) fG:=by unfold ahd;rw [if_pos hlt]
  rw [ha];obtain ⟨t,ht⟩:=aE (T.getD (T.length-1) fG);obtain ⟨g,c,hv,hgl,t0,t1,t2,t3⟩:=h.tok (j:=T.length-1) (by have:=hok.pos;omega);rw [ht] at t0 t1 t2 t3 ⊢;have hpl:=aA h.box;obtain ⟨n,hn⟩:=aE T.length;obtain ⟨i,hii⟩:=aE s.i;have hlen:=hok.len;have hpos:=hok.pos;have k1:w.cell? ⟨pb,1,none⟩=some (.int .i64 (s.i:Int)):=h.cell rfl;have k0:w.cell? ⟨pb,0,none⟩=some v:=h.cell rfl;rw [hn] at hv hi hlen hpos hlt;rw [hii] at k1 hi hlt;rw [hn] at t0 t1 t2 t3;subst hv;obtain ⟨j,hj⟩:=aE (n-1)
  skip
  rw [hj] at t0 t1 t2 t3;have hw1:wrap64 ((i:Int)+0)=(i:Int)+0:=Y67;have hw0:IntKind.i64.wrap (i:Int)=(i:Int):=Y27;have hw2:wrap64 ((n:Int)-1)=(j:Int):=Y67;have hw3:IntKind.i64.wrap ((n:Int)-1)=(j:Int):=Y27;have hjn:((n:Int)-1)=(j:Int):=I;have d1:decide ((n:Int)≤(i:Int))=true:=aD I;have d2:decide (n≤i)=true:=aD I;exact Z62
 ·have ha:ahd T s 0=T.getD (s.i+0) fG:=by unfold ahd;rw [if_neg hlt]
  rw [ha];obtain ⟨t,ht⟩:=aE (T.getD (s.i+0) fG);obtain ⟨g,c,hv,hgl,t0,t1,t2,t3⟩:=h.tok (j:=s.i+0) I;rw [ht] at t0 t1 t2 t3 ⊢;have hpl:=aA h.box;obtain ⟨n,hn⟩:=aE T.length;obtain ⟨i,hii⟩:=aE s.i;have hlen:=hok.len;have hpos:=hok.pos;have k1:w.cell? ⟨pb,1,none⟩=some (.int .i64 (s.i:Int)):=h.cell rfl;have k0:w.cell? ⟨pb,0,none⟩=some v:=h.cell rfl;rw [hn] at hv hi hlen hpos hlt;rw [hii] at k1 hi hlt;rw [hii] at t0 t1 t2 t3;subst hv;obtain ⟨j,hj⟩:=aE i;rw [Nat.add_zero] at t0 t1 t2 t3 hlt;rw [hj] at t0 t1 t2 t3;have hw1:wrap64 ((i:Int)+0)=(j:Int):=Y67;have hw0:IntKind.i64.wrap (i:Int)=(i:Int):=Y27;have hw2:wrap64 ((n:Int)-1)=(n:Int)-1:=Y67;have hw3:IntKind.i64.wrap ((n:Int)-1)=(n:Int)-1:=Y27;have hjn:(i:Int)=(j:Int):=I;have d1:decide ((n:Int)≤(i:Int))=false:=aK I;have d2:decide (n≤i)=false:=aK I;have g0:(0:Int)≤(j:Int):=I;have g1:(j:Int)<(n:Int):=I;have HB2:Hid (Below w.heap.size w (w.alloc (.cells #[.int .i64 0,.string eB,.int .i64 0,.int .i64 0] 72))):=J (ba);have HMZ:Hid ((w.alloc (.cells #[.int .i64 0,.string eB,.int .i64 0,.int .i64 0] 72)).heap[w.heap.size]? =some (.cells #[.int .i64 0,.string eB,.int .i64 0,.int .i64 0] 72 (0,0))):=J (heap_alloc_new w _);have k1a:(w.alloc (.cells #[.int .i64 0,.string eB,.int .i64 0,.int .i64 0] 72)).cell? ⟨pb,1,none⟩=_:=Lib.cell?_alloc_marked _ k1;have k0a:(w.alloc (.cells #[.int .i64 0,.string eB,.int .i64 0,.int .i64 0] 72)).cell? ⟨pb,0,none⟩=_:=Lib.cell?_alloc_marked _ k0;have t0a:(w.alloc (.cells #[.int .i64 0,.string eB,.int .i64 0,.int .i64 0] 72)).cell? ⟨g,j*4,none⟩=_:=Lib.cell?_alloc_marked _ t0;have t1a:(w.alloc (.cells #[.int .i64 0,.string eB,.int .i64 0,.int .i64 0] 72)).cell? ⟨g,j*4+1,none⟩=_:=Lib.cell?_alloc_marked _ t1;have t2a:(w.alloc (.cells #[.int .i64 0,.string eB,.int .i64 0,.int .i64 0] 72)).cell? ⟨g,j*4+2,none⟩=_:=Lib.cell?_alloc_marked _ t2;have t3a:(w.alloc (.cells #[.int .i64 0,.string eB,.int .i64 0,.int .i64 0] 72)).cell? ⟨g,j*4+3,none⟩=_:=Lib.cell?_alloc_marked _ t3
  skip
  clear h hok ha ht hn hii hjn hi hlen hpos hlt k0 k1 t0 t1 t2 t3;subst hj;exact Z63
theorem vC {w:World} {pb:Nat} {v:Value} {T:Tks} {s:PSt} (h:PW w pb v T s) (hok:TokOk T):Calls Tryz.prog 53 #[.pointer (some ⟨pb,0,none⟩),.int .i64 1] w fun e w'=>e= .returned (tkV (ahd T s 1))∧Below w.heap.size w w':=by
 have hi:=h.le
 by_cases hlt:T.length≤s.i+1
 ·have ha:ahd T s 1=T.getD (T.length-1) fG:=by unfold ahd;rw [if_pos hlt]
  rw [ha];obtain ⟨t,ht⟩:=aE (T.getD (T.length-1) fG);obtain ⟨g,c,hv,hgl,t0,t1,t2,t3⟩:=h.tok (j:=T.length-1) (by have:=hok.pos;omega);rw [ht] at t0 t1 t2 t3 ⊢;have hpl:=aA h.box;obtain ⟨n,hn⟩:=aE T.length;obtain ⟨i,hii⟩:=aE s.i;have hlen:=hok.len;have hpos:=hok.pos;have k1:w.cell? ⟨pb,1,none⟩=some (.int .i64 (s.i:Int)):=h.cell rfl;have k0:w.cell? ⟨pb,0,none⟩=some v:=h.cell rfl;rw [hn] at hv hi hlen hpos hlt;rw [hii] at k1 hi hlt;rw [hn] at t0 t1 t2 t3;subst hv;obtain ⟨j,hj⟩:=aE (n-1)
  skip
  rw [hj] at t0 t1 t2 t3;have hw1:wrap64 ((i:Int)+1)=(i:Int)+1:=Y67;have hw0:IntKind.i64.wrap (i:Int)=(i:Int):=Y27;have hw2:wrap64 ((n:Int)-1)=(j:Int):=Y67;have hw3:IntKind.i64.wrap ((n:Int)-1)=(j:Int):=Y27;have hjn:((n:Int)-1)=(j:Int):=I;have d1:decide ((n:Int)≤(i:Int)+1)=true:=aD I;have d2:decide (n≤i+1)=true:=aD I;exact Z62
 ·have ha:ahd T s 1=T.getD (s.i+1) fG:=by unfold ahd;rw [if_neg hlt]
  rw [ha];obtain ⟨t,ht⟩:=aE (T.getD (s.i+1) fG);obtain ⟨g,c,hv,hgl,t0,t1,t2,t3⟩:=h.tok (j:=s.i+1) I;rw [ht] at t0 t1 t2 t3 ⊢;have hpl:=aA h.box;obtain ⟨n,hn⟩:=aE T.length;obtain ⟨i,hii⟩:=aE s.i;have hlen:=hok.len;have hpos:=hok.pos;have k1:w.cell? ⟨pb,1,none⟩=some (.int .i64 (s.i:Int)):=h.cell rfl;have k0:w.cell? ⟨pb,0,none⟩=some v:=h.cell rfl;rw [hn] at hv hi hlen hpos hlt;rw [hii] at k1 hi hlt;rw [hii] at t0 t1 t2 t3;subst hv;obtain ⟨j,hj⟩:=aE (i+1)
  skip
  rw [hj] at t0 t1 t2 t3;have hw1:wrap64 ((i:Int)+1)=(j:Int):=Y67;have hw0:IntKind.i64.wrap (i:Int)=(i:Int):=Y27;have hw2:wrap64 ((n:Int)-1)=(n:Int)-1:=Y67;have hw3:IntKind.i64.wrap ((n:Int)-1)=(n:Int)-1:=Y27;have hjn:(i:Int)+1=(j:Int):=I;have d1:decide ((n:Int)≤(j:Int))=false:=aK I;have d2:decide (n≤j)=false:=aK I;have g0:(0:Int)≤(j:Int):=I;have g1:(j:Int)<(n:Int):=I;have HB2:Hid (Below w.heap.size w (w.alloc (.cells #[.int .i64 0,.string eB,.int .i64 0,.int .i64 0] 72))):=J (ba);have HMZ:Hid ((w.alloc (.cells #[.int .i64 0,.string eB,.int .i64 0,.int .i64 0] 72)).heap[w.heap.size]? =some (.cells #[.int .i64 0,.string eB,.int .i64 0,.int .i64 0] 72 (0,0))):=J (heap_alloc_new w _);have k1a:(w.alloc (.cells #[.int .i64 0,.string eB,.int .i64 0,.int .i64 0] 72)).cell? ⟨pb,1,none⟩=_:=Lib.cell?_alloc_marked _ k1;have k0a:(w.alloc (.cells #[.int .i64 0,.string eB,.int .i64 0,.int .i64 0] 72)).cell? ⟨pb,0,none⟩=_:=Lib.cell?_alloc_marked _ k0;have t0a:(w.alloc (.cells #[.int .i64 0,.string eB,.int .i64 0,.int .i64 0] 72)).cell? ⟨g,j*4,none⟩=_:=Lib.cell?_alloc_marked _ t0;have t1a:(w.alloc (.cells #[.int .i64 0,.string eB,.int .i64 0,.int .i64 0] 72)).cell? ⟨g,j*4+1,none⟩=_:=Lib.cell?_alloc_marked _ t1;have t2a:(w.alloc (.cells #[.int .i64 0,.string eB,.int .i64 0,.int .i64 0] 72)).cell? ⟨g,j*4+2,none⟩=_:=Lib.cell?_alloc_marked _ t2;have t3a:(w.alloc (.cells #[.int .i64 0,.string eB,.int .i64 0,.int .i64 0] 72)).cell? ⟨g,j*4+3,none⟩=_:=Lib.cell?_alloc_marked _ t3
  skip
  clear h hok ha ht hn hii hjn hi hlen hpos hlt k0 k1 t0 t1 t2 t3;clear hj;exact Z63
end Go.Proofs.YtnojndgmgkgnpaaGreat
