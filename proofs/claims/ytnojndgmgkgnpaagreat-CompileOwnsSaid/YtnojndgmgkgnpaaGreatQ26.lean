/- Chapter 10: words and contracts for the law. -/
import Derived.Test.YtnojndgmgkgnpaaGreatQ25
set_option maxRecDepth 100000
set_option maxHeartbeats 40000000
set_option linter.unusedVariables false
set_option linter.unusedSimpArgs false
namespace Go.Proofs.YtnojndgmgkgnpaaGreat.Rf
open Go.ChangeShapes Go.WideShapes Go.ChangeAt Go.RowKit Go.Deep Go.Joins Go.Maps
def gB (rec:NodT→CSt→CSt) (x:NodT) (s:CSt):Bool×CSt:=match eX x with
 | some (y,n)=>(true,cD rec y n x.kids s)
 | none=>match cA x with
  | some (w,a,b)=>(true,fE rec w a b s)
  | none=>(false,s)
theorem fM {rec:NodT→CSt→CSt} {x:NodT} {s:CSt} (h:eX x=none) (g:cA x=none):gB rec x s=(false,s):=by unfold gB;rw [h];dsimp only;rw [g]
theorem nY {rec:NodT→CSt→CSt} {x:NodT} {s:CSt} {y z:Arm} (h:eX x=some (y,z)):gB rec x s=(true,cD rec y z x.kids s):=by unfold gB;rw [h]
theorem uA {rec:NodT→CSt→CSt} {x a b:NodT} {s:CSt} {v:Bool} (h:eX x=none) (g:cA x=some (v,a,b)):gB rec x s=(true,fE rec v a b s):=by unfold gB;rw [h];dsimp only;rw [g]
theorem br_plain {x:NodT} (h:(x.kids.drop 1).all bU=false):eX x=none:=by
 unfold eX
 split
 ·rw [if_neg (fun z=>by rw [h] at z;exact absurd z.2 Y3)]
 ·rfl
theorem vQ {x:NodT} (h:(x.kids.drop 1).all bU=false):cA x=none:=by
 unfold cA
 split
 ·split
  ·rename_i a b e;rw [e] at h;have h2:bU b=false:=Y123;rw [h2,Bool.and_false]
   rfl
  ·rfl
 ·rfl
theorem nZ {x:NodT} {y z:Arm} {j:Nat} (h:fJ x.text=some (y,z,j)) (hn:x.kids.length≠j):eX x=none:=by
 unfold eX;rw [h];dsimp only;rw [if_neg (fun q=>hn q.1)]
theorem lV {x:NodT} {y z:Arm} {j:Nat} (h:fJ x.text=some (y,z,j)) (hn:x.kids.length=j) (hp:(x.kids.drop 1).all bU=true):eX x=some (y,z):=by
 unfold eX;rw [h];dsimp only;rw [if_pos ⟨hn,hp⟩]
theorem kN {x:NodT} (h:fJ x.text=none):eX x=none:=by
 unfold eX;rw [h]
theorem hQ {x:NodT} (h:¬(x.text.toList=dK∨x.text.toList=gM)):cA x=none:=by
 unfold cA;rw [if_neg h]
theorem uB {x:NodT} (h:x.kids.length≠2):cA x=none:=by
 unfold cA
 split
 ·split
  ·rename_i a b e;rw [e] at h;exact absurd rfl h
  ·rfl
 ·rfl
theorem rH {x a b:NodT} (e:x.kids=[a,b]) (h:bU a=false):cA x=none:=by
 unfold cA
 split
 ·rw [e];dsimp only;rw [h,Bool.false_and]
  rfl
 ·rfl
theorem uC {x a b:NodT} (h:x.text.toList=dK∨x.text.toList=gM) (e:x.kids=[a,b]) (ha:bU a=true) (hb:bU b=true):cA x=some (decide (x.text.toList=dK),a,b):=by
 unfold cA;rw [if_pos h,e];dsimp only;rw [ha,hb]
 rfl
theorem uD {x:NodT} (h:x.kids.length=2):∃a b,x.kids=[a,b]:=by
 match hk:x.kids,h with
 | [a,b],_=>exact ⟨a,b,rfl⟩
theorem br_of0 {t:ByteArray} (h:t.toList=[105,102,84,114,117,101,58]):fJ t=some (.kid 1,.op 2,2):=Y77
theorem br_of1 {t:ByteArray} (h:t.toList=[105,102,70,97,108,115,101,58]):fJ t=some (.op 2,.kid 1,2):=Y77
theorem br_of2 {t:ByteArray} (h:t.toList=[105,102,84,114,117,101,58,105,102,70,97,108,115,101,58]):fJ t=some (.kid 1,.kid 2,3):=Y77
theorem br_of3 {t:ByteArray} (h:t.toList=[105,102,70,97,108,115,101,58,105,102,84,114,117,101,58]):fJ t=some (.kid 2,.kid 1,3):=Y77
theorem br_of4 {t:ByteArray} (h:t.toList=[97,110,100,58]):fJ t=some (.kid 1,.op 4,2):=Y77
theorem br_of5 {t:ByteArray} (h:t.toList=[111,114,58]):fJ t=some (.op 3,.kid 1,2):=Y77
theorem vR {t:ByteArray} (h:t.toList=[119,104,105,108,101,84,114,117,101,58]):fJ t=none:=Y77
theorem vS {t:ByteArray} (h:t.toList=[119,104,105,108,101,70,97,108,115,101,58]):fJ t=none:=Y77
theorem Z87 {P:Prop} (h:P:=by
 have z1:(n==2)=false:=Y103;have z2:((n:Int)==2)=false:=Y4;clear hm ht;go_wp2_with fail;go_ret;rw [HIN.out];exact ⟨rfl,HH.out.ct.back HBW.out (HX1.out.below HBR.out) HSUB.out⟩):P:=h
theorem Z88 {P:Prop} (h:P:=by
 clear hbr hm ht;go_wp2_with (first | (go_at_call 62;(with_reducible refine (HBR9.out _ bel).mono ?_);rintro e w3 ⟨rfl,HX3⟩;replace HX3:=J HX3));go_ret;rw [HIN.out];exact ⟨rfl,HH.out.ct.back HBW.out HX3.out HSUB.out⟩):P:=h
theorem Z89 {P:Prop} (h:P:=by
 clear hkk hka1 hpb hc1 hn1 hv0 ht hm hbl1;go_wp2_with (first | (go_at_call 61;(with_reducible refine (HPL0.out _).mono ?_);rintro e w2 ⟨rfl,hb2⟩;have hxp:=(HX1.out.below HBR.out).below ((bz wr).trans (hb2.mono (bz wr).size));have HXp:=J hxp;obtain ⟨_,_,k5⟩:=hxp.1.codeAt HN0.out;obtain ⟨c0,c1,c2,c3,c4,c5⟩:=HBX.out _ hxp.2;rw [HPK.out] at c5;obtain ⟨e0,e1',e2',e3',e4',e5'⟩:=HC0.out.same (hxp.1.stat.block b HBL.out);have ebw:b<_:=aN HBL.out hxp.1.stat.size;clear hb2 hxp));go_ret;rw [HIN.out];exact ⟨rfl,HH.out.ct.back HBW.out HXp.out HSUB.out⟩):P:=h
theorem Z90 {P:Prop} (h:P:=by
 unfold ndV at hbr;have HBR9:=J hbr;have z1:(n==2)=true:=Y103;have z2:((n:Int)==2)=true:=Y4;exact Z88):P:=h
theorem Z91 {P:Prop} (h:P:=by
 have z1:(n==3)=false:=Y103;have z2:((n:Int)==3)=false:=Y4;clear hm ht;go_wp2_with fail;go_ret;rw [HIN.out];exact ⟨rfl,HH.out.ct.back HBW.out (HX1.out.below HBR.out) HSUB.out⟩):P:=h
theorem Z92 {P:Prop} (h:P:=by
 have h2:=hc.below hb;refine (eO HV.out h2.1 HK0.out I I I).mono ?_;rintro e w' ⟨he,hc9⟩;rw [hs1] at hc9;exact ⟨he,h2.go hc9⟩):P:=h
theorem Z93 {P:Prop} (h:P:=by
 have h2:=hc.below hb;refine (eO HV.out h2.1 hn1 I I I).mono ?_;rintro e w' ⟨he,hc9⟩;rw [hs4] at hc9;exact ⟨he,h2.go hc9⟩):P:=h
theorem Z94 {P:Prop} (h:P:=by
 unfold ndV at hbr;have HBR9:=J hbr;have z1:(n==3)=true:=Y103;have z2:((n:Int)==3)=true:=Y4;exact Z88):P:=h
theorem vT {f:Nat} (hv:RSpec f) {w0 w:World} {P:Nat→Prop} {cb:Nat} {m:MK} {s:CSt} (h:CX w0 P w cb m s) {x:NodT} {q:NS} (hn:IsNd w0 (fun _=>True) x q) (hx:x.size≤f+1) (hk1:1≤x.kids.length) (hf:s.code.length+8*x.size≤1000000) (hl:s.lits.length+x.size≤100000):
  Calls Tryz.prog 40 #[.pointer (some ⟨cb,0,none⟩),ndV x q] w fun e w'=>e= .returned (.bool (gB (aS f) x s).1)∧CT w0 P w w' cb m (gB (aS f) x s).2:=by
 have HV:=J hv;have hxs:=x.size_kids;obtain ⟨n,hnk⟩:=aE x.kids.length;have HNK:=J hnk;rw [hnk] at hk1;have hle:n≤9223372036854775807:=Y113;have hba:Below w.heap.size w (w.alloc (.cells #[.int .i64 x.kind,.string x.text,.int .i64 x.num,.slice q.pn x.names.length q.cn,.slice q.pt x.temps.length q.ct,.slice q.pk n q.ck] 25)):=ba;have hnew:(w.alloc (.cells #[.int .i64 x.kind,.string x.text,.int .i64 x.num,.slice q.pn x.names.length q.cn,.slice q.pt x.temps.length q.ct,.slice q.pk n q.ck] 25)).heap[w.heap.size]? =some (.cells #[.int .i64 x.kind,.string x.text,.int .i64 x.num,.slice q.pn x.names.length q.cn,.slice q.pt x.temps.length q.ct,.slice q.pk n q.ck] 25 (0,0)):=heap_alloc_new w _;obtain ⟨P1,hP1⟩:∃P1:Nat→Prop,(fun k=>P k∨k=w.heap.size)=P1:=⟨_,rfl⟩;have hx1:CX w0 P1 (w.alloc (.cells #[.int .i64 x.kind,.string x.text,.int .i64 x.num,.slice q.pn x.names.length q.cn,.slice q.pt x.temps.length q.ct,.slice q.pk n q.ck] 25)) cb m s:=by
  rw [←hP1];exact (h.below hba).and hnew Y3
 have HSUB:Hid (∀k,P k→P1 k):=J (fun k z=>by rw [←hP1];exact .inl z);have hbx:∀wz,Turns (cP P1) (w.alloc (.cells #[.int .i64 x.kind,.string x.text,.int .i64 x.num,.slice q.pn x.names.length q.cn,.slice q.pt x.temps.length q.ct,.slice q.pk n q.ck] 25)) wz→Sixn wz w.heap.size n x q:=fun wz ht=>cW ((ht.block _ (aA hnew) (fun z=>z Y72)).trans hnew)
 have HH:=J h;have HRM:Hid (NodT.sizes x.kids≤f∧s.code.length+8*NodT.sizes x.kids+8≤1000000∧s.lits.length+NodT.sizes x.kids≤100000):=J ⟨by omega,by omega,by omega⟩;obtain ⟨b,off,q0,hpk,hbl,hc0,hkn0⟩:=hn.rows 0 I;have HBL:=J hbl;have HPK:=J hpk;obtain ⟨k0,r0,hk0⟩:∃k r,x.kids=k :: r:=by
  cases hc:x.kids with
  | nil=>rw [hc] at hnk;simp at hnk;omega
  | cons k r=>exact ⟨k,r,rfl⟩
 rw [show x.kids[0]'I=k0 from by simp [hk0]] at hc0 hkn0;rw [Nat.zero_mul,Nat.add_zero] at hc0;have HC0:=J hc0;have HK0:=J hkn0;have HK:=J hk0;have hrw:Rows w0 (some ⟨b,off,none⟩) x.kids:=by rw [←hpk];exact hn.rows
 have HRW:=J hrw;rw [hpk] at hbx;obtain ⟨n0,hn0⟩:=aE s.code.length;have HN0:=J hn0;unfold ndV;rw [hnk,hpk];rw [hpk] at hba hnew hx1;have HB0:=J hbx;have HX0:=J hx1;have HBW:=J hba;clear hnk hx1 hn0 hn hx hf hl hv hxs hba hnew hP1 hbx hrw hk0 hkn0 hc0 hbl h hpk;go_enter Tryz.func40,Tryz.ntmps40
 go_upto_region 1 with fail
 have hbx:=HB0.out;have hx1:=HX0.out;have hbw:=HBW.out;obtain ⟨w1,hw1⟩:∃w1,(w.alloc (.cells #[.int .i64 x.kind,.string x.text,.int .i64 x.num,.slice q.pn x.names.length q.cn,.slice q.pt x.temps.length q.ct,.slice (some ⟨b,off,none⟩) n q.ck] 25))=w1:=⟨_,rfl⟩;clear HB0 HX0 HBW;rw [hw1] at hbx hx1 hbw ⊢;have HBX:=J hbx;have HX1:=J hx1.ct;have HBW:=J hbw;obtain ⟨c0,c1,c2,c3,c4,c5⟩:=HBX.out _ HX1.out.2;rw [HPK.out] at c5;clear hbx hx1 hbw hw1;go_wp2_with fail
 go_loopw [6] (fun i wr=>∃k:Nat,i= .int .i64 k∧k≤n∧1≤k∧(∀j (hj:j<x.kids.length),1≤j→j<k→bU x.kids[j]=true)∧Below w1.heap.size w1 wr) (fun i _=>n-(intOf i).toNat)
 case atStart=>exact ⟨1,rfl,hk1,Nat.le_refl _,fun j _ a b=>by omega,Below.refl _ _⟩
 case round=>
  obtain ⟨k,rfl,hk,hk2,hall,hbr⟩:=hrel;have HBR:=J hbr;clear c0 c1 c2 c3 c4 c5;obtain ⟨c0,c1,c2,c3,c4,c5⟩:=HBX.out _ (HX1.out.below HBR.out).2;rw [HPK.out] at c5;obtain ⟨e0,e1',e2',e3',e4',e5'⟩:=HC0.out.same ((HX1.out.below HBR.out).1.stat.block b HBL.out);have ebw:b<wr.heap.size:=aN HBL.out (HX1.out.below HBR.out).1.stat.size;clear hbr
  by_cases hlt:k<n
  ·have d1:=aD hlt;have d2:=aT hlt;have hkl:k<x.kids.length:=Y82;obtain ⟨b',off',q',hp',hbl',hc6,hkd⟩:=HRW.out k hkl
   cases hp'
   obtain ⟨u0,u1,u2,u3,u4,u5⟩:=hc6.same ((HX1.out.below HBR.out).1.stat.block b HBL.out);obtain ⟨kd,hkx⟩:=aE (x.kids[k]);have hpl:=fun W=>fZ hkd.ok W
   rw [hkx] at u0 u1 u2 u3 u4 u5 hpl;obtain ⟨v,hv⟩:=aE (bU kd);rw [hv] at hpl;unfold ndV at hpl;have HPL:=J hpl;have g0:(0:Int)≤(k:Int):=I;have g1:(k:Int)<(n:Int):=I;have HALL:=J hall;have HKX:=J hkx;have HPV:=J hv;clear hc6 hkd hkx hpl hv hall hbl'
   cases v with
   | true=>
    go_wp2_with (first | (go_at_call 61;(with_reducible refine (HPL.out _).mono ?_);rintro e w2 ⟨rfl,hb2⟩;have hbr2:=(bz wr).trans (hb2.mono (bz wr).size);have HB2:=J (HBR.out.trans (hbr2.mono HBR.out.size));clear hb2 hbr2));go_roundw
    case rel=>exact ⟨k+1,by go_num,hlt,by omega,fun j hj a b=>by
     by_cases e:j=k
     ·subst e;rw [HKX.out];exact HPV.out
     ·exact HALL.out j hj a I,HB2.out⟩
    case measure=>simp [intOf];omega
   | false=>
    have HIN:Hid (gB (aS f) x s=(false,s)):=J (by
     have h9:(x.kids.drop 1).all bU=false:=by
      cases h8:(x.kids.drop 1).all bU with
      | false=>rfl
      | true=>
       have h7:=List.all_eq_true.1 h8 x.kids[k] (by
        have:(x.kids.drop 1)[k-1]'(by rw [List.length_drop];omega)=x.kids[k]:=Y134;rw [←this];exact List.getElem_mem _)
       rw [HKX.out,HPV.out] at h7
       cases h7
     exact fM (br_plain h9) (vQ h9))
    go_wp2_with (first | (go_at_call 61;(with_reducible refine (HPL.out _).mono ?_);rintro e w2 ⟨rfl,hb2⟩;have hbr2:=(bz wr).trans (hb2.mono (bz wr).size);have HB2:=J (HBR.out.trans (hbr2.mono HBR.out.size));clear hb2 hbr2));go_ret;rw [HIN.out];exact ⟨rfl,HH.out.ct.back HBW.out (HX1.out.below HB2.out) HSUB.out⟩
  ·have hkn:n=k:=I;have d1:=aK hlt;have d2:=aF hlt;have g1:(0:Int)<(n:Int):=I;have HALL:Hid ((x.kids.drop 1).all bU=true):=J (by
    rw [List.all_eq_true];intro a ha;obtain ⟨j,hj,rfl⟩:=List.getElem_of_mem ha;rw [List.getElem_drop];rw [List.length_drop] at hj;exact hall (1+j) I I (by have:=HNK.out;omega))
   clear hlt hall;subst hkn
   cases q0:x.text.toList==[105,102,84,114,117,101,58] with
   | true=>
    have ht:=beq_iff_eq.1 q0;clear q0;have t0:(x.text.toList==[105,102,84,114,117,101,58])=true:=Y5;have t1:(x.text.toList==[105,102,70,97,108,115,101,58])=false:=Y5;have t2:(x.text.toList==[105,102,84,114,117,101,58,105,102,70,97,108,115,101,58])=false:=Y5;have t3:(x.text.toList==[105,102,70,97,108,115,101,58,105,102,84,114,117,101,58])=false:=Y5;have t4:(x.text.toList==[97,110,100,58])=false:=Y5;have t5:(x.text.toList==[111,114,58])=false:=Y5;have t6:(x.text.toList==[119,104,105,108,101,84,114,117,101,58])=false:=Y5;have t7:(x.text.toList==[119,104,105,108,101,70,97,108,115,101,58])=false:=Y5
    by_cases hm:n=2
    ·have HIB:Hid (eX x=some (.kid 1,.op 2)):=J (lV (br_of0 ht) Y23 HALL.out);have HIN:Hid (gB (aS f) x s=(true,cD (aS f) (.kid 1) (.op 2) x.kids s)):=J (nY HIB.out);have hbr:∀W,Below wr.heap.size wr W→Calls Tryz.prog 62 #[.pointer (some ⟨cb,0,none⟩),ndV k0 q0,.slice (some ⟨b,off,none⟩) n q.ck,.int .i64 1,.int .i64 0,.int .i64 0,.int .i64 2] W fun e w'=>e= .returned (.tuple #[])∧CT w0 P1 w1 w' cb m (cD (aS f) (.kid 1) (.op 2) x.kids s):=fun W hW=>by
      have h2:=(HX1.out.below HBR.out).below hW;have h3:=jF HIB.out HK.out;have h4:=HRM.out;have h5:=k0.size_pos;have h7:3≤8:=I;refine (fX HV.out h2.1 HK0.out I HK.out HRW.out HNK.out hle h4.1 (.kid 1) (.op 2) (yi:=1) (yo:=0) (zi:=0) (no:=2) ⟨rfl,by omega,by rw [HNK.out];omega⟩ ⟨rfl,rfl⟩ I I).mono ?_;rintro e w' ⟨he,hc⟩;exact ⟨he,h2.go hc⟩
     exact Z90
    ·have HIN:Hid (gB (aS f) x s=(false,s)):=J (fM (nZ (br_of0 ht) Y23) (hQ Y5));exact Z87
   | false=>
    cases q1:x.text.toList==[105,102,70,97,108,115,101,58] with
    | true=>
     have ht:=beq_iff_eq.1 q1;clear q0 q1;have t0:(x.text.toList==[105,102,84,114,117,101,58])=false:=Y5;have t1:(x.text.toList==[105,102,70,97,108,115,101,58])=true:=Y5;have t2:(x.text.toList==[105,102,84,114,117,101,58,105,102,70,97,108,115,101,58])=false:=Y5;have t3:(x.text.toList==[105,102,70,97,108,115,101,58,105,102,84,114,117,101,58])=false:=Y5;have t4:(x.text.toList==[97,110,100,58])=false:=Y5;have t5:(x.text.toList==[111,114,58])=false:=Y5;have t6:(x.text.toList==[119,104,105,108,101,84,114,117,101,58])=false:=Y5;have t7:(x.text.toList==[119,104,105,108,101,70,97,108,115,101,58])=false:=Y5
     by_cases hm:n=2
     ·have HIB:Hid (eX x=some (.op 2,.kid 1)):=J (lV (br_of1 ht) Y23 HALL.out);have HIN:Hid (gB (aS f) x s=(true,cD (aS f) (.op 2) (.kid 1) x.kids s)):=J (nY HIB.out);have hbr:∀W,Below wr.heap.size wr W→Calls Tryz.prog 62 #[.pointer (some ⟨cb,0,none⟩),ndV k0 q0,.slice (some ⟨b,off,none⟩) n q.ck,.int .i64 0,.int .i64 2,.int .i64 1,.int .i64 0] W fun e w'=>e= .returned (.tuple #[])∧CT w0 P1 w1 w' cb m (cD (aS f) (.op 2) (.kid 1) x.kids s):=fun W hW=>by
       have h2:=(HX1.out.below HBR.out).below hW;have h3:=jF HIB.out HK.out;have h4:=HRM.out;have h5:=k0.size_pos;have h7:3≤8:=I;refine (fX HV.out h2.1 HK0.out I HK.out HRW.out HNK.out hle h4.1 (.op 2) (.kid 1) (yi:=0) (yo:=2) (zi:=1) (no:=0) ⟨rfl,rfl⟩ ⟨rfl,by omega,by rw [HNK.out];omega⟩ I I).mono ?_;rintro e w' ⟨he,hc⟩;exact ⟨he,h2.go hc⟩
      exact Z90
     ·have HIN:Hid (gB (aS f) x s=(false,s)):=J (fM (nZ (br_of1 ht) Y23) (hQ Y5));exact Z87
    | false=>
     cases q2:x.text.toList==[105,102,84,114,117,101,58,105,102,70,97,108,115,101,58] with
     | true=>
      have ht:=beq_iff_eq.1 q2;clear q0 q1 q2;have t0:(x.text.toList==[105,102,84,114,117,101,58])=false:=Y5;have t1:(x.text.toList==[105,102,70,97,108,115,101,58])=false:=Y5;have t2:(x.text.toList==[105,102,84,114,117,101,58,105,102,70,97,108,115,101,58])=true:=Y5;have t3:(x.text.toList==[105,102,70,97,108,115,101,58,105,102,84,114,117,101,58])=false:=Y5;have t4:(x.text.toList==[97,110,100,58])=false:=Y5;have t5:(x.text.toList==[111,114,58])=false:=Y5;have t6:(x.text.toList==[119,104,105,108,101,84,114,117,101,58])=false:=Y5;have t7:(x.text.toList==[119,104,105,108,101,70,97,108,115,101,58])=false:=Y5
      by_cases hm:n=3
      ·have HIB:Hid (eX x=some (.kid 1,.kid 2)):=J (lV (br_of2 ht) Y23 HALL.out);have HIN:Hid (gB (aS f) x s=(true,cD (aS f) (.kid 1) (.kid 2) x.kids s)):=J (nY HIB.out);have hbr:∀W,Below wr.heap.size wr W→Calls Tryz.prog 62 #[.pointer (some ⟨cb,0,none⟩),ndV k0 q0,.slice (some ⟨b,off,none⟩) n q.ck,.int .i64 1,.int .i64 0,.int .i64 2,.int .i64 0] W fun e w'=>e= .returned (.tuple #[])∧CT w0 P1 w1 w' cb m (cD (aS f) (.kid 1) (.kid 2) x.kids s):=fun W hW=>by
        have h2:=(HX1.out.below HBR.out).below hW;have h3:=jF HIB.out HK.out;have h4:=HRM.out;have h5:=k0.size_pos;have h7:3≤8:=I;refine (fX HV.out h2.1 HK0.out I HK.out HRW.out HNK.out hle h4.1 (.kid 1) (.kid 2) (yi:=1) (yo:=0) (zi:=2) (no:=0) ⟨rfl,by omega,by rw [HNK.out];omega⟩ ⟨rfl,by omega,by rw [HNK.out];omega⟩ I I).mono ?_;rintro e w' ⟨he,hc⟩;exact ⟨he,h2.go hc⟩
       exact Z94
      ·have HIN:Hid (gB (aS f) x s=(false,s)):=J (fM (nZ (br_of2 ht) Y23) (hQ Y5));exact Z91
     | false=>
      cases q3:x.text.toList==[105,102,70,97,108,115,101,58,105,102,84,114,117,101,58] with
      | true=>
       have ht:=beq_iff_eq.1 q3;clear q0 q1 q2 q3;have t0:(x.text.toList==[105,102,84,114,117,101,58])=false:=Y5;have t1:(x.text.toList==[105,102,70,97,108,115,101,58])=false:=Y5;have t2:(x.text.toList==[105,102,84,114,117,101,58,105,102,70,97,108,115,101,58])=false:=Y5;have t3:(x.text.toList==[105,102,70,97,108,115,101,58,105,102,84,114,117,101,58])=true:=Y5;have t4:(x.text.toList==[97,110,100,58])=false:=Y5;have t5:(x.text.toList==[111,114,58])=false:=Y5;have t6:(x.text.toList==[119,104,105,108,101,84,114,117,101,58])=false:=Y5;have t7:(x.text.toList==[119,104,105,108,101,70,97,108,115,101,58])=false:=Y5
       by_cases hm:n=3
       ·have HIB:Hid (eX x=some (.kid 2,.kid 1)):=J (lV (br_of3 ht) Y23 HALL.out);have HIN:Hid (gB (aS f) x s=(true,cD (aS f) (.kid 2) (.kid 1) x.kids s)):=J (nY HIB.out);have hbr:∀W,Below wr.heap.size wr W→Calls Tryz.prog 62 #[.pointer (some ⟨cb,0,none⟩),ndV k0 q0,.slice (some ⟨b,off,none⟩) n q.ck,.int .i64 2,.int .i64 0,.int .i64 1,.int .i64 0] W fun e w'=>e= .returned (.tuple #[])∧CT w0 P1 w1 w' cb m (cD (aS f) (.kid 2) (.kid 1) x.kids s):=fun W hW=>by
         have h2:=(HX1.out.below HBR.out).below hW;have h3:=jF HIB.out HK.out;have h4:=HRM.out;have h5:=k0.size_pos;have h7:3≤8:=I;refine (fX HV.out h2.1 HK0.out I HK.out HRW.out HNK.out hle h4.1 (.kid 2) (.kid 1) (yi:=2) (yo:=0) (zi:=1) (no:=0) ⟨rfl,by omega,by rw [HNK.out];omega⟩ ⟨rfl,by omega,by rw [HNK.out];omega⟩ I I).mono ?_;rintro e w' ⟨he,hc⟩;exact ⟨he,h2.go hc⟩
        exact Z94
       ·have HIN:Hid (gB (aS f) x s=(false,s)):=J (fM (nZ (br_of3 ht) Y23) (hQ Y5));exact Z91
      | false=>
       cases q4:x.text.toList==[97,110,100,58] with
       | true=>
        have ht:=beq_iff_eq.1 q4;clear q0 q1 q2 q3 q4;have t0:(x.text.toList==[105,102,84,114,117,101,58])=false:=Y5;have t1:(x.text.toList==[105,102,70,97,108,115,101,58])=false:=Y5;have t2:(x.text.toList==[105,102,84,114,117,101,58,105,102,70,97,108,115,101,58])=false:=Y5;have t3:(x.text.toList==[105,102,70,97,108,115,101,58,105,102,84,114,117,101,58])=false:=Y5;have t4:(x.text.toList==[97,110,100,58])=true:=Y5;have t5:(x.text.toList==[111,114,58])=false:=Y5;have t6:(x.text.toList==[119,104,105,108,101,84,114,117,101,58])=false:=Y5;have t7:(x.text.toList==[119,104,105,108,101,70,97,108,115,101,58])=false:=Y5
        by_cases hm:n=2
        ·have HIB:Hid (eX x=some (.kid 1,.op 4)):=J (lV (br_of4 ht) Y23 HALL.out);have HIN:Hid (gB (aS f) x s=(true,cD (aS f) (.kid 1) (.op 4) x.kids s)):=J (nY HIB.out);have hbr:∀W,Below wr.heap.size wr W→Calls Tryz.prog 62 #[.pointer (some ⟨cb,0,none⟩),ndV k0 q0,.slice (some ⟨b,off,none⟩) n q.ck,.int .i64 1,.int .i64 0,.int .i64 0,.int .i64 4] W fun e w'=>e= .returned (.tuple #[])∧CT w0 P1 w1 w' cb m (cD (aS f) (.kid 1) (.op 4) x.kids s):=fun W hW=>by
          have h2:=(HX1.out.below HBR.out).below hW;have h3:=jF HIB.out HK.out;have h4:=HRM.out;have h5:=k0.size_pos;have h7:3≤8:=I;refine (fX HV.out h2.1 HK0.out I HK.out HRW.out HNK.out hle h4.1 (.kid 1) (.op 4) (yi:=1) (yo:=0) (zi:=0) (no:=4) ⟨rfl,by omega,by rw [HNK.out];omega⟩ ⟨rfl,rfl⟩ I I).mono ?_;rintro e w' ⟨he,hc⟩;exact ⟨he,h2.go hc⟩
         exact Z90
        ·have HIN:Hid (gB (aS f) x s=(false,s)):=J (fM (nZ (br_of4 ht) Y23) (hQ Y5));exact Z87
       | false=>
        cases q5:x.text.toList==[111,114,58] with
        | true=>
         have ht:=beq_iff_eq.1 q5;clear q0 q1 q2 q3 q4 q5;have t0:(x.text.toList==[105,102,84,114,117,101,58])=false:=Y5;have t1:(x.text.toList==[105,102,70,97,108,115,101,58])=false:=Y5;have t2:(x.text.toList==[105,102,84,114,117,101,58,105,102,70,97,108,115,101,58])=false:=Y5;have t3:(x.text.toList==[105,102,70,97,108,115,101,58,105,102,84,114,117,101,58])=false:=Y5;have t4:(x.text.toList==[97,110,100,58])=false:=Y5;have t5:(x.text.toList==[111,114,58])=true:=Y5;have t6:(x.text.toList==[119,104,105,108,101,84,114,117,101,58])=false:=Y5;have t7:(x.text.toList==[119,104,105,108,101,70,97,108,115,101,58])=false:=Y5
         by_cases hm:n=2
         ·have HIB:Hid (eX x=some (.op 3,.kid 1)):=J (lV (br_of5 ht) Y23 HALL.out);have HIN:Hid (gB (aS f) x s=(true,cD (aS f) (.op 3) (.kid 1) x.kids s)):=J (nY HIB.out);have hbr:∀W,Below wr.heap.size wr W→Calls Tryz.prog 62 #[.pointer (some ⟨cb,0,none⟩),ndV k0 q0,.slice (some ⟨b,off,none⟩) n q.ck,.int .i64 0,.int .i64 3,.int .i64 1,.int .i64 0] W fun e w'=>e= .returned (.tuple #[])∧CT w0 P1 w1 w' cb m (cD (aS f) (.op 3) (.kid 1) x.kids s):=fun W hW=>by
           have h2:=(HX1.out.below HBR.out).below hW;have h3:=jF HIB.out HK.out;have h4:=HRM.out;have h5:=k0.size_pos;have h7:3≤8:=I;refine (fX HV.out h2.1 HK0.out I HK.out HRW.out HNK.out hle h4.1 (.op 3) (.kid 1) (yi:=0) (yo:=3) (zi:=1) (no:=0) ⟨rfl,rfl⟩ ⟨rfl,by omega,by rw [HNK.out];omega⟩ I I).mono ?_;rintro e w' ⟨he,hc⟩;exact ⟨he,h2.go hc⟩
          exact Z90
         ·have HIN:Hid (gB (aS f) x s=(false,s)):=J (fM (nZ (br_of5 ht) Y23) (hQ Y5));exact Z87
        | false=>
         cases q6:x.text.toList==[119,104,105,108,101,84,114,117,101,58] with
         | true=>
          have ht:=beq_iff_eq.1 q6;clear q0 q1 q2 q3 q4 q5 q6;have t0:(x.text.toList==[105,102,84,114,117,101,58])=false:=Y5;have t1:(x.text.toList==[105,102,70,97,108,115,101,58])=false:=Y5;have t2:(x.text.toList==[105,102,84,114,117,101,58,105,102,70,97,108,115,101,58])=false:=Y5;have t3:(x.text.toList==[105,102,70,97,108,115,101,58,105,102,84,114,117,101,58])=false:=Y5;have t4:(x.text.toList==[97,110,100,58])=false:=Y5;have t5:(x.text.toList==[111,114,58])=false:=Y5;have t6:(x.text.toList==[119,104,105,108,101,84,114,117,101,58])=true:=Y5;have t7:(x.text.toList==[119,104,105,108,101,70,97,108,115,101,58])=false:=Y5
          by_cases hm:n=2
          ·have z1:(n==2)=true:=Y103;have z2:((n:Int)==2)=true:=Y4;obtain ⟨ka,kb,hkk⟩:=uD (x:=x) Y23;have hm2:=hm;subst hm2;have hka:k0=ka∧[kb]=r0:=Y79;obtain ⟨hka1,_⟩:=hka;have hpb:bU kb=true:=by have h9:=HALL.out;rw [hkk] at h9;simpa using h9
           obtain ⟨b',off',q1,hp1,hbl1,hc1,hn1⟩:=HRW.out 1 (by simp [hkk])
           cases hp1
           rw [show x.kids[1]'(by simp [hkk])=kb from by simp [hkk]] at hc1 hn1;rw [Nat.one_mul] at hc1;have HC1:=J hc1;have hpl0:=fun W=>fZ HK0.out.ok W
           obtain ⟨v0,hv0⟩:=aE (bU k0);rw [hv0] at hpl0;unfold ndV at hpl0;have HPL0:=J hpl0;clear hpl0
           cases v0 with
           | false=>
            have HIN:Hid (gB (aS f) x s=(false,s)):=J (fM (kN (vR ht)) (rH hkk Y162));exact Z89
           | true=>
            have hlo:=uC (x:=x) Y5 hkk Y162 hpb;rw [show decide (x.text.toList=dK)=true from by rw [ht];decide] at hlo;have HIN:Hid (gB (aS f) x s=(true,fE (aS f) true k0 kb s)):=J (by rw [hka1];exact uA (kN (vR ht)) hlo);have hrm:=HRM.out;rw [hkk,lJ,←hka1] at hrm;have hp0:=k0.size_pos;have hp1:=kb.size_pos;obtain ⟨s1,hs1⟩:=aE (cN (aS f) k0 s);obtain ⟨s2,hs2⟩:=aE (aB s1 17 0 0);obtain ⟨n1,hn1'⟩:=aE s1.code.length;obtain ⟨n2,hn2⟩:=aE s2.code.length;obtain ⟨s3,hs3⟩:=aE s2;obtain ⟨s4,hs4⟩:=aE (cN (aS f) kb s3);obtain ⟨s5,hs5⟩:=aE (aB s4 12 0 0);obtain ⟨n4,hn4⟩:=aE s5.code.length;obtain ⟨s6,hs6⟩:=aE (aB s5 16 0 0);obtain ⟨s7,hs7⟩:=aE (toP s6 n4 16 n0);obtain ⟨n5,hn5⟩:=aE s7.code.length;obtain ⟨s8,hs8⟩:=aE (toP s7 n1 17 n5);have HLP:Hid (fE (aS f) true k0 kb s=aB s8 2 0 0):=J (by
             unfold fE;dsimp only;simp only [if_true];rw [hs1,hs2,hn1',hs3,hs4,hs5,hn4,hs6,HN0.out,hs7,hn5,hs8])
            have ga:=eQ (eJ f) (x:=k0) I s;rw [hs1] at ga;have ga1:=ga.code;have ga2:=ga.lits;have gb:=eQ (eJ f) (x:=kb) I s3;rw [hs4] at gb;have gb1:=gb.code;have gb2:=gb.lits;have x1:s2.code.length=s1.code.length+1:=by rw [←hs2];exact aM _ _ _ _
            have x2:s2.lits.length=s1.lits.length:=by rw [←hs2];rfl
            have x3:s3.code.length=s2.code.length:=by rw [hs3]
            have x4:s3.lits.length=s2.lits.length:=by rw [hs3]
            have x5:s5.code.length=s4.code.length+1:=by rw [←hs5];exact aM _ _ _ _
            have x6:s6.code.length=s5.code.length+1:=by rw [←hs6];exact aM _ _ _ _
            have x7:s7.code.length=s6.code.length:=by rw [←hs7];exact lU _ _ _ _
            have x8:s8.code.length=s7.code.length:=by rw [←hs8];exact lU _ _ _ _
            have t1:Tm s3 s4:=by rw [←hs4];exact eS (jL f) kb s3
            have o1:Hole s2 n1 17:=by rw [←hs2,←hn1'];exact Hole.emit _ _ _ _
            have o3:Hole s3 n1 17:=by rw [←hs3];exact o1
            have o2:Hole s6 n4 16:=by rw [←hs6,←hn4];exact Hole.emit _ _ _ _
            have o4:Hole s6 n1 17:=Y100;have hne:n4≠n1:=by have:=(o3.tm t1).lt;omega
            have o5:Hole s7 n1 17:=by rw [←hs7];exact o4.to_ hne _ _
            have HO2:=J o2;have HO3:=J o5;have hba:∀{wa W:World},CT w0 P1 w1 wa cb m s→Below wa.heap.size wa W→Calls Tryz.prog 44 #[.pointer (some ⟨cb,0,none⟩),ndV k0 q0] W fun e w'=>e= .returned (.tuple #[])∧CT w0 P1 w1 w' cb m s1:=fun hc hb=>by
             exact Z92
            have hbb:∀{wa W:World},CT w0 P1 w1 wa cb m s3→Below wa.heap.size wa W→Calls Tryz.prog 44 #[.pointer (some ⟨cb,0,none⟩),ndV kb q1] W fun e w'=>e= .returned (.tuple #[])∧CT w0 P1 w1 w' cb m s4:=fun hc hb=>by
             exact Z93
            unfold ndV at hba hbb;have HBA:Hid (∀{wa W:World},CT w0 P1 w1 wa cb m s→Below wa.heap.size wa W→_):=J hba;have HBB:Hid (∀{wa W:World},CT w0 P1 w1 wa cb m s3→Below wa.heap.size wa W→_):=J hbb;have HN1:=J hn1';have HN2:=J hn2;have HN4:=J hn4;have HN5:=J hn5;have HF1:Hid (s1.code.length≤1000000):=J I;have HF:Hid (n0≤1000000∧s3.code.length≤1000000∧s4.code.length≤1000000∧s5.code.length≤1000000∧s8.code.length≤1000000∧n5≤1000000):=J (by have h9:=HN0.out;omega);have HF7:Hid (s7.code.length≤1000000∧s6.code.length≤1000000):=J I;have HS3:Hid (aB s1 17 0 0=s3):=J (by rw [hs2];exact hs3);have HS5:=J hs5;have HS6:=J hs6;have HS7:=J hs7;have HS8:=J hs8;clear hkk hka1 hpb hc1 hn1 hv0 ht hm hbl1 hlo hrm hp0 hp1 hs1 hs2 hs3 hs4 hs5 hs6 hs7 hs8 ga gb t1 o1 o2 o3 o4 o5 hne hba hbb hn1' hn2 hn4 hn5;clear ga1 ga2 gb1 gb2 x1 x2 x3 x4 x5 x6 x7 x8;go_wp2_with (first | (go_at_call 19;(with_reducible refine (bG HX8.out bel 2 0 0 HF.out.2.2.2.2.1).mono ?_);rintro e w' ⟨rfl,HX9⟩;replace HX9:=J HX9) | (go_at_call 45;(with_reducible refine (fV HX7.out bel HO3.out n5 HF.out.2.2.2.2.2 HF7.out.1).mono ?_);rw [HS8.out];rintro e w' ⟨rfl,HX8⟩;replace HX8:=J HX8) | (go_at_call 45;(with_reducible refine (fV HX6.out bel HO2.out n0 HF.out.1 HF7.out.2).mono ?_);rw [HS7.out];rintro e w' ⟨rfl,hx3⟩;have HX7:=J hx3;obtain ⟨_,_,k5⟩:=hx3.1.codeAt HN5.out;clear hx3) | (go_at_call 19;(with_reducible refine (bG HX5.out bel 16 0 0 HF.out.2.2.2.1).mono ?_);rw [HS6.out];rintro e w' ⟨rfl,HX6⟩;replace HX6:=J HX6) | (go_at_call 19;(with_reducible refine (bG HX4.out bel 12 0 0 HF.out.2.2.1).mono ?_);rw [HS5.out];rintro e w' ⟨rfl,hx3⟩;have HX5:=J hx3;obtain ⟨_,_,k5⟩:=hx3.1.codeAt HN4.out;clear hx3) | (go_at_call 44;(with_reducible refine (HBB.out HX3.out bel).mono ?_);rintro e w' ⟨rfl,HX4⟩;replace HX4:=J HX4) | (go_at_call 19;(with_reducible refine (bG HX1b.out bel 17 0 0 HF1.out).mono ?_);rw [HS3.out];rintro e w' ⟨rfl,hx3⟩;have HX3:=J hx3;obtain ⟨v0,v1,v2,v3,v4,v5⟩:=HC1.out.same (hx3.1.stat.block b HBL.out);have vbw:b<_:=aN HBL.out hx3.1.stat.size;obtain ⟨c0,c1,c2,c3,c4,c5⟩:=HBX.out _ hx3.2;rw [HPK.out] at c5;clear hx3) | (go_at_call 44;(with_reducible refine (HBA.out HXp.out bel).mono ?_);rintro e w' ⟨rfl,hx3⟩;have HX1b:=J hx3;obtain ⟨_,_,k5⟩:=hx3.1.codeAt HN1.out;obtain ⟨c0,c1,c2,c3,c4,c5⟩:=HBX.out _ hx3.2;rw [HPK.out] at c5;clear hx3) | (go_at_call 61;(with_reducible refine (HPL0.out _).mono ?_);rintro e w2 ⟨rfl,hb2⟩;have hxp:=(HX1.out.below HBR.out).below ((bz wr).trans (hb2.mono (bz wr).size));have HXp:=J hxp;obtain ⟨_,_,k5⟩:=hxp.1.codeAt HN0.out;obtain ⟨c0,c1,c2,c3,c4,c5⟩:=HBX.out _ hxp.2;rw [HPK.out] at c5;obtain ⟨e0,e1',e2',e3',e4',e5'⟩:=HC0.out.same (hxp.1.stat.block b HBL.out);have ebw:b<_:=aN HBL.out hxp.1.stat.size;clear hb2 hxp));go_ret;rw [HIN.out,HLP.out];exact ⟨rfl,HH.out.ct.back HBW.out HX9.out HSUB.out⟩
          ·have HIN:Hid (gB (aS f) x s=(false,s)):=J (fM (kN (vR ht)) (uB Y23));exact Z87
         | false=>
          cases q7:x.text.toList==[119,104,105,108,101,70,97,108,115,101,58] with
          | true=>
           have ht:=beq_iff_eq.1 q7;clear q0 q1 q2 q3 q4 q5 q6 q7;have t0:(x.text.toList==[105,102,84,114,117,101,58])=false:=Y5;have t1:(x.text.toList==[105,102,70,97,108,115,101,58])=false:=Y5;have t2:(x.text.toList==[105,102,84,114,117,101,58,105,102,70,97,108,115,101,58])=false:=Y5;have t3:(x.text.toList==[105,102,70,97,108,115,101,58,105,102,84,114,117,101,58])=false:=Y5;have t4:(x.text.toList==[97,110,100,58])=false:=Y5;have t5:(x.text.toList==[111,114,58])=false:=Y5;have t6:(x.text.toList==[119,104,105,108,101,84,114,117,101,58])=false:=Y5;have t7:(x.text.toList==[119,104,105,108,101,70,97,108,115,101,58])=true:=Y5
           by_cases hm:n=2
           ·have z1:(n==2)=true:=Y103;have z2:((n:Int)==2)=true:=Y4;obtain ⟨ka,kb,hkk⟩:=uD (x:=x) Y23;have hm2:=hm;subst hm2;have hka:k0=ka∧[kb]=r0:=Y79;obtain ⟨hka1,_⟩:=hka;have hpb:bU kb=true:=by have h9:=HALL.out;rw [hkk] at h9;simpa using h9
            obtain ⟨b',off',q1,hp1,hbl1,hc1,hn1⟩:=HRW.out 1 (by simp [hkk])
            cases hp1
            rw [show x.kids[1]'(by simp [hkk])=kb from by simp [hkk]] at hc1 hn1;rw [Nat.one_mul] at hc1;have HC1:=J hc1;have hpl0:=fun W=>fZ HK0.out.ok W
            obtain ⟨v0,hv0⟩:=aE (bU k0);rw [hv0] at hpl0;unfold ndV at hpl0;have HPL0:=J hpl0;clear hpl0
            cases v0 with
            | false=>
             have HIN:Hid (gB (aS f) x s=(false,s)):=J (fM (kN (vS ht)) (rH hkk Y162));exact Z89
            | true=>
             have hlo:=uC (x:=x) Y5 hkk Y162 hpb;rw [show decide (x.text.toList=dK)=false from by rw [ht];decide] at hlo;have HIN:Hid (gB (aS f) x s=(true,fE (aS f) false k0 kb s)):=J (by rw [hka1];exact uA (kN (vS ht)) hlo);have hrm:=HRM.out;rw [hkk,lJ,←hka1] at hrm;have hp0:=k0.size_pos;have hp1:=kb.size_pos;obtain ⟨s1,hs1⟩:=aE (cN (aS f) k0 s);obtain ⟨s2,hs2⟩:=aE (aB s1 17 0 0);obtain ⟨n1,hn1'⟩:=aE s1.code.length;obtain ⟨n2,hn2⟩:=aE s2.code.length;obtain ⟨s2b,hs2b⟩:=aE (aB s2 16 0 0);obtain ⟨n2b,hn2b⟩:=aE s2b.code.length;have y2b:n2b=n2+1:=by rw [←hn2b,←hs2b,aM,hn2]
             obtain ⟨s3,hs3⟩:=aE (toP s2b n1 17 n2b);obtain ⟨s4,hs4⟩:=aE (cN (aS f) kb s3);obtain ⟨s5,hs5⟩:=aE (aB s4 12 0 0);obtain ⟨n4,hn4⟩:=aE s5.code.length;obtain ⟨s6,hs6⟩:=aE (aB s5 16 0 0);obtain ⟨s7,hs7⟩:=aE (toP s6 n4 16 n0);obtain ⟨n5,hn5⟩:=aE s7.code.length;obtain ⟨s8,hs8⟩:=aE (toP s7 n2 16 n5);have HLP:Hid (fE (aS f) false k0 kb s=aB s8 2 0 0):=J (by
              unfold fE;dsimp only;simp only [Bool.false_eq_true,if_false];rw [hs1,hs2,hn1',hn2,hs2b,←y2b,hs3,hs4,hs5,hn4,hs6,HN0.out,hs7,hn5,hs8])
             have ga:=eQ (eJ f) (x:=k0) I s;rw [hs1] at ga;have ga1:=ga.code;have ga2:=ga.lits;have gb:=eQ (eJ f) (x:=kb) I s3;rw [hs4] at gb;have gb1:=gb.code;have gb2:=gb.lits;have x1:s2.code.length=s1.code.length+1:=by rw [←hs2];exact aM _ _ _ _
             have x2:s2.lits.length=s1.lits.length:=by rw [←hs2];rfl
             have x3:s3.code.length=s2.code.length+1:=by rw [←hs3,lU,←hs2b];exact aM _ _ _ _
             have x4:s3.lits.length=s2.lits.length:=by rw [←hs3,←hs2b];rfl
             have x5:s5.code.length=s4.code.length+1:=by rw [←hs5];exact aM _ _ _ _
             have x6:s6.code.length=s5.code.length+1:=by rw [←hs6];exact aM _ _ _ _
             have x7:s7.code.length=s6.code.length:=by rw [←hs7];exact lU _ _ _ _
             have x8:s8.code.length=s7.code.length:=by rw [←hs8];exact lU _ _ _ _
             have t1:Tm s3 s4:=by rw [←hs4];exact eS (jL f) kb s3
             have o1:Hole s2 n1 17:=by rw [←hs2,←hn1'];exact Hole.emit _ _ _ _
             have o1b:Hole s2b n1 17:=by rw [←hs2b];exact o1.tm (Tm.emit _ _ _ _)
             have HO1:=J o1b;have o3:Hole s3 n2 16:=by rw [←hs3,←hn2];exact Hole.to_ (by rw [←hs2b];exact Hole.emit _ _ _ _) I _ _
             have o2:Hole s6 n4 16:=by rw [←hs6,←hn4];exact Hole.emit _ _ _ _
             have o4:Hole s6 n2 16:=Y100;have hne:n4≠n2:=by have:=(o3.tm t1).lt;omega
             have o5:Hole s7 n2 16:=by rw [←hs7];exact o4.to_ hne _ _
             have HO2:=J o2;have HO3:=J o5;have hba:∀{wa W:World},CT w0 P1 w1 wa cb m s→Below wa.heap.size wa W→Calls Tryz.prog 44 #[.pointer (some ⟨cb,0,none⟩),ndV k0 q0] W fun e w'=>e= .returned (.tuple #[])∧CT w0 P1 w1 w' cb m s1:=fun hc hb=>by
              exact Z92
             have hbb:∀{wa W:World},CT w0 P1 w1 wa cb m s3→Below wa.heap.size wa W→Calls Tryz.prog 44 #[.pointer (some ⟨cb,0,none⟩),ndV kb q1] W fun e w'=>e= .returned (.tuple #[])∧CT w0 P1 w1 w' cb m s4:=fun hc hb=>by
              exact Z93
             unfold ndV at hba hbb;have HBA:Hid (∀{wa W:World},CT w0 P1 w1 wa cb m s→Below wa.heap.size wa W→_):=J hba;have HBB:Hid (∀{wa W:World},CT w0 P1 w1 wa cb m s3→Below wa.heap.size wa W→_):=J hbb;have HN1:=J hn1';have HN2:=J hn2;have HN4:=J hn4;have HN5:=J hn5;have HF1:Hid (s1.code.length≤1000000):=J I;have HF:Hid (n0≤1000000∧s3.code.length≤1000000∧s4.code.length≤1000000∧s5.code.length≤1000000∧s8.code.length≤1000000∧n5≤1000000):=J (by have h9:=HN0.out;omega);have HF7:Hid (s7.code.length≤1000000∧s6.code.length≤1000000):=J I;have HN2b:=J hn2b;have HS2b:=J hs2b;have HS2:=J hs2;have HFa:Hid (s2.code.length≤1000000):=J I;have HFb:Hid (n2b≤1000000∧s2b.code.length≤1000000):=J I;have HS3:=J hs3;have HS5:=J hs5;have HS6:=J hs6;have HS7:=J hs7;have HS8:=J hs8;clear hkk hka1 hpb hc1 hn1 hv0 ht hm hbl1 hlo hrm hp0 hp1 hs1 hs2 hs3 hs4 hs5 hs6 hs7 hs8 ga gb t1 o1 o2 o3 o4 o5 hne hba hbb o1b hs2b hn2b hn1' hn2 hn4 hn5;clear ga1 ga2 gb1 gb2 x1 x2 x3 x4 x5 x6 x7 x8 y2b;go_wp2_with (first | (go_at_call 19;(with_reducible refine (bG HX8.out bel 2 0 0 HF.out.2.2.2.2.1).mono ?_);rintro e w' ⟨rfl,HX9⟩;replace HX9:=J HX9) | (go_at_call 45;(with_reducible refine (fV HX7.out bel HO3.out n5 HF.out.2.2.2.2.2 HF7.out.1).mono ?_);rw [HS8.out];rintro e w' ⟨rfl,HX8⟩;replace HX8:=J HX8) | (go_at_call 45;(with_reducible refine (fV HX6.out bel HO2.out n0 HF.out.1 HF7.out.2).mono ?_);rw [HS7.out];rintro e w' ⟨rfl,hx3⟩;have HX7:=J hx3;obtain ⟨_,_,k5⟩:=hx3.1.codeAt HN5.out;clear hx3) | (go_at_call 19;(with_reducible refine (bG HX5.out bel 16 0 0 HF.out.2.2.2.1).mono ?_);rw [HS6.out];rintro e w' ⟨rfl,HX6⟩;replace HX6:=J HX6) | (go_at_call 19;(with_reducible refine (bG HX4.out bel 12 0 0 HF.out.2.2.1).mono ?_);rw [HS5.out];rintro e w' ⟨rfl,hx3⟩;have HX5:=J hx3;obtain ⟨_,_,k5⟩:=hx3.1.codeAt HN4.out;clear hx3) | (go_at_call 44;(with_reducible refine (HBB.out HX3.out bel).mono ?_);rintro e w' ⟨rfl,HX4⟩;replace HX4:=J HX4) | (go_at_call 45;(with_reducible refine (fV HX2b.out bel HO1.out n2b HFb.out.1 HFb.out.2).mono ?_);rw [HS3.out];rintro e w' ⟨rfl,hx3⟩;have HX3:=J hx3;obtain ⟨v0,v1,v2,v3,v4,v5⟩:=HC1.out.same (hx3.1.stat.block b HBL.out);have vbw:b<_:=aN HBL.out hx3.1.stat.size;clear hx3) | (go_at_call 19;(with_reducible refine (bG HX2.out bel 16 0 0 HFa.out).mono ?_);rw [HS2b.out];rintro e w' ⟨rfl,hx3⟩;have HX2b:=J hx3;obtain ⟨_,_,k5⟩:=hx3.1.codeAt HN2b.out;clear hx3) | (go_at_call 19;(with_reducible refine (bG HX1b.out bel 17 0 0 HF1.out).mono ?_);rw [HS2.out];rintro e w' ⟨rfl,hx3⟩;have HX2:=J hx3;obtain ⟨_,_,k5⟩:=hx3.1.codeAt HN2.out;obtain ⟨c0,c1,c2,c3,c4,c5⟩:=HBX.out _ hx3.2;rw [HPK.out] at c5;clear hx3) | (go_at_call 44;(with_reducible refine (HBA.out HXp.out bel).mono ?_);rintro e w' ⟨rfl,hx3⟩;have HX1b:=J hx3;obtain ⟨_,_,k5⟩:=hx3.1.codeAt HN1.out;obtain ⟨c0,c1,c2,c3,c4,c5⟩:=HBX.out _ hx3.2;rw [HPK.out] at c5;clear hx3) | (go_at_call 61;(with_reducible refine (HPL0.out _).mono ?_);rintro e w2 ⟨rfl,hb2⟩;have hxp:=(HX1.out.below HBR.out).below ((bz wr).trans (hb2.mono (bz wr).size));have HXp:=J hxp;obtain ⟨_,_,k5⟩:=hxp.1.codeAt HN0.out;obtain ⟨c0,c1,c2,c3,c4,c5⟩:=HBX.out _ hxp.2;rw [HPK.out] at c5;obtain ⟨e0,e1',e2',e3',e4',e5'⟩:=HC0.out.same (hxp.1.stat.block b HBL.out);have ebw:b<_:=aN HBL.out hxp.1.stat.size;clear hb2 hxp));go_ret;rw [HIN.out,HLP.out];exact ⟨rfl,HH.out.ct.back HBW.out HX9.out HSUB.out⟩
           ·have HIN:Hid (gB (aS f) x s=(false,s)):=J (fM (kN (vS ht)) (uB Y23));exact Z87
          | false=>
           have HIN:Hid (gB (aS f) x s=(false,s)):=J (fM (kN (by
            unfold fJ;rw [if_neg (show ¬x.text.toList=eH from aW q0),if_neg (show ¬x.text.toList=dP from aW q1),if_neg (show ¬x.text.toList=uI from aW q4),if_neg (show ¬x.text.toList=bOr from aW q5),if_neg (show ¬x.text.toList=eH++dP from aW q2),if_neg (show ¬x.text.toList=dP++eH from aW q3)])) (hQ (fun z=>z.elim (aW q6) (aW q7))))
           go_wp2_with fail;go_ret;rw [HIN.out];exact ⟨rfl,HH.out.ct.back HBW.out (HX1.out.below HBR.out) HSUB.out⟩
end Go.Proofs.YtnojndgmgkgnpaaGreat.Rf
