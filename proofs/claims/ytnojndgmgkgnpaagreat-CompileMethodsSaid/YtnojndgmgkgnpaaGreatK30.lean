/- Chapter 10: words and contracts for the law. -/
import Derived.Test.YtnojndgmgkgnpaaGreatK02
import Derived.Deep.RegionLaw
import Derived.Test.YtnojndgmgkgnpaaGreatK13
import Derived.Test.YtnojndgmgkgnpaaGreatK01
import Derived.Deep.Strs
import Derived.ProofKit
import Derived.OpenShut
import Derived.ChangeOld
import Derived.Test.YtnojndgmgkgnpaaGreatK22
import Derived.Test.YtnojndgmgkgnpaaGreatK29
set_option maxRecDepth 100000
set_option maxHeartbeats 40000000
set_option linter.unusedVariables false
set_option linter.unusedSimpArgs false
namespace Go.Proofs.YtnojndgmgkgnpaaGreat
open Go.ChangeShapes Go.WideShapes Go.ChangeAt Go.RowKit Go.Deep Go.Joins Go.Maps
theorem qA:∀(l:List NodT) (k:Nat) (h:k<l.length),NodT.sizes (l.take (k+1))=NodT.sizes (l.take k)+l[k].size
 | x :: l,0,h=>by simp [NodT.sizes]
 | x :: l,k+1,h=>by
  have h9:=qA l k Y111;simp only [List.take_succ_cons,NodT.sizes,List.getElem_cons_succ];omega
theorem lZ:∀(l:List NodT) (k:Nat),NodT.sizes (l.take k)≤NodT.sizes l
 | [],k=>by simp
 | x :: l,0=>by simp [NodT.sizes]
 | x :: l,k+1=>by
  have h9:=lZ l k;simp only [List.take_succ_cons,NodT.sizes];omega
def qF (x:NodT) (most:Nat):Int:=if x.size≤most then (x.size:Int) else -1
theorem qB {x:NodT} {most:Nat} (h:x.size≤most):qF x most=(x.size:Int):=if_pos h
theorem oO {x:NodT} {most:Nat} (h:¬x.size≤most):qF x most= -1:=if_neg h
theorem few7_any {w:World} {D:Nat→Prop} {x:NodT} {q:NS} (h:IsNd w D x q):∀most:Nat,1≤most→most≤1000→∀w1,Below w.heap.size w w1→Calls Tryz.prog 13 #[ndV x q,.int .i64 (most:Int)] w1 fun e w'=>e= .returned (.int .i64 (qF x most))∧Below w1.heap.size w1 w':=by
 induction h with
 | node x q Q h1 h2 h3 h4 h5 ih=>
 intro most hm1 hm2 w1 hb;have HE:Hid (x.size=1+NodT.sizes x.kids):=J (NodT.size_kids x);have HTK:Hid (∀k (h:k<x.kids.length),NodT.sizes (x.kids.take (k+1))=NodT.sizes (x.kids.take k)+x.kids[k].size):=J (fun k h=>qA _ _ h);have HTE:Hid (∀k,NodT.sizes (x.kids.take k)≤NodT.sizes x.kids):=J (fun k=>lZ _ _);have HTL:Hid (NodT.sizes (x.kids.take x.kids.length)=NodT.sizes x.kids):=J (by rw [List.take_length]);have HIH:Hid (∀i (h:i<x.kids.length),∀m:Nat,1≤m→m≤1000→∀w2,Below w1.heap.size w1 w2→Calls Tryz.prog 13 #[ndV x.kids[i] (Q i),.int .i64 (m:Int)] w2 fun e w'=>e= .returned (.int .i64 (qF x.kids[i] m))∧Below w2.heap.size w2 w'):=J (fun i h m a1 a2 w2 hb2=>ih i h m a1 a2 w2 (hb.trans (hb2.mono hb.size)));have HK:Hid (∀i (h:i<x.kids.length),∃b off,q.pk=some ⟨b,off,none⟩∧b<w1.heap.size∧Cells6 w1 b (off+i*6) x.kids[i] (Q i)):=J (fun i hi=>by
  obtain ⟨b,off,e,k1,k2,k3⟩:=h4 i hi;exact ⟨b,off,e,aN k1 hb.size,k3.same (hb.block b k1)⟩)
 have hkl:=h1.klen;have hkm:x.kids.length≤9223372036854775807:=by unfold maxLen at*;omega
 unfold ndV;obtain ⟨nn,hnn⟩:=aE x.names.length;obtain ⟨nt,hnt⟩:=aE x.temps.length;obtain ⟨nk,hnk⟩:=aE x.kids.length;obtain ⟨xk,hxk⟩:=aE x.kind;obtain ⟨xt,hxt⟩:=aE x.text;obtain ⟨xn,hxn⟩:=aE x.num;have HNK:=J hnk;obtain ⟨pk,hpk⟩:=aE q.pk;rw [hpk] at HK ⊢;rw [hnk] at HTL hkm;rw [hnn,hnt,hnk,hxk,hxt,hxn];clear h1 h2 h3 h4 h5 ih hkl hnn hnt hnk hxk hxt hxn hb hpk;go_enter Tryz.func13,Tryz.ntmps13
 go_upto_region 1 with fail
 have hbw:Below w1.heap.size w1 (w1.alloc (.cells #[.int .i64 xk,.string xt,.int .i64 xn,.slice q.pn nn q.cn,.slice q.pt nt q.ct,.slice pk nk q.ck] 25)):=bel;have hbx:=heap_alloc_new w1 (.cells #[.int .i64 xk,.string xt,.int .i64 xn,.slice q.pn nn q.cn,.slice q.pt nt q.ct,.slice pk nk q.ck] 25);obtain ⟨W,hW⟩:∃W,w1.alloc (.cells #[.int .i64 xk,.string xt,.int .i64 xn,.slice q.pn nn q.cn,.slice q.pt nt q.ct,.slice pk nk q.ck] 25)=W:=⟨_,rfl⟩;rw [hW] at hbw hbx ⊢;obtain ⟨a0,a1,a2,a3,a4,a5⟩:=cc6 (hbx);have HBW:=J hbw;have HBX:=J hbx;clear hW hbw hbx;go_wp2_with fail
 go_loopw [5,6] (fun n i wr=>∃k:Nat,i= .int .i64 k∧k≤nk∧n= .int .i64 ((1+NodT.sizes (x.kids.take k):Nat):Int)∧1+NodT.sizes (x.kids.take k)≤most∧Below W.heap.size W wr) (fun _ i _=>nk-(intOf i).toNat)
 case atStart=>exact ⟨0,rfl,Nat.zero_le _,by simp only [List.take_zero,NodT.sizes];go_num,by simp only [List.take_zero,NodT.sizes];omega,Below.refl _ _⟩
 case round=>
  obtain ⟨k,rfl,hk,rfl,hum,hbr⟩:=hrel;have HB:=J hbr;have ha9:=(hbr.block _ (aA HBX.out)).trans HBX.out;clear a0 a1 a2 a3 a4 a5;obtain ⟨a0,a1,a2,a3,a4,a5⟩:=cc6 (ha9);clear ha9;obtain ⟨u,hu⟩:=aE (1+NodT.sizes (x.kids.take k));rw [hu] at hum ⊢;have HU:=J hu;clear hu
  by_cases hlt:k<nk
  ·have d1:=aD hlt;have d2:=aT hlt;have h1:k<x.kids.length:=by have:=HNK.out;omega
   obtain ⟨b,off,hp,hlb,hc⟩:=HK.out k h1;have hc2:=hc.same ((HBW.out.trans (hbr.mono HBW.out.size)).block b hlb);obtain ⟨y,hy⟩:=aE (x.kids[k]);obtain ⟨qy,hqy⟩:=aE (Q k);rw [hy,hqy] at hc2;have hbb:b<wr.heap.size:=aN hlb (HBW.out.trans (hbr.mono HBW.out.size)).size;subst hp;obtain ⟨e0,e1,e2,e3,e4,e5⟩:=hc2;have g0:(0:Int)≤(k:Int):=I;have g1:(k:Int)<(nk:Int):=I;have htk:=HTK.out k h1;have hte:=HTE.out (k+1);have hih:=HIH.out k h1;rw [hy] at htk;rw [hy,hqy] at hih;have HTK2:Hid (1+NodT.sizes (x.kids.take (k+1))=u+y.size):=J (by have:=HU.out;omega);have HLE2:Hid (u+y.size≤x.size):=J (by have:=HU.out;have:=HE.out;omega);have hyp:=y.size_pos;clear hy hqy hc htk hte
   by_cases hmu:most≤u
   ·have x1:decide (most≤u)=true:=aD hmu;have x2:decide ((most:Int)≤(u:Int))=true:=aD I;have HNO:Hid (qF x most= -1):=J (oO (by have:=HLE2.out;omega));clear hmu hih;go_wp2_with fail;go_ret;exact ⟨by rw [HNO.out];rfl,HBW.out.trans (HB.out.mono HBW.out.size)⟩
   ·have x1:decide (most≤u)=false:=aK hmu;have x2:decide ((most:Int)≤(u:Int))=false:=aK I;obtain ⟨mm,hmm⟩:∃m:Nat,most=u+m:=⟨most-u,by omega⟩;have hsub:IntKind.i64.wrap ((most:Int)-(u:Int))=(mm:Int):=by rw [IntWalk.i64_in _ I];omega
    obtain ⟨v,hv⟩:=aE (qF y mm);have hW:∀W',Below wr.heap.size wr W'→Calls Tryz.prog 13 #[ndV y qy,.int .i64 (mm:Int)] W' fun e w'=>e= .returned (.int .i64 v)∧Below wr.heap.size wr w':=fun W' hW=>by
     rw [←hv];exact (hih mm I I W' (HBW.out.trans ((hbr.trans (hW.mono hbr.size)).mono HBW.out.size))).mono (fun e w' ⟨he,hb⟩=>⟨he,hW.trans (hb.mono hW.size)⟩)
    unfold ndV at hW;have HW:=J hW;have HMM:=J hmm
    by_cases hys:y.size≤mm
    ·rw [qB hys] at hv;subst hv;obtain ⟨ys,hysz⟩:=aE y.size;rw [hysz] at HW HTK2 hys hyp;have x3:decide ((ys:Int)<0)=false:=aK I;have hsum:IntKind.i64.wrap ((u:Int)+(ys:Int))=(u:Int)+(ys:Int):=IntWalk.i64_in _ I;have hum3:u+ys≤most:=I;have HUM:=J hum3;clear hmu hih hysz hW hum3 hmm;go_wp2_with (first | (go_at_call 13;(with_reducible refine (HW.out _ bel).mono ?_);rintro e w3 ⟨rfl,HB3⟩;replace HB3:=J HB3));go_roundw
     case rel=>
      refine ⟨k+1,by go_num,hlt,?_,by rw [HTK2.out];exact HUM.out,HB.out.trans (HB3.out.mono HB.out.size)⟩;rw [HTK2.out]
      go_num
     case measure=>simp [intOf];omega
    ·rw [oO hys] at hv;subst hv;have HNO:Hid (qF x most= -1):=J (oO (by have:=HLE2.out;omega));clear hmu hih hW hys hmm;go_wp2_with (first | (go_at_call 13;(with_reducible refine (HW.out _ bel).mono ?_);rintro e w3 ⟨rfl,HB3⟩;replace HB3:=J HB3));go_ret;exact ⟨by rw [HNO.out];rfl,HBW.out.trans ((HB.out.trans (HB3.out.mono HB.out.size)).mono HBW.out.size)⟩
  ·have hkn:k=nk:=I;have d1:=aK hlt;have d2:=aF hlt;have HUE:Hid (x.size=u):=J (by have h1:=HE.out;have h2:=HTL.out;have h3:=HU.out;rw [hkn] at h3;omega);have x1:decide (most<u)=false:=aK I;have x2:decide ((most:Int)<(u:Int))=false:=aK I;have HYE:Hid (qF x most=(u:Int)):=J (by rw [←HUE.out];exact qB (by have:=HUE.out;omega));clear hlt;subst hkn;go_wp2_with fail;go_ret;exact ⟨by rw [HYE.out];rfl,HBW.out.trans (HB.out.mono HBW.out.size)⟩
theorem Z104 {P:Prop} (h:P:=by
 go_wp2_with (first | (go_at_call 13;(with_reducible refine (HFV.out _ bel).mono ?_);rintro e w2 ⟨rfl,hb2⟩;have HB2:Hid (Below W.heap.size W w2):=J ((bz W).trans (hb2.mono (bz W).size));clear hb2;have hx9:=(HB2.out.block _ (aA HBX.out)).trans HBX.out;obtain ⟨z0,z1,z2,z3,z4,z5⟩:=cc6 (hx9);clear hx9));go_ret;exact ⟨false,rfl,fun z=>Y124,HBW.out.trans (HB2.out.mono HBW.out.size)⟩):P:=h
theorem zA {w:World} {D:Nat→Prop} {x:NodT} {q:NS} (h:IsNd w D x q):∀w1,Below w.heap.size w w1→Calls Tryz.prog 5 #[ndV x q] w1 fun e w'=>∃b:Bool,e= .returned (.bool b)∧(b=true→x.size≤80)∧Below w1.heap.size w1 w':=by
 have h0:=h
 induction h with
 | node x q Q h1 h2 h3 h4 h5 ih=>
 intro w1 hb;have HFW:Hid (∀W,Below w1.heap.size w1 W→Calls Tryz.prog 13 #[ndV x q,.int .i64 80] W fun e w'=>e= .returned (.int .i64 (qF x 80))∧Below W.heap.size W w'):=J (fun W hW=>few7_any h0 80 Y3 Y3 W (hb.trans (hW.mono hb.size)));have HTL:Hid (NodT.sizes (x.kids.take x.kids.length)=NodT.sizes x.kids):=J (by rw [List.take_length]);have HIH:Hid (∀i (h:i<x.kids.length),∀w2,Below w1.heap.size w1 w2→Calls Tryz.prog 5 #[ndV x.kids[i] (Q i)] w2 fun e w'=>∃b:Bool,e= .returned (.bool b)∧(b=true→x.kids[i].size≤80)∧Below w2.heap.size w2 w'):=J (fun i h w2 hb2=>ih i h (h5 i h) w2 (hb.trans (hb2.mono hb.size)));have HK:Hid (∀i (h:i<x.kids.length),∃b off,q.pk=some ⟨b,off,none⟩∧b<w1.heap.size∧Cells6 w1 b (off+i*6) x.kids[i] (Q i)):=J (fun i hi=>by
  obtain ⟨b,off,e,k1,k2,k3⟩:=h4 i hi;exact ⟨b,off,e,aN k1 hb.size,k3.same (hb.block b k1)⟩)
 obtain ⟨fv,hfv⟩:=aE (qF x 80);rw [hfv] at HFW;unfold ndV at HFW;have hkl:=h1.klen;have hkm:x.kids.length≤9223372036854775807:=by unfold maxLen at*;omega
 unfold ndV;obtain ⟨nn,hnn⟩:=aE x.names.length;obtain ⟨nt,hnt⟩:=aE x.temps.length;obtain ⟨nk,hnk⟩:=aE x.kids.length;obtain ⟨xk,hxk⟩:=aE x.kind;obtain ⟨xt,hxt⟩:=aE x.text;obtain ⟨xn,hxn⟩:=aE x.num;have HNK:=J hnk;obtain ⟨pk,hpk⟩:=aE q.pk;rw [hpk] at HK ⊢;rw [hnk] at HTL hkm;rw [hnn,hnt,hnk,hxk,hxt,hxn];rw [hnn,hnt,hnk,hxk,hxt,hxn,hpk] at HFW;clear h0 h1 h2 h3 h4 h5 ih hkl hnn hnt hnk hxk hxt hxn hb hpk
 by_cases hsz:x.size≤80
 ·rw [qB hsz] at hfv;have HSZ:=J hsz;obtain ⟨xs,hxs⟩:=aE x.size;rw [hxs] at hfv;subst hfv;have x1:decide ((xs:Int)<0)=false:=aK I;clear hsz hxs;go_enter Tryz.func5,Tryz.ntmps5
  go_upto_region 1 with fail
  have hbw:Below w1.heap.size w1 (w1.alloc (.cells #[.int .i64 xk,.string xt,.int .i64 xn,.slice q.pn nn q.cn,.slice q.pt nt q.ct,.slice pk nk q.ck] 25)):=bel;have hbx:=heap_alloc_new w1 (.cells #[.int .i64 xk,.string xt,.int .i64 xn,.slice q.pn nn q.cn,.slice q.pt nt q.ct,.slice pk nk q.ck] 25);obtain ⟨W,hW⟩:∃W,w1.alloc (.cells #[.int .i64 xk,.string xt,.int .i64 xn,.slice q.pn nn q.cn,.slice q.pt nt q.ct,.slice pk nk q.ck] 25)=W:=⟨_,rfl⟩;rw [hW] at hbw hbx ⊢;obtain ⟨a0,a1,a2,a3,a4,a5⟩:=cc6 (hbx);have HBW:=J hbw;have HBX:=J hbx;clear hW hbw hbx;have HFV:Hid (∀W',Below W.heap.size W W'→Calls Tryz.prog 13 #[.agg #[.int .i64 xk,.string xt,.int .i64 xn,.slice q.pn nn q.cn,.slice q.pt nt q.ct,.slice pk nk q.ck],.int .i64 80] W' fun e w'=>e= .returned (.int .i64 (xs:Int))∧Below W'.heap.size W' w'):=J (fun W' h=>HFW.out W' (HBW.out.trans (h.mono HBW.out.size)));clear HFW
  by_cases c1:30<nn
  ·have y1:=aD c1;have y2:decide ((30:Int)<(nn:Int))=true:=aD I;clear c1;exact Z104
  have y1:=aK c1;have y2:decide ((30:Int)<(nn:Int))=false:=aK I
  by_cases c2:30<nt
  ·have y3:=aD c2;have y4:decide ((30:Int)<(nt:Int))=true:=aD I;clear c1 c2;exact Z104
  have y3:=aK c2;have y4:decide ((30:Int)<(nt:Int))=false:=aK I;clear c1 c2;go_wp2_with (first | (go_at_call 13;(with_reducible refine (HFV.out _ bel).mono ?_);rintro e w2 ⟨rfl,hb2⟩;have HB2:Hid (Below W.heap.size W w2):=J ((bz W).trans (hb2.mono (bz W).size));clear hb2;have hx9:=(HB2.out.block _ (aA HBX.out)).trans HBX.out;obtain ⟨z0,z1,z2,z3,z4,z5⟩:=cc6 (hx9);clear hx9))
  go_loopw [3] (fun i wr=>∃k:Nat,i= .int .i64 k∧k≤nk∧Below W.heap.size W wr) (fun i _=>nk-(intOf i).toNat)
  case atStart=>exact ⟨0,rfl,Nat.zero_le _,HB2.out⟩
  case round=>
   obtain ⟨k,rfl,hk,hbr⟩:=hrel;have HB:=J hbr;have ha9:=(hbr.block _ (aA HBX.out)).trans HBX.out;clear a0 a1 a2 a3 a4 a5 z0 z1 z2 z3 z4 z5;obtain ⟨a0,a1,a2,a3,a4,a5⟩:=cc6 (ha9);clear ha9
   by_cases hlt:k<nk
   ·have d1:=aD hlt;have d2:=aT hlt;have h1:k<x.kids.length:=by have:=HNK.out;omega
    obtain ⟨b,off,hp,hlb,hc⟩:=HK.out k h1;have hc2:=hc.same ((HBW.out.trans (hbr.mono HBW.out.size)).block b hlb);obtain ⟨y,hy⟩:=aE (x.kids[k]);obtain ⟨qy,hqy⟩:=aE (Q k);rw [hy,hqy] at hc2;have hbb:b<wr.heap.size:=aN hlb (HBW.out.trans (hbr.mono HBW.out.size)).size;subst hp;obtain ⟨e0,e1,e2,e3,e4,e5⟩:=hc2;have g0:(0:Int)≤(k:Int):=I;have g1:(k:Int)<(nk:Int):=I;have hih:=HIH.out k h1;rw [hy,hqy] at hih;have hW:∀W',Below wr.heap.size wr W'→Calls Tryz.prog 5 #[ndV y qy] W' fun e w'=>∃b:Bool,e= .returned (.bool b)∧Below wr.heap.size wr w':=fun W' hW=>(hih W' (HBW.out.trans ((hbr.trans (hW.mono hbr.size)).mono HBW.out.size))).mono (fun e w' ⟨b,he,_,hb⟩=>⟨b,he,hW.trans (hb.mono hW.size)⟩)
    unfold ndV at hW;have HW:=J hW;clear hy hqy hc hih hW;go_wp2_with (first | (go_at_call 5;(with_reducible refine (HW.out _ bel).mono ?_);rintro e w3 ⟨bb,rfl,hb3⟩;have HB3:=J hb3;clear hb3))
    ·go_ret;exact ⟨false,rfl,fun z=>Y124,HBW.out.trans ((HB.out.trans (HB3.out.mono HB.out.size)).mono HBW.out.size)⟩
    ·go_roundw
     case rel=>exact ⟨k+1,by go_num,hlt,HB.out.trans (HB3.out.mono HB.out.size)⟩
     case measure=>simp [intOf];omega
   ·have hkn:k=nk:=I;have d1:=aK hlt;have d2:=aF hlt;clear hlt;subst hkn;go_wp2_with fail;go_ret;exact ⟨true,rfl,fun _=>HSZ.out,HBW.out.trans (HB.out.mono HBW.out.size)⟩
 ·rw [oO hsz] at hfv;subst hfv;clear hsz;go_enter Tryz.func5,Tryz.ntmps5;go_wp2_with (first | (go_at_call 13;(with_reducible refine (HFW.out _ bel).mono ?_);rintro e w2 ⟨rfl,hb2⟩;have HB2:Hid (Below w1.heap.size w1 w2):=J ((bz w1).trans (hb2.mono (bz w1).size));clear hb2));go_ret;exact ⟨false,rfl,fun z=>Y124,HB2.out⟩
def nJ (s:ByteArray):ByteArray:=if 30<s.size then s.extract 0 30 else s
theorem xH (s:ByteArray):(nJ s).size≤30:=by
 unfold nJ
 split
 ·simp;omega
 ·omega
def sH (l:List ByteArray):List ByteArray:=(l.take 12).map nJ
theorem uJ {l:List ByteArray} {k:Nat} (h:k<l.length) {s:ByteArray} (hs:l[k]=s):(l.take (k+1)).map nJ=(l.take k).map nJ++[nJ s]:=by
 rw [List.take_succ_eq_append_getElem h,List.map_append,hs];rfl
theorem xI {l:List ByteArray} {k:Nat} (h:k=l.length∨k=12) (hk:k≤12):(l.take k).map nJ=sH l:=by
 unfold sH
 rcases h with e | e
 ·rw [e,List.take_length,List.take_of_length_le I]
 ·rw [e]
theorem uK {w:World} {base n c:Nat} {A:Option Addr} {l:List ByteArray} (h:w.ownsRow base 9 1 (.slice A n c) n (l.map .string)) (hz:∀s,s∈l→s.size≤bL):Strs w (fun b=>base≤b) A l:=fun i hi=>by
 have hl:=h.1;rw [List.length_map] at hl
 rcases h.2 with ⟨_,h0⟩ | ⟨g,cap,cur,hv,hg,hh,h1,h2,_⟩
 ·omega
 ·cases hv
  refine ⟨g,0,rfl,aA hh,hg,?_,hz _ (List.getElem_mem hi)⟩;rw [Nat.zero_add,World.ownsRow.cellAt h i I];simp [hi]
theorem Z105 {P:Prop} (h:P:=by
 subst e9;clear h30 ht;go_wp2_with (first | (at_builtin;refine gP rfl _ _ rfl w.heap.size _ _ _ rfl (HO6.out) rfl (heap_alloc_new _ _) I (by have:=HB.out.size;rw [World.size_alloc];omega) ?_;intro v7 w7 hown ht7;have HO7:=J hown;have HT7:=J ht7;obtain ⟨A7,c7,hv7,_⟩:=aX hown;subst hv7;clear hown ht7));go_roundw
 case rel=>
  refine ⟨k+1,A7,c7,rfl,by go_num,hlt,by omega,?_,HB.out.trans ((ba |>.mono HB.out.size).trans (HT7.out.below (fun j hj=>(World.ownsRow.lt HO6.out j hj).1) (by have:=HB.out.size;rw [World.size_alloc];omega)))⟩;rw [uJ HLN.out HLS.out,HCT.out];exact HO7.out
 case measure=>simp [intOf];omega):P:=h
theorem Z106 {P:Prop} (h:P:=by
 go_wp2_with fail;go_ret;have ho:=HO.out;have hc:=aX ho;obtain ⟨_,_,e,h1,h2⟩:=hc
 cases e
 rw [HF.out] at ho;exact ⟨_,_,_,rfl,by have:=ho.1;rw [List.length_map,Nat.mul_one] at this;exact this,h1,h2,uK ho (fun s hs=>by
  obtain ⟨y,_,rfl⟩:=List.mem_map.1 hs;have:=xH y
  show _≤9223372036854775807
  omega),HB.out⟩):P:=h
theorem few_any {w:World} {D:Nat→Prop} {p:Option Addr} {n c:Nat} {l:List ByteArray} (hs:Strs w D p l) (hl:l.length=n) (hn:n≤9223372036854775807):
  Calls Tryz.prog 7 #[.slice p n c] w fun e w'=>∃A m c',e= .returned (.slice A m c')∧(sH l).length=m∧m≤c'∧c'≤maxLen∧Strs w' (fun b=>w.heap.size≤b) A (sH l)∧Below w.heap.size w w':=by
 have HS:=J hs;have HL:=J hl;clear hs hl;go_enter Tryz.func7,Tryz.ntmps7;go_wp2_with fail
 go_loopw [3,4] (fun o i wr=>∃(k:Nat) (A:Option Addr) (c':Nat),o= .slice A k c'∧i= .int .i64 k∧k≤n∧k≤12∧wr.ownsRow w.heap.size 9 1 (.slice A k c') k (((l.take k).map nJ).map .string)∧Below w.heap.size w wr) (fun _ i _=>12-(intOf i).toNat)
 case atStart=>exact ⟨0,none,0,rfl,rfl,Nat.zero_le _,Nat.zero_le _,World.ownsRow_nil _ _ _ _,Below.refl _ _⟩
 case round=>
  obtain ⟨k,A,c',rfl,rfl,hk,hk2,hown,hbr⟩:=hrel;have HO:=J hown;have HB:=J hbr
  by_cases hlt:k<n
  ·have d1:=aD hlt;have d2:=aT hlt
   by_cases h12:k<12
   ·have d3:=aD h12;have d4:decide ((k:Int)<12)=true:=aD I;have hln:k<l.length:=Y50;obtain ⟨b,off,rfl,hbl,_,hc,hsz⟩:=HS.out k hln;obtain ⟨s,hls⟩:=aE (l[k]);rw [hls] at hc hsz;have hcw:wr.cell? ⟨b,off+k,none⟩=some (.string s):=(World.cell?_of_block (hbr.block b hbl)).trans hc;have hbw:b<wr.heap.size:=aN hbl hbr.size;have HLN:=J hln;have HLS:=J hls;have g0:(0:Int)≤(k:Int):=I;have g1:(k:Int)<(n:Int):=I;obtain ⟨t,ht⟩:=aE (nJ s);have HCT:=J ht;have HO6:Hid ((wr.alloc (.cells #[.string t] 9)).ownsRow w.heap.size 9 1 (.slice A k c') k (((l.take k).map nJ).map .string)):=J (aM hown Y80 (fun j hj=>(ba |>.block _ (World.ownsRow.lt hown j hj).2)));clear hown hbr hc hls
    by_cases h30:30<s.size
    ·have x1:=aD h30;have x2:decide ((30:Int)<(s.size:Int))=true:=aD I;have b1:(30:Int)≤(s.size:Int):=I;have b2:30≤s.size:=I;have e9:s.extract 0 30=t:=by rw [←ht];unfold nJ;rw [if_pos h30]
     exact Z105
    ·have x1:=aK h30;have x2:decide ((30:Int)<(s.size:Int))=false:=aK I;have e9:s=t:=by rw [←ht];unfold nJ;rw [if_neg h30]
     exact Z105
   ·have hk3:k=12:=I;have d3:=aK h12;have d4:decide ((k:Int)<12)=false:=aK I;have HF:Hid ((l.take k).map nJ=sH l):=J (xI (.inr hk3) hk2);clear h12 hlt hk3 hown hbr;exact Z106
  ·have hkn:k=n:=I;have d1:=aK hlt;have d2:=aF hlt;have HF:Hid ((l.take k).map nJ=sH l):=J (xI (.inl (by rw [HL.out];exact hkn)) hk2);clear hlt hkn hown hbr;exact Z106
end Go.Proofs.YtnojndgmgkgnpaaGreat
namespace Go.Proofs.YtnojndgmgkgnpaaGreat
open Go.ChangeShapes Go.WideShapes Go.ChangeAt Go.RowKit Go.Deep Go.Joins
section
variable {H:Type} {enc:TypeId×Value→H} {P:Program} {w:World} {base b0:Nat} {spare:Nat→Bool} {held:Bool} {r:Go.Reach}
theorem qG {t e:TypeId} {fs:Array Field} {fuel:Nat} {cs:List Value} {x:DataW H×List MemPlace} (ht:P.underlying t=some (.slice e)) (he:P.underlying e=some (.struct fs))
  (hone:oneCellFields P fs=true) (hC:P.cellsOf e=fs.size) (hs:0<fs.size) (h:DataW.trod enc P w base spare held fuel t cs=some x):
  ∃A n c F,cs=[.slice A n c]∧n≤c∧c≤maxLen∧Row w A n fs.size F∧
   ∀i,i<n→∃m,m<fuel∧∀(j:Nat) (f:Field),fs[j]? =some f→∃y,DataW.trod enc P w base spare held m f.type [F i j]=some y:=by
 rcases DataW.trod_slice ht h with ⟨rfl,_⟩ | ⟨a,len,cap,elems,rest,n,hfu,rfl,rfl,hb,hl,hm,hlen,hel,hsp,hns⟩
 ·exact ⟨none,0,0,fun _ _=>undef,rfl,Nat.le_refl _,by unfold maxLen;omega,fun h=>absurd h I,fun i hi=>absurd hi I⟩
 ·have key:∀i,i<len→∃m,m<fuel∧∀(j:Nat) (f:Field),fs[j]? =some f→∃v y,w.cell? (a.add (i*fs.size+j))=some v∧DataW.trod enc P w base spare held m f.type [v]=some y:=by
   intro i hil;have h1:=hel i hil;rw [List.getElem?_eq_getElem I] at h1;obtain ⟨cs',hc,ht'⟩:=Option.bind_eq_some_iff.1 h1;rw [hC] at hc;obtain ⟨ys,n',hfu',hy,hlen',hyl,hf⟩:=DataW.trod_struct he ht';refine ⟨n',by omega,fun j f hj=>?_⟩;obtain ⟨_,hcl,hat⟩:=World.cells?_some hc;obtain ⟨ho,hk⟩:=hone_of hone j f hj;have hjl:j<fs.size:=(Array.getElem?_eq_some_iff.1 hj).1;have hcell:=hat j hjl;have hv:cs'[j]? =some (cs'[j]'I):=List.getElem?_eq_getElem I;have h1:=hf j f hj;rw [ho,hk] at h1;have hone':(cs'.drop j).take 1=[cs'[j]'I]:=by
    rw [List.drop_eq_getElem_cons I]
    rfl
   rw [hone'] at h1;have hys:ys[j]? =some (ys[j]'I):=List.getElem?_eq_getElem I;refine ⟨_,_,?_,h1.trans hys⟩;rw [←Go.Deep.add_add,hcell,hv]
  by_cases h0:0<len
  ·obtain ⟨_,_,hk0⟩:=key 0 h0;obtain ⟨v,_,hv,_⟩:=hk0 0 fs[0] (by simp [hs]);have hspot:a.spot=none:=by
    have:=World.cell?_spot hv;simpa [Addr.add] using this
   have hblk:=jE hv;obtain ⟨b,off,spot⟩:=a;subst hspot;have hblk':b<w.heap.size:=by simpa [Addr.add] using hblk
   refine ⟨some ⟨b,off,none⟩,len,cap,fun i j=>(w.cell? ⟨b,off+i*fs.size+j,none⟩).getD undef,rfl,hl,hm,fun _=>⟨b,off,rfl,hblk',?_⟩,?_⟩
   ·intro i hil j hj;obtain ⟨_,_,hk⟩:=key i hil;obtain ⟨v,y,hcv,_⟩:=hk j fs[j] (by simp [hj]);rw [fX,←Nat.add_assoc] at hcv;simp [hcv]
   ·intro i hil;obtain ⟨m,hm',hk⟩:=key i hil;refine ⟨m,hm',fun j f hj=>?_⟩;obtain ⟨v,y,hcv,hty⟩:=hk j f hj;rw [fX,←Nat.add_assoc] at hcv;exact ⟨y,by simpa [hcv] using hty⟩
  ·have hl0:len=0:=I;subst hl0;exact ⟨some a,0,cap,fun _ _=>undef,rfl,hl,hm,fun h=>absurd h I,fun i hi=>absurd hi I⟩
theorem mP {fuel:Nat} {cs:List Value} {x:DataW H×List MemPlace} (h:DataW.trod enc Tryz.prog w base spare held fuel 22 cs=some x):
  ∃A c,∃l:List ByteArray,cs=[.slice A l.length c]∧l.length≤c∧c≤maxLen∧Strs w (fun _=>True) A l:=by
 rcases Go.Deep.open_strs Tryz.underlying22 Tryz.underlying9 Y31 h with ⟨rfl,_⟩ | ⟨a,len,cap,m,Sx,rfl,hb,hl,hm,hmm,rfl,hx⟩
 ·exact ⟨none,0,[],rfl,Nat.le_refl _,Nat.zero_le _,fun i hi=>absurd hi Y12⟩
 ·have hlm:len≤m:=by rw [hmm];split <;> omega
  have hlen:((List.range len).map Sx).length=len:=Y12;refine ⟨some a,cap,(List.range len).map Sx,by rw [hlen],by rw [hlen];exact hl,hm,fun i hi=>?_⟩;rw [hlen] at hi;obtain ⟨hc,hz⟩:=hx i I;obtain ⟨hc0,_⟩:=hx 0 I;have hspot:a.spot=none:=by
   have:=World.cell?_spot hc0;simpa [Addr.add] using this
  have hblk:=jE hc0;obtain ⟨b,off,spot⟩:=a;subst hspot;rw [fX] at hc;have e:((List.range len).map Sx)[i]'(by rw [hlen];exact hi)=Sx i:=Y12;refine ⟨b,off,rfl,by simpa [Addr.add] using hblk,trivial,by rw [e];exact hc,?_⟩;rw [e];unfold maxLen at hz
  show _≤9223372036854775807
  omega
theorem in64 {x:Int} (h:(Lit.int .i64 x).wf=true):InI x:=by
 have:=bounds_i64 h;exact ⟨by omega,by omega⟩
theorem xJ {m0 m1 m2 m3 m4:Nat} {F0 F1 F2 F3 F4 F5:Value} {y0 y1 y2 y3 y4:DataW H×List MemPlace} (u0:DataW.trod enc Tryz.prog w base spare held m0 3 [F0]=some y0) (u1:DataW.trod enc Tryz.prog w base spare held m1 9 [F1]=some y1) (u2:DataW.trod enc Tryz.prog w base spare held m2 3 [F2]=some y2) (u3:DataW.trod enc Tryz.prog w base spare held m3 22 [F3]=some y3) (u4:DataW.trod enc Tryz.prog w base spare held m4 22 [F4]=some y4)
  (u5:∃A c,∃ks:List NodT,∃Q:Nat→NS,[F5]=[Value.slice A ks.length c]∧ks.length≤c∧c≤maxLen∧(∀i (h:i<ks.length),∃b off,A=some ⟨b,off,none⟩∧b<w.heap.size∧True∧Cells6 w b (off+i*6) ks[i] (Q i))∧∀i (h:i<ks.length),IsNd w (fun _=>True) ks[i] (Q i)):
  ∃x q,F0= .int .i64 x.kind∧F1= .string x.text∧F2= .int .i64 x.num∧F3= .slice q.pn x.names.length q.cn∧F4= .slice q.pt x.temps.length q.ct∧F5= .slice q.pk x.kids.length q.ck∧IsNd w (fun _=>True) x q:=by
 obtain ⟨e0,w0⟩:=qI Tryz.underlying3 u0;obtain ⟨e1,w1⟩:=rN Tryz.underlying9 u1;obtain ⟨e2,w2⟩:=qI Tryz.underlying3 u2;obtain ⟨A3,c3,l3,e3,a3,b3,s3⟩:=mP u3;obtain ⟨A4,c4,l4,e4,a4,b4,s4⟩:=mP u4;obtain ⟨A5,c5,ks,Q,e5,a5,b5,h4,h5⟩:=u5;refine ⟨.node (intOf F0) (wH F1) (intOf F2) l3 l4 ks,⟨A3,c3,A4,c4,A5,c5⟩,e0,e1,e2,(by simpa using e3:F3= .slice A3 l3.length c3),(by simpa using e4:F4= .slice A4 l4.length c4),(by simpa using e5:F5= .slice A5 ks.length c5),?_⟩;refine .node _ _ Q ⟨in64 w0,in64 w2,?_,⟨a3,b3⟩,⟨a4,b4⟩,⟨a5,b5⟩⟩ s3 s4 h4 h5
 show (wH F1).size≤9223372036854775807
 unfold maxLen at w1;omega
theorem zB:∀(fuel:Nat) {cs:List Value} {x:DataW H×List MemPlace},DataW.trod enc Tryz.prog w base spare held fuel 23 cs=some x→
  ∃A c,∃ks:List NodT,∃Q:Nat→NS,cs=[Value.slice A ks.length c]∧ks.length≤c∧c≤maxLen∧(∀i (h:i<ks.length),∃b off,A=some ⟨b,off,none⟩∧b<w.heap.size∧True∧Cells6 w b (off+i*6) ks[i] (Q i))∧∀i (h:i<ks.length),IsNd w (fun _=>True) ks[i] (Q i):=by
 intro fuel
 induction fuel using Nat.strongRecOn with
 | ind fuel ih=>
  intro cs x h;obtain ⟨A,n,c,F,rfl,hl,hm,hR,hf⟩:=qG Tryz.underlying23 Tryz.underlying25 Y31 Y31 Y3 h;have hex:∀i,∃(x:NodT) (q:NS),i<n→F i 0= .int .i64 x.kind∧F i 1= .string x.text∧F i 2= .int .i64 x.num∧F i 3= .slice q.pn x.names.length q.cn∧F i 4= .slice q.pt x.temps.length q.ct∧F i 5= .slice q.pk x.kids.length q.ck∧IsNd w (fun _=>True) x q:=by
   intro i
   by_cases hi:i<n
   ·obtain ⟨m,hm',hk⟩:=hf i hi;obtain ⟨_,u0⟩:=hk 0 _ rfl;obtain ⟨_,u1⟩:=hk 1 _ rfl;obtain ⟨_,u2⟩:=hk 2 _ rfl;obtain ⟨_,u3⟩:=hk 3 _ rfl;obtain ⟨_,u4⟩:=hk 4 _ rfl;obtain ⟨_,u5⟩:=hk 5 _ rfl;obtain ⟨x,q,hx⟩:=xJ u0 u1 u2 u3 u4 (ih m hm' u5);exact ⟨x,q,fun _=>hx⟩
   ·exact ⟨.node 0 ⟨#[]⟩ 0 [] [] [],⟨none,0,none,0,none,0⟩,fun h=>absurd h hi⟩
  have hch:∃(T:Nat→NodT) (Q:Nat→NS),∀i,i<n→F i 0= .int .i64 (T i).kind∧F i 1= .string (T i).text∧F i 2= .int .i64 (T i).num∧F i 3= .slice (Q i).pn (T i).names.length (Q i).cn∧F i 4= .slice (Q i).pt (T i).temps.length (Q i).ct∧F i 5= .slice (Q i).pk (T i).kids.length (Q i).ck∧IsNd w (fun _=>True) (T i) (Q i):=⟨fun i=>Classical.choose (hex i),fun i=>Classical.choose (Classical.choose_spec (hex i)),fun i=>Classical.choose_spec (Classical.choose_spec (hex i))⟩;obtain ⟨T,Q,hT⟩:=hch;have hlen:((List.range n).map T).length=n:=Y12;have hget:∀i (h:i<((List.range n).map T).length),((List.range n).map T)[i]=T i:=fun i h=>by simp
  refine ⟨A,c,(List.range n).map T,Q,by rw [hlen],by rw [hlen];exact hl,hm,fun i hi=>?_,fun i hi=>?_⟩
  ·have hi':i<n:=by rw [←hlen];exact hi
   rw [hget i hi];obtain ⟨b,off,e,hb,hc⟩:=hR I;obtain ⟨f0,f1,f2,f3,f4,f5,_⟩:=hT i hi';refine ⟨b,off,e,hb,trivial,?_,?_,?_,?_,?_,?_⟩
   ·rw [←f0];exact hc i hi' 0 Y3
   ·rw [←f1];exact hc i hi' 1 Y3
   ·rw [←f2];exact hc i hi' 2 Y3
   ·rw [←f3];exact hc i hi' 3 Y3
   ·rw [←f4];exact hc i hi' 4 Y3
   ·rw [←f5];exact hc i hi' 5 Y3
  ·have hi':i<n:=by rw [←hlen];exact hi
   rw [hget i hi];exact (hT i hi').2.2.2.2.2.2
theorem zC {v:Value} {d:DataW H} {p:List MemPlace} (hv:Value.okWide Tryz.prog w r b0 25 v) (h:DataW.Trod enc Tryz.prog w base spare held 25 v d p):∃x q,v=ndV x q∧IsNd w (fun _=>True) x q:=by
 obtain ⟨cs,rfl,hsz,hf⟩:=open_agg Tryz.underlying25 Y31 Y31 hv h;obtain ⟨a,b,c,d,e,f,rfl⟩:=agg6 hsz;obtain ⟨k0,y0,t0⟩:=hf 0 _ a rfl rfl;obtain ⟨k1,y1,t1⟩:=hf 1 _ b rfl rfl;obtain ⟨k2,y2,t2⟩:=hf 2 _ c rfl rfl;obtain ⟨k3,y3,t3⟩:=hf 3 _ d rfl rfl;obtain ⟨k4,y4,t4⟩:=hf 4 _ e rfl rfl;obtain ⟨k5,y5,t5⟩:=hf 5 _ f rfl rfl;obtain ⟨x,q,f0,f1,f2,f3,f4,f5,hn⟩:=xJ t0 t1 t2 t3 t4 (zB k5 t5);exact ⟨x,q,by unfold ndV;rw [f0,f1,f2,f3,f4,f5],hn⟩
theorem uL {v:Value} {d:DataW H} {p:List MemPlace} (hv:Value.okWide Tryz.prog w r b0 22 v) (h:DataW.Trod enc Tryz.prog w base spare held 22 v d p):∃A c,∃l:List ByteArray,v= .slice A l.length c∧l.length≤c∧c≤maxLen∧Strs w (fun _=>True) A l:=by
 obtain ⟨a,n,c,rfl⟩:=okWide_slice Tryz.underlying22 hv;obtain ⟨fuel,hf⟩:=h;obtain ⟨A,c',l,e,h1,h2,h3⟩:=mP hf;simp [Value.cells] at e;obtain ⟨rfl,rfl,rfl⟩:=e;exact ⟨_,_,l,rfl,h1,h2,h3⟩
end
end Go.Proofs.YtnojndgmgkgnpaaGreat
namespace Go.Proofs.YtnojndgmgkgnpaaGreat
open Go.ChangeShapes Go.WideShapes Go.ChangeAt Go.RowKit Go.Deep Go.Joins Go.Maps
theorem nK {w w':World} {D:Nat→Prop} {v:Value} {ps:List LP} (h:LitRow w D v ps) (hb:Below w.heap.size w w'):LitRow w' D v ps:=
 h.same hb.size (fun k hk=>hb.block k (World.ownsRow.lt h.own k hk).2) (fun b _ hl=>hb.block b hl) (fun _ z=>z)
theorem jC {w w':World} {D:Nat→Prop} {p:Option Addr} {l:List ByteArray} (h:Strs w D p l) (hb:Below w.heap.size w w'):Strs w' D p l:=h.same hb.size (fun b _ hl=>hb.block b hl) (fun _ z=>z)
theorem zD {f:Nat} {x:NodT} {fields:List ByteArray} {value:Bool} {m:MetT} {nm:ByteArray} {fe:Int} (h:eU f x fields value=(m,nm,fe)):m.code.length≤400∧m.lits.length≤60:=by
 have h0:noMet.code.length≤400∧noMet.lits.length≤60:=Y3;unfold eU at h;dsimp only at h
 split at h
 ·cases h;exact h0
 split at h
 ·cases h;exact h0
 split at h
 ·cases h;exact h0
 split at h
 ·cases h;exact h0
 split at h
 ·cases h;exact ⟨by show (fN (aJ f) x value (eS fields)).code.length≤400;omega,by show (fN (aJ f) x value (eS fields)).lits.length≤60;omega⟩
 ·cases h;exact h0
def RetP (m:MetT) (nl nc:Nat) (nm:ByteArray) (er:Int) (w:World) (e:Ending) (w':World):Prop:=∃Bl dl Bc dc D ps,e= .returned (.tuple #[.agg #[.string m.sel,.int .i64 (m.args:Int),.int .i64 (m.temps:Int),.int .i64 m.prim,.slice Bl nl dl,.slice Bc nc dc],.string nm,.int .i64 er])∧
 LitRow w' D (.slice Bl nl dl) ps∧ps.map Prod.fst=m.lits∧IsCode w' Bc nc (jL m.code)∧Below w.heap.size w w'
theorem retP {m:MetT} {nl nc:Nat} (hl:m.lits.length=nl) (hc:m.code.length=nc) {nm:ByteArray} {er:Int} {w w':World} {e:Ending} (h:Rf.ReadP (m,nm,er) w e w'):RetP m nl nc nm er w e w':=by
 obtain ⟨lv,cv,D,ps,he,h1,h2,h3,h4,_⟩:=h;obtain ⟨Al,cl,hlv,_⟩:=aX h1.own;obtain ⟨Ac,cc,hcv,_⟩:=aX h3;have hn:ps.length=nl:=by
  have:=congrArg List.length h2;rw [List.length_map] at this;exact this.trans hl
 subst hlv;subst hcv;dsimp only at h2 h3 he;rw [hn] at he h1;rw [hc] at he h3;exact ⟨Al,cl,Ac,cc,D,ps,he,h1,h2,tW h3 hc,h4⟩
end Go.Proofs.YtnojndgmgkgnpaaGreat
