/- Chapter 10: words and contracts for the law. -/
import Derived.Test.YtnojndgmgkgnpaaGreatQ24
set_option maxRecDepth 100000
set_option maxHeartbeats 40000000
set_option linter.unusedVariables false
set_option linter.unusedSimpArgs false
namespace Go.Proofs.YtnojndgmgkgnpaaGreat.Rf
open Go.ChangeShapes Go.WideShapes Go.ChangeAt Go.RowKit Go.Deep Go.Joins Go.Maps
theorem kM {w0 ws w1 w:World} {P:Nat→Prop} {cb:Nat} {m:MK} {s:CSt} (h:CT w0 P ws w1 cb m s) (hb:Below w1.heap.size w1 w) {D0:Nat→Prop} {p:Option Addr} {n c:Nat} {l:List ByteArray} (hs:Strs w0 D0 p l) (hl:l.length=n) (hn:n≤9223372036854775807) (fixed:Bool) {kd:Int} (hkd:kd=if fixed then 3 else 2):Calls Tryz.prog 17 #[.pointer (some ⟨cb,0,none⟩),.slice p n c,.int .i64 kd] w fun e w'=>e= .returned (.tuple #[])∧CT w0 P ws w' cb m (bI fixed l s):=by
 have h2:=h.below hb;refine (tY h2.1 hs hl hn fixed hkd).mono ?_;rintro e w' ⟨he,hc⟩;exact ⟨he,h2.go hc⟩
theorem CY.and2 {w0 w:World} {P:Nat→Prop} {cb:Nat} {m:MK} {s:CSt} {lv cv nv:Value} {D:Nat→Prop} {ps:List LP} {b:Nat} {t:TypeId} {cur:Array Value} {fr:Nat×Nat} (h:CY w0 P w cb m s lv cv nv D ps) (hb:w.heap[b]? =some (.cells cur t fr)) (ht:t≠53∧t≠44∧t≠42):CY w0 (fun k=>(P k∨k=b)∨nv.ownBlock=some k) w cb m s lv cv nv D ps:=
 h.keep (fun k z=>by
  rcases z with (z | z) | z
  ·exact .inl z
  ·exact .inr ⟨t,cur,fr,by rw [z];exact hb,ht⟩
  ·obtain ⟨cur2,h2⟩:=bN h.names z;exact .inr ⟨_,cur2,_,h2,by decide⟩) (fun k z=>.inl (.inl (h.low k z)))
theorem pX (rec:NodT→CSt→CSt) (a:NodT) (r:List NodT) (s:CSt) (h:r≠[]):dD rec true (a :: r) s=dD rec true r (aB (if a.kind=10 then aB (rec a s) 2 0 0 else rec a s) 12 0 0):=by
 cases r with
 | nil=>exact absurd rfl h
 | cons b r=>rfl
theorem pY (rec:NodT→CSt→CSt) (a:NodT) (s:CSt):dD rec true [a] s=if a.kind=10 then aB (rec a s) 2 0 0 else rec a s:=rfl
theorem Z84 {P:Prop} (h:P:=by
 have h0:=HGR.out;have h1:=HRM.out;have h2:=HSZ.out;have h3:=kd.size_pos;rw [aM,cC];exact ⟨by omega,by omega⟩):P:=h
theorem eO {f:Nat} (hv:RSpec f) {w0 w:World} {P:Nat→Prop} {cb:Nat} {m:MK} {s:CSt} (h:CX w0 P w cb m s) {x:NodT} {q:NS} (hn:IsNd w0 (fun _=>True) x q) (hx:x.size≤f+1) (hf:s.code.length+8*x.size≤1000006) (hl:s.lits.length+x.size≤100000):
  Calls Tryz.prog 44 #[.pointer (some ⟨cb,0,none⟩),ndV x q] w fun e w'=>e= .returned (.tuple #[])∧CT w0 P w w' cb m (cN (aS f) x s):=by
 have HV:=J hv;have hxs:=x.size_kids;obtain ⟨lv,cv,nv,D,ps,hy,hfw⟩:=h;obtain ⟨A,c,hnv,_⟩:=aX hy.names;obtain ⟨n6,hn6⟩:=aE s.names.length;rw [hn6] at hnv;subst hnv;obtain ⟨n,hnk⟩:=aE x.kids.length;have HNK:=J hnk;have HCBP:=J hy.cbP;have HNOK:=J hy.nok;have HLOW:=J hy.low;have HFW:Hid (s.temps≤24∧s.names.length≤8+s.temps):=J hfw;have HSN:Hid (Strs w0 (fun _=>True) q.pn x.names∧Strs w0 (fun _=>True) q.pt x.temps):=J hn.strs;have hok:=hn.ok;have HNL:Hid (x.names.length≤9223372036854775807):=J Y74;have HTL:Hid (x.temps.length≤9223372036854775807):=J Y75;have hle:n≤9223372036854775807:=Y76;have HRW:=J hn.rows;have hba:Below w.heap.size w (w.alloc (.cells #[.int .i64 x.kind,.string x.text,.int .i64 x.num,.slice q.pn x.names.length q.cn,.slice q.pt x.temps.length q.ct,.slice q.pk n q.ck] 25)):=ba;have hnew:(w.alloc (.cells #[.int .i64 x.kind,.string x.text,.int .i64 x.num,.slice q.pn x.names.length q.cn,.slice q.pt x.temps.length q.ct,.slice q.pk n q.ck] 25)).heap[w.heap.size]? =some (.cells #[.int .i64 x.kind,.string x.text,.int .i64 x.num,.slice q.pn x.names.length q.cn,.slice q.pt x.temps.length q.ct,.slice q.pk n q.ck] 25 (0,0)):=heap_alloc_new w _;obtain ⟨Pb,hPb⟩:∃Pb:Nat→Prop,(fun k=>(P k∨k=w.heap.size)∨(Value.slice A n6 c).ownBlock=some k)=Pb:=⟨_,rfl⟩;have hyb:CY w0 Pb (w.alloc (.cells #[.int .i64 x.kind,.string x.text,.int .i64 x.num,.slice q.pn x.names.length q.cn,.slice q.pt x.temps.length q.ct,.slice q.pk n q.ck] 25)) cb m s lv cv (.slice A n6 c) D ps:=by
  rw [←hPb];exact (hy.below hba).and2 hnew Y3
 have HSUB:Hid (∀k,P k→Pb k):=J (fun k z=>by rw [←hPb];exact .inl (.inl z));have HNM:Hid (∀wz,Turns (cP Pb) (w.alloc (.cells #[.int .i64 x.kind,.string x.text,.int .i64 x.num,.slice q.pn x.names.length q.cn,.slice q.pt x.temps.length q.ct,.slice q.pk n q.ck] 25)) wz→NmRow wz (.slice A n6 c) s.names):=J (fun wz ht=>aJ hyb.names ht.size (fun k hk=>ht.block k (World.ownsRow.lt hyb.names k hk).2 (fun z=>z (by rw [←hPb];exact .inr hk))));have HBX:Hid (∀wz,Turns (cP Pb) (w.alloc (.cells #[.int .i64 x.kind,.string x.text,.int .i64 x.num,.slice q.pn x.names.length q.cn,.slice q.pt x.temps.length q.ct,.slice q.pk n q.ck] 25)) wz→Sixn wz w.heap.size n x q):=J (fun wz ht=>cW ((ht.block _ (aA hnew) (fun z=>z (by rw [←hPb];exact .inl (.inr rfl)))).trans hnew));have HX1:Hid (CT w0 Pb (w.alloc (.cells #[.int .i64 x.kind,.string x.text,.int .i64 x.num,.slice q.pn x.names.length q.cn,.slice q.pt x.temps.length q.ct,.slice q.pk n q.ck] 25)) (w.alloc (.cells #[.int .i64 x.kind,.string x.text,.int .i64 x.num,.slice q.pn x.names.length q.cn,.slice q.pt x.temps.length q.ct,.slice q.pk n q.ck] 25)) cb m s):=J ⟨⟨_,_,_,_,_,hyb,hfw⟩,Turns.refl _ _⟩;have HK6:Hid ((w.alloc (.cells #[.int .i64 x.kind,.string x.text,.int .i64 x.num,.slice q.pn x.names.length q.cn,.slice q.pt x.temps.length q.ct,.slice q.pk n q.ck] 25)).cell? ⟨cb,6,none⟩=some (.slice A n6 c)):=J (by rw [hyb.cell];rfl);have HTS:Hid (Turns (cP P) w (w.alloc (.cells #[.int .i64 x.kind,.string x.text,.int .i64 x.num,.slice q.pn x.names.length q.cn,.slice q.pt x.temps.length q.ct,.slice q.pk n q.ck] 25))):=J (Turns.of_below hba);obtain ⟨sd,hsd⟩:=aE (bI false x.temps (bI true x.names s));have HSD:=J hsd;have HRM0:Hid (sd.code.length+8*NodT.sizes x.kids+1≤1000000∧sd.lits.length+NodT.sizes x.kids≤100000):=J (by
  have h1:=dL true x.names s;have h2:=dL false x.temps (bI true x.names s);rw [hsd] at h2;rw [h2.1,h2.2,h1.1,h1.2];exact ⟨by omega,by omega⟩)
 have HXS:Hid (NodT.sizes x.kids≤f):=J I;unfold ndV;rw [hnk];clear hnk hok hy hyb hsd hn6 hn hx hf hl hfw hv hxs hba hnew hPb;go_enter Tryz.func44,Tryz.ntmps44
 go_upto_region 1 with fail
 have hnm:=HNM.out;have hbx:=HBX.out;have hx1:=HX1.out;have hts:=HTS.out;have k6:=HK6.out;obtain ⟨w1,hw1⟩:∃w1,(w.alloc (.cells #[.int .i64 x.kind,.string x.text,.int .i64 x.num,.slice q.pn x.names.length q.cn,.slice q.pt x.temps.length q.ct,.slice q.pk n q.ck] 25))=w1:=⟨_,rfl⟩;clear HNM HBX HX1 HTS HK6;rw [hw1] at hnm hbx hx1 hts k6 ⊢;have HNM:=J hnm;have HBX:=J hbx;have HX1:=J hx1;have HTS:=J hts;obtain ⟨c0,c1,c2,c3,c4,c5⟩:=HBX.out _ HX1.out.2;clear hnm hbx hx1 hts hw1;go_wp2_with (first | (go_at_call 17;(with_reducible refine (kM HX1.out bel HSN.out.1 rfl HNL.out true (kd:=3) rfl).mono ?_);rintro e w2 ⟨rfl,hx3⟩;have HX2:=J hx3;obtain ⟨c0,c1,c2,c3,c4,c5⟩:=HBX.out _ hx3.2;clear hx3) | (go_at_call 17;(with_reducible refine (kM HX2.out bel HSN.out.2 rfl HTL.out false (kd:=2) rfl).mono ?_);rintro e w3 ⟨rfl,hx3⟩;have HX3:=J hx3;obtain ⟨c0,c1,c2,c3,c4,c5⟩:=HBX.out _ hx3.2;clear hx3))
 go_loopw [5] (fun i wr=>∃(k:Nat) (sk:CSt),i= .int .i64 k∧k≤n∧CT w0 Pb w1 wr cb m sk∧dD (aS f) true x.kids sd=dD (aS f) true (x.kids.drop k) sk∧(sk.code.length+8*NodT.sizes (x.kids.drop k)+1≤1000000∧sk.lits.length+NodT.sizes (x.kids.drop k)≤100000)) (fun i _=>n-(intOf i).toNat)
 case atStart=>exact ⟨0,sd,rfl,Nat.zero_le _,by rw [←HSD.out];exact HX3.out,rfl,HRM0.out⟩
 case round=>
  obtain ⟨k,sk,rfl,hk,hct,hde,hrm⟩:=hrel;have HX:=J hct;have HD:=J hde;have HRM:=J hrm;clear hct hde hrm c0 c1 c2 c3 c4 c5;obtain ⟨c0,c1,c2,c3,c4,c5⟩:=HBX.out _ HX.out.2
  by_cases hlt:k<n
  ·have d1:=aD hlt;have d2:=aT hlt;have hkl:k<x.kids.length:=Y82;obtain ⟨b,off,q',hpk,hbl,hc6,hkd⟩:=HRW.out k hkl;have hsz:=dN x.kids k hkl;have hst:=HX.out.1.stat;have hsk:(x.kids[k]).size≤f:=Nat.le_trans (cR x.kids k hkl) HXS.out;have hdr:x.kids.drop k=x.kids[k] :: x.kids.drop (k+1):=List.drop_eq_getElem_cons hkl;obtain ⟨kd,hkx⟩:=aE (x.kids[k]);rw [hkx] at hc6 hkd hsz hsk hdr;have HC6:=J hc6;have HBL:=J hbl;have hgr:=eJ f kd sk hsk;have HGR:Hid ((aS f kd sk).code.length≤sk.code.length+(8*kd.size-2)∧(aS f kd sk).lits.length≤sk.lits.length+kd.size):=J ⟨hgr.code,hgr.lits⟩;have HSZ:=J hsz;have HDR:=J hdr;have HLT:=J hlt;have hva:∀(W:World),Below wr.heap.size wr W→Calls Tryz.prog 18 #[.pointer (some ⟨cb,0,none⟩),ndV kd q'] W fun e w'=>e= .returned (.tuple #[])∧CT w0 Pb w1 w' cb m (aS f kd sk):=fun W hb=>HV.out.at_ hsk HX.out hb hkd Y34 Y34
   unfold ndV at hva;have HVA:=J hva;have HF5:Hid ((aS f kd sk).code.length≤1000000):=J Y126;have hbw:b<wr.heap.size:=aN hbl hst.size;obtain ⟨d0,d1,d2,d3,d4,d5⟩:=HC6.out.same (HX.out.1.stat.block b HBL.out);have g0:(0:Int)≤(k:Int):=I;have g1:(k:Int)<(n:Int):=I;rw [hpk];rw [hpk] at c5;clear hst hc6 hkd hsz hsk hdr hkx hkl hlt hgr hva hbl
   by_cases e10:kd.kind=10
   ·have HE10:=J e10;have q1:(kd.kind==10)=true:=Y26;clear e10
    by_cases el:k+1<n
    ·have g2:decide (k+1<n)=true:=aD el;have g3:decide ((k:Int)+1<(n:Int))=true:=aD I;have HNE:Hid (x.kids.drop (k+1)≠[]):=J (fun z=>by have z2:=congrArg List.length z;rw [List.length_drop,HNK.out] at z2;simp only [List.length_nil] at z2;omega);clear el;have HF6:Hid (((aB (aS f kd sk) 2 0 0)).code.length≤1000000):=J Y81;have HG:Hid (((aB (aB (aS f kd sk) 2 0 0) 12 0 0)).code.length+8*NodT.sizes (x.kids.drop (k+1))+1≤1000000∧((aB (aB (aS f kd sk) 2 0 0) 12 0 0)).lits.length+NodT.sizes (x.kids.drop (k+1))≤100000):=J (by
      have h0:=HGR.out;have h1:=HRM.out;have h2:=HSZ.out;have h3:=kd.size_pos;rw [aM,cC];rw [aM,cC];exact ⟨by omega,by omega⟩)
     clear HGR;go_wp2_with (first | (go_at_call 18;(with_reducible refine (HVA.out _ bel).mono ?_);rintro e w5 ⟨rfl,hx3⟩;have HX5:=J hx3;obtain ⟨c0,c1,c2,c3,c4,c5⟩:=HBX.out _ hx3.2;obtain ⟨d0,d1,d2,d3,d4,d5⟩:=HC6.out.same (hx3.1.stat.block b HBL.out);have hbw5:b<w5.heap.size:=aN HBL.out hx3.1.stat.size;clear hx3) | (go_at_call 19;(with_reducible refine (bG HX5.out bel 2 0 0 HF5.out).mono ?_);rintro e w6 ⟨rfl,hx3⟩;have HX6:=J hx3;obtain ⟨c0,c1,c2,c3,c4,c5⟩:=HBX.out _ hx3.2;clear hx3) | (go_at_call 19;(with_reducible refine (bG HX6.out bel 12 0 0 HF6.out).mono ?_);rintro e w7 ⟨rfl,hx3⟩;have HX7:=J hx3;obtain ⟨c0,c1,c2,c3,c4,c5⟩:=HBX.out _ hx3.2;clear hx3));go_roundw
     case rel=>exact ⟨k+1,(aB (aB (aS f kd sk) 2 0 0) 12 0 0),by go_num,HLT.out,HX7.out,by rw [HD.out,HDR.out,pX _ _ _ _ HNE.out,if_pos HE10.out],HG.out⟩
     case measure=>simp [intOf];have:=HLT.out;omega
    ·have g2:decide (k+1<n)=false:=aK el;have g3:decide ((k:Int)+1<(n:Int))=false:=aK I;have HNIL:Hid (x.kids.drop (k+1)=[]):=J (List.drop_eq_nil_of_le (by rw [HNK.out];omega));clear el;have HF6:Hid (((aB (aS f kd sk) 2 0 0)).code.length≤1000000):=J Y81;have HG:Hid (((aB (aS f kd sk) 2 0 0)).code.length+8*NodT.sizes (x.kids.drop (k+1))+1≤1000000∧((aB (aS f kd sk) 2 0 0)).lits.length+NodT.sizes (x.kids.drop (k+1))≤100000):=J (by
      exact Z84)
     clear HGR;go_wp2_with (first | (go_at_call 18;(with_reducible refine (HVA.out _ bel).mono ?_);rintro e w5 ⟨rfl,hx3⟩;have HX5:=J hx3;obtain ⟨c0,c1,c2,c3,c4,c5⟩:=HBX.out _ hx3.2;obtain ⟨d0,d1,d2,d3,d4,d5⟩:=HC6.out.same (hx3.1.stat.block b HBL.out);have hbw5:b<w5.heap.size:=aN HBL.out hx3.1.stat.size;clear hx3) | (go_at_call 19;(with_reducible refine (bG HX5.out bel 2 0 0 HF5.out).mono ?_);rintro e w6 ⟨rfl,hx3⟩;have HX6:=J hx3;obtain ⟨c0,c1,c2,c3,c4,c5⟩:=HBX.out _ hx3.2;clear hx3));go_roundw
     case rel=>exact ⟨k+1,(aB (aS f kd sk) 2 0 0),by go_num,HLT.out,HX6.out,by rw [HD.out,HDR.out,HNIL.out,pY,if_pos HE10.out];rfl,HG.out⟩
     case measure=>simp [intOf];have:=HLT.out;omega
   ·have HE10:=J e10;have q1:(kd.kind==10)=false:=Y26;clear e10
    by_cases el:k+1<n
    ·have g2:decide (k+1<n)=true:=aD el;have g3:decide ((k:Int)+1<(n:Int))=true:=aD I;have HNE:Hid (x.kids.drop (k+1)≠[]):=J (fun z=>by have z2:=congrArg List.length z;rw [List.length_drop,HNK.out] at z2;simp only [List.length_nil] at z2;omega);clear el;have HF6:Hid (((aS f kd sk)).code.length≤1000000):=J Y99;have HG:Hid (((aB (aS f kd sk) 12 0 0)).code.length+8*NodT.sizes (x.kids.drop (k+1))+1≤1000000∧((aB (aS f kd sk) 12 0 0)).lits.length+NodT.sizes (x.kids.drop (k+1))≤100000):=J (by
      exact Z84)
     clear HGR;go_wp2_with (first | (go_at_call 18;(with_reducible refine (HVA.out _ bel).mono ?_);rintro e w5 ⟨rfl,hx3⟩;have HX5:=J hx3;obtain ⟨c0,c1,c2,c3,c4,c5⟩:=HBX.out _ hx3.2;obtain ⟨d0,d1,d2,d3,d4,d5⟩:=HC6.out.same (hx3.1.stat.block b HBL.out);have hbw5:b<w5.heap.size:=aN HBL.out hx3.1.stat.size;clear hx3) | (go_at_call 19;(with_reducible refine (bG HX5.out bel 12 0 0 HF6.out).mono ?_);rintro e w7 ⟨rfl,hx3⟩;have HX7:=J hx3;obtain ⟨c0,c1,c2,c3,c4,c5⟩:=HBX.out _ hx3.2;clear hx3));go_roundw
     case rel=>exact ⟨k+1,(aB (aS f kd sk) 12 0 0),by go_num,HLT.out,HX7.out,by rw [HD.out,HDR.out,pX _ _ _ _ HNE.out,if_neg HE10.out],HG.out⟩
     case measure=>simp [intOf];have:=HLT.out;omega
    ·have g2:decide (k+1<n)=false:=aK el;have g3:decide ((k:Int)+1<(n:Int))=false:=aK I;have HNIL:Hid (x.kids.drop (k+1)=[]):=J (List.drop_eq_nil_of_le (by rw [HNK.out];omega));clear el;have HF6:Hid (((aS f kd sk)).code.length≤1000000):=J Y99;have HG:Hid (((aS f kd sk)).code.length+8*NodT.sizes (x.kids.drop (k+1))+1≤1000000∧((aS f kd sk)).lits.length+NodT.sizes (x.kids.drop (k+1))≤100000):=J (by
      have h0:=HGR.out;have h1:=HRM.out;have h2:=HSZ.out;have h3:=kd.size_pos;exact ⟨by omega,by omega⟩)
     clear HGR;go_wp2_with (first | (go_at_call 18;(with_reducible refine (HVA.out _ bel).mono ?_);rintro e w5 ⟨rfl,hx3⟩;have HX5:=J hx3;obtain ⟨c0,c1,c2,c3,c4,c5⟩:=HBX.out _ hx3.2;obtain ⟨d0,d1,d2,d3,d4,d5⟩:=HC6.out.same (hx3.1.stat.block b HBL.out);have hbw5:b<w5.heap.size:=aN HBL.out hx3.1.stat.size;clear hx3));go_roundw
     case rel=>exact ⟨k+1,(aS f kd sk),by go_num,HLT.out,HX5.out,by rw [HD.out,HDR.out,HNIL.out,pY,if_neg HE10.out];rfl,HG.out⟩
     case measure=>simp [intOf];have:=HLT.out;omega
  ·skip
   have hkn:k=n:=I;have d1:=aK hlt;have d2:=aF hlt;clear hlt;have hd0:dD (aS f) true x.kids sd=sk:=Y70;subst hkn;have HFZ:Hid (sk.code.length≤1000000):=J Y34;have HTM:Hid (s.temps≤sk.temps):=J (by
    have h1:=((iX true x.names s).trans (iX false x.temps _)).trans (lK (jL f) true x.kids _);rw [HSD.out,hd0] at h1;exact h1.temps)
   obtain ⟨lvy,cvy,nvy,Dy,psy,hyy,hfy⟩:=HX.out.1;have f6y:=hyy.free 6;have k6y:wr.cell? ⟨cb,6,none⟩=some nvy:=by rw [hyy.cell];rfl
   have HYY:=J hyy;clear hyy
   by_cases e0:k=0
   ·have HBD:Hid (cN (aS f) x s={aB sk 2 0 0 with names:=s.names}):=J (by rw [oL,HSD.out,hd0,if_pos Y153]);have z1:(k==0)=true:=by simpa using e0
    have z2:((k:Int)==0)=true:=Y4;clear e0 hd0;go_wp2_with (first | (go_at_call 19;(with_reducible refine (bG HX.out bel 2 0 0 HFZ.out).mono ?_);rintro e w8 ⟨rfl,hx3⟩;have HX8:=J hx3;obtain ⟨lvz,cvz,nvz,Dz,psz,hyz,hfz⟩:=hx3.1;have f6z:=hyz.free 6;have k6z:w8.cell? ⟨cb,6,none⟩=some nvz:=(by rw [hyz.cell];rfl);have HYZ:=J hyz;clear hx3 hyz));go_returns;refine ⟨rfl,?_,?_⟩
    ·have hy9:=HYZ.out.store (s':={aB sk 2 0 0 with names:=s.names}) 6 (.slice A n6 c) (by simp [fR]) rfl rfl (HNM.out w8 HX8.out.2) HNOK.out HYZ.out.enm;rw [HBD.out];refine CX.less (P':=Pb) ⟨_,_,_,_,_,hy9,?_,?_⟩ HSUB.out HLOW.out
     ·exact HX8.out.1.few.1
     ·have h1:=HFW.out;have h2:=HTM.out
      show s.names.length≤8+(aB sk 2 0 0).temps
      have h3:sk.temps=(aB sk 2 0 0).temps:=rfl;omega
    ·exact (HTS.out.trans (HX8.out.2.mono (fun k _ z q=>z (HSUB.out k q)))).setCell _ _ (.inl HCBP.out)
   ·have HBD:Hid (cN (aS f) x s={sk with names:=s.names}):=J (by rw [oL,HSD.out,hd0,if_neg Y153]);have z1:(k==0)=false:=by simpa using e0
    have z2:((k:Int)==0)=false:=Y4;clear e0 hd0;go_wp2_with fail;go_returns;refine ⟨rfl,?_,?_⟩
    ·have hy9:=HYY.out.store (s':={sk with names:=s.names}) 6 (.slice A n6 c) (by simp [fR]) rfl rfl (HNM.out wr HX.out.2) HNOK.out HYY.out.enm;rw [HBD.out];refine CX.less (P':=Pb) ⟨_,_,_,_,_,hy9,?_,?_⟩ HSUB.out HLOW.out
     ·exact HX.out.1.few.1
     ·have h1:=HFW.out;have h2:=HTM.out
      show s.names.length≤8+(sk).temps
      have h3:sk.temps=(sk).temps:=rfl;omega
    ·exact (HTS.out.trans (HX.out.2.mono (fun k _ z q=>z (HSUB.out k q)))).setCell _ _ (.inl HCBP.out)
def Hole (s:CSt) (a:Nat) (o:Int):Prop:=∃i,s.code[a]? =some i∧i.op=o
theorem Hole.lt {s:CSt} {a:Nat} {o:Int} (h:Hole s a o):a<s.code.length:=by
 obtain ⟨i,hi,_⟩:=h;exact (List.getElem?_eq_some_iff.1 hi).1
theorem Hole.emit (s:CSt) (o x y:Int):Hole (aB s o x y) s.code.length o:=⟨⟨o,x,y⟩,by simp [aB],rfl⟩
theorem Hole.tm {s t:CSt} {a:Nat} {o:Int} (h:Hole s a o) (ht:Tm s t):Hole t a o:=by
 obtain ⟨i,hi,ho⟩:=h;obtain ⟨r,e⟩:=ht.pre;exact ⟨i,by rw [←e,List.getElem?_append_left (List.getElem?_eq_some_iff.1 hi).1];exact hi,ho⟩
theorem Hole.to_ {s:CSt} {a b:Nat} {o:Int} (h:Hole s a o) (hb:b≠a) (o2:Int) (t:Nat):Hole (toP s b o2 t) a o:=by
 obtain ⟨i,hi,ho⟩:=h;exact ⟨i,by unfold toP;dsimp only;rw [List.getElem?_set_ne hb];exact hi,ho⟩
theorem fV {w0 ws w1 w:World} {P:Nat→Prop} {cb:Nat} {m:MK} {s:CSt} (h:CT w0 P ws w1 cb m s) (hb:Below w1.heap.size w1 w) {a:Nat} {op:Int} (ho:Hole s a op) (t:Nat) (ht:t≤1000000) (hf:s.code.length≤1000000):Calls Tryz.prog 45 #[.pointer (some ⟨cb,0,none⟩),.int .i64 (a:Int),.int .i64 (t:Int)] w fun e w'=>e= .returned (.tuple #[])∧CT w0 P ws w' cb m (toP s a op t):=by
 have hl:=ho.lt;obtain ⟨i,hi,hio⟩:=ho;have e:s.code[a].op=op:=by
  obtain ⟨_,h2⟩:=List.getElem?_eq_some_iff.1 hi;rw [h2];exact hio
 have h2:=lead_at h hb a hl t ht hf;rw [e] at h2;exact h2
theorem CX.codeAt {w0 w:World} {P:Nat→Prop} {cb:Nat} {m:MK} {s:CSt} (h:CX w0 P w cb m s) {n:Nat} (hn:s.code.length=n):∃A c,w.cell? ⟨cb,5,none⟩=some (.slice A n c):=by
 obtain ⟨lv,cv,nv,D,ps,hy,_⟩:=h;obtain ⟨A,c,hcv,_⟩:=aX hy.code;subst hcv;exact ⟨A,c,by rw [hy.cell,←hn];rfl⟩
theorem lU (s:CSt) (a:Nat) (o:Int) (t:Nat):(toP s a o t).code.length=s.code.length:=by simp [toP]
def ArmI (a:Arm) (l:List NodT) (i o:Int):Prop:=match a with
 | .op o'=>i=0∧o=o'
 | .kid j=>i=(j:Int)∧0<j∧j<l.length
theorem Z85 {P:Prop} (h:P:=by
 have h2:=hc.below hb;refine (eO hv h2.1 hku I (by rw [hszu] at hf;omega) (by rw [hszu] at hl;omega)).mono ?_;rintro e w' ⟨he,hc9⟩;rw [show cN (aS f) kdu e1=s2 from by rw [←hs2];unfold dM;dsimp only;rw [List.getElem?_eq_getElem hly,hkdu]] at hc9;exact ⟨he,h2.go hc9⟩):P:=h
theorem Z86 {P:Prop} (h:P:=by
 have h2:=hc.below hb;refine (eO hv h2.1 hkv I (by rw [hszv] at hf;omega) (by rw [hszv] at hl;omega)).mono ?_;rintro e w' ⟨he,hc9⟩;rw [show cN (aS f) kdv s5=s4 from by rw [←hs4];unfold dM;dsimp only;rw [List.getElem?_eq_getElem hlz,hkdv]] at hc9;exact ⟨he,h2.go hc9⟩):P:=h
theorem fX {f:Nat} (hv:RSpec f) {w0 w:World} {P:Nat→Prop} {cb:Nat} {m:MK} {s:CSt} (h:CX w0 P w cb m s) {k:NodT} {q:NS} (hn:IsNd w0 (fun _=>True) k q) (hk:k.size≤f) {p:Option Addr} {n c0:Nat} {l r:List NodT} (hlk:l=k :: r) (hr:Rows w0 p l) (hln:l.length=n) (hle:n≤9223372036854775807) (hsl:NodT.sizes l≤f) (y z:Arm) {yi yo zi no:Int} (hy:ArmI y l yi yo) (hz:ArmI z l zi no)
  (hf:s.code.length+8*(k.size+dQ y l+dQ z l)+3≤1000000) (hl:s.lits.length+k.size+dQ y l+dQ z l≤100000):
  Calls Tryz.prog 62 #[.pointer (some ⟨cb,0,none⟩),ndV k q,.slice p n c0,.int .i64 yi,.int .i64 yo,.int .i64 zi,.int .i64 no] w fun e w'=>e= .returned (.tuple #[])∧CT w0 P w w' cb m (cD (aS f) y z l s):=by
 have hkp:=k.size_pos;have hva:∀(W:World),Below w.heap.size w W→Calls Tryz.prog 18 #[.pointer (some ⟨cb,0,none⟩),ndV k q] W fun e w'=>e= .returned (.tuple #[])∧CT w0 P w w' cb m (aS f k s):=fun W hb=>hv.at_ hk h.ct hb hn I I
 have hgr:=eJ f k s hk;obtain ⟨s1,hs1⟩:=aE (aS f k s);obtain ⟨e1,he1⟩:=aE (aB s1 17 0 0);obtain ⟨s2,hs2⟩:=aE (dM (aS f) y l e1);obtain ⟨s3,hs3⟩:=aE (aB s2 16 0 0);obtain ⟨n1,hn1⟩:=aE s1.code.length;obtain ⟨n2,hn2⟩:=aE s2.code.length;obtain ⟨n3,hn3⟩:=aE s3.code.length;obtain ⟨s5,hs5⟩:=aE (toP s3 n1 17 n3);obtain ⟨s4,hs4⟩:=aE (dM (aS f) z l s5);obtain ⟨n4,hn4⟩:=aE s4.code.length;have HBR:Hid (cD (aS f) y z l s=toP s4 n2 16 n4):=J (by rw [hlk];unfold cD;dsimp only;rw [←hlk,hs1,he1,hs2,hs3,hn1,hn3,hs5,hs4,hn2,hn4]);rw [hs1] at hva hgr;have g1:=hgr.code;have g2:=hgr.lits;have ga:=lI (eJ f) hsl y e1;rw [hs2] at ga;have ga1:=ga.code;have ga2:=ga.lits;have gb:=lI (eJ f) hsl z s5;rw [hs4] at gb;have gb1:=gb.code;have gb2:=gb.lits;have x1:e1.code.length=s1.code.length+1:=by rw [←he1];exact aM _ _ _ _
 have x2:e1.lits.length=s1.lits.length:=by rw [←he1];rfl
 have x3:s3.code.length=s2.code.length+1:=by rw [←hs3];exact aM _ _ _ _
 have x4:s3.lits.length=s2.lits.length:=by rw [←hs3];rfl
 have x5:s5.code.length=s3.code.length:=by rw [←hs5];exact lU _ _ _ _
 have x6:s5.lits.length=s3.lits.length:=by rw [←hs5];rfl
 have t1:Tm e1 s2:=by rw [←hs2];exact kE (jL f) y l e1
 have t2:Tm s5 s4:=by rw [←hs4];exact kE (jL f) z l s5
 have o1:Hole e1 n1 17:=by rw [←he1,←hn1];exact Hole.emit _ _ _ _
 have o1b:Hole s3 n1 17:=by rw [←hs3];exact (o1.tm t1).tm (Tm.emit _ _ _ _)
 have o2:Hole s3 n2 16:=by rw [←hs3,←hn2];exact Hole.emit _ _ _ _
 have hne:n1≠n2:=by have:=(o1.tm t1).lt;omega
 have o2b:Hole s4 n2 16:=by rw [←hs5] at t2;exact (o2.to_ hne _ _).tm t2
 have HO1:=J o1b;have HO2:=J o2b;have HN1:=J hn1;have HN2:=J hn2;have HN3:=J hn3;have HN4:=J hn4;have HS1e:=J he1;have HS3:=J hs3;have HS5:=J hs5;have HF1:Hid (s1.code.length≤1000000):=J I;have HFe:Hid (e1.code.length≤1000000):=J I;have HF2:Hid (s2.code.length≤1000000):=J I;have HF3n:Hid (n3≤1000000):=J I;have HF3x:Hid (s3.code.length≤1000000):=J I;have HF3:Hid (s5.code.length≤1000000):=J I;have HF4:Hid (n4≤1000000∧s4.code.length≤1000000):=J I;unfold ndV at hva ⊢;have HVA:=J hva;clear hva hgr ga gb t1 t2 o1 o1b o2 o2b hne hs1 he1 hs3 hs5 hlk hn h
 cases y with
 | kid yj=>
  cases z with
  | kid nj=>
   obtain ⟨rfl,hy0,hly⟩:=hy;have yd:decide ((0:Int)<(yj:Int))=true:=aD I;have yd2:=aD hy0;have yg0:(0:Int)≤(yj:Int):=I;have yg1:(yj:Int)<(n:Int):=I;obtain ⟨bu,offu,qu,hpu,hblu,hcu,hku⟩:=hr yj hly;obtain ⟨kdu,hkdu⟩:=aE (l[yj]);rw [hkdu] at hcu hku;have hszu:dQ (.kid yj) l=kdu.size:=by unfold dQ;dsimp only;rw [List.getElem?_eq_getElem hly,hkdu]
   have hkfu:kdu.size≤f:=by rw [←hkdu];exact Nat.le_trans (cR l yj hly) hsl
   have hbY:∀{wa W:World},CT w0 P w wa cb m e1→Below wa.heap.size wa W→Calls Tryz.prog 44 #[.pointer (some ⟨cb,0,none⟩),ndV kdu qu] W fun e w'=>e= .returned (.tuple #[])∧CT w0 P w w' cb m s2:=fun hc hb=>by
    exact Z85
   unfold ndV at hbY;have HBY:Hid (∀{wa W:World},CT w0 P w wa cb m e1→Below wa.heap.size wa W→_):=J hbY;have HU6:=J hcu;obtain ⟨rfl,hz0,hlz⟩:=hz;have zd:decide ((0:Int)<(nj:Int))=true:=aD I;have zd2:=aD hz0;have zg0:(0:Int)≤(nj:Int):=I;have zg1:(nj:Int)<(n:Int):=I;obtain ⟨bv,offv,qv,hpv,hblv,hcv,hkv⟩:=hr nj hlz;obtain ⟨kdv,hkdv⟩:=aE (l[nj]);rw [hkdv] at hcv hkv;have hszv:dQ (.kid nj) l=kdv.size:=by unfold dQ;dsimp only;rw [List.getElem?_eq_getElem hlz,hkdv]
   have hkfv:kdv.size≤f:=by rw [←hkdv];exact Nat.le_trans (cR l nj hlz) hsl
   have hbN:∀{wa W:World},CT w0 P w wa cb m s5→Below wa.heap.size wa W→Calls Tryz.prog 44 #[.pointer (some ⟨cb,0,none⟩),ndV kdv qv] W fun e w'=>e= .returned (.tuple #[])∧CT w0 P w w' cb m s4:=fun hc hb=>by
    exact Z86
   unfold ndV at hbN;have HBN:Hid (∀{wa W:World},CT w0 P w wa cb m s5→Below wa.heap.size wa W→_):=J hbN;have HV6:=J hcv;have HBL:=J hblu;subst hpu
   cases hpv
   clear hblu hcu hku hszu hkfu hkdu hblv hcv hkv hszv hkfv hkdv;clear hf hl hr hv hsl hs2 hs4 hy0 hly hbY hz0 hlz hbN;go_enter Tryz.func62,Tryz.ntmps62;go_wp2_with (first | (go_at_call 45;(with_reducible refine (fV HX6.out bel HO2.out n4 HF4.out.1 HF4.out.2).mono ?_);rintro e w' ⟨rfl,HX7⟩;replace HX7:=J HX7) | (go_at_call 44;(with_reducible refine (HBN.out HX5.out bel).mono ?_);rintro e w' ⟨rfl,hx3⟩;have HX6:=J hx3;obtain ⟨_,_,k5⟩:=hx3.1.codeAt HN4.out;clear hx3) | (go_at_call 45;(with_reducible refine (fV HX4.out bel HO1.out n3 HF3n.out HF3x.out).mono ?_);rw [HS5.out];rintro e w' ⟨rfl,hx3⟩;have HX5:=J hx3;obtain ⟨v0,v1,v2,v3,v4,v5⟩:=HV6.out.same (hx3.1.stat.block bu HBL.out);have vbw:bu<_:=aN HBL.out hx3.1.stat.size;clear hx3) | (go_at_call 19;(with_reducible refine (bG HX3.out bel 16 0 0 HF2.out).mono ?_);rw [HS3.out];rintro e w' ⟨rfl,hx3⟩;have HX4:=J hx3;obtain ⟨_,_,k5⟩:=hx3.1.codeAt HN3.out;clear hx3) | (go_at_call 44;(with_reducible refine (HBY.out HX2.out bel).mono ?_);rintro e w' ⟨rfl,hx3⟩;have HX3:=J hx3;obtain ⟨_,_,k5⟩:=hx3.1.codeAt HN2.out;clear hx3) | (go_at_call 19;(with_reducible refine (bG HX1.out bel 17 0 0 HF1.out).mono ?_);rw [HS1e.out];rintro e w' ⟨rfl,hx3⟩;have HX2:=J hx3;obtain ⟨u0,u1,u2,u3,u4,u5⟩:=HU6.out.same (hx3.1.stat.block bu HBL.out);have ubw:bu<_:=aN HBL.out hx3.1.stat.size;clear hx3) | (go_at_call 18;(with_reducible refine (HVA.out _ bel).mono ?_);rintro e w' ⟨rfl,hx3⟩;have HX1:=J hx3;obtain ⟨_,_,k5⟩:=hx3.1.codeAt HN1.out;clear hx3));go_returns;rw [HBR.out];exact ⟨rfl,HX7.out⟩
  | op oz=>
   obtain ⟨rfl,hy0,hly⟩:=hy;have yd:decide ((0:Int)<(yj:Int))=true:=aD I;have yd2:=aD hy0;have yg0:(0:Int)≤(yj:Int):=I;have yg1:(yj:Int)<(n:Int):=I;obtain ⟨bu,offu,qu,hpu,hblu,hcu,hku⟩:=hr yj hly;obtain ⟨kdu,hkdu⟩:=aE (l[yj]);rw [hkdu] at hcu hku;have hszu:dQ (.kid yj) l=kdu.size:=by unfold dQ;dsimp only;rw [List.getElem?_eq_getElem hly,hkdu]
   have hkfu:kdu.size≤f:=by rw [←hkdu];exact Nat.le_trans (cR l yj hly) hsl
   have hbY:∀{wa W:World},CT w0 P w wa cb m e1→Below wa.heap.size wa W→Calls Tryz.prog 44 #[.pointer (some ⟨cb,0,none⟩),ndV kdu qu] W fun e w'=>e= .returned (.tuple #[])∧CT w0 P w w' cb m s2:=fun hc hb=>by
    exact Z85
   unfold ndV at hbY;have HBY:Hid (∀{wa W:World},CT w0 P w wa cb m e1→Below wa.heap.size wa W→_):=J hbY;have HU6:=J hcu;obtain ⟨rfl,rfl⟩:=hz;have HS4:Hid (aB s5 no 0 0=s4):=J hs4;have HBL:=J hblu;subst hpu;clear hblu hcu hku hszu hkfu hkdu;clear hf hl hr hv hsl hs2 hs4 hy0 hly hbY;go_enter Tryz.func62,Tryz.ntmps62;go_wp2_with (first | (go_at_call 45;(with_reducible refine (fV HX6.out bel HO2.out n4 HF4.out.1 HF4.out.2).mono ?_);rintro e w' ⟨rfl,HX7⟩;replace HX7:=J HX7) | (go_at_call 19;(with_reducible refine (bG HX5.out bel no 0 0 HF3.out).mono ?_);rw [HS4.out];rintro e w' ⟨rfl,hx3⟩;have HX6:=J hx3;obtain ⟨_,_,k5⟩:=hx3.1.codeAt HN4.out;clear hx3) | (go_at_call 45;(with_reducible refine (fV HX4.out bel HO1.out n3 HF3n.out HF3x.out).mono ?_);rw [HS5.out];rintro e w' ⟨rfl,HX5⟩;replace HX5:=J HX5) | (go_at_call 19;(with_reducible refine (bG HX3.out bel 16 0 0 HF2.out).mono ?_);rw [HS3.out];rintro e w' ⟨rfl,hx3⟩;have HX4:=J hx3;obtain ⟨_,_,k5⟩:=hx3.1.codeAt HN3.out;clear hx3) | (go_at_call 44;(with_reducible refine (HBY.out HX2.out bel).mono ?_);rintro e w' ⟨rfl,hx3⟩;have HX3:=J hx3;obtain ⟨_,_,k5⟩:=hx3.1.codeAt HN2.out;clear hx3) | (go_at_call 19;(with_reducible refine (bG HX1.out bel 17 0 0 HF1.out).mono ?_);rw [HS1e.out];rintro e w' ⟨rfl,hx3⟩;have HX2:=J hx3;obtain ⟨u0,u1,u2,u3,u4,u5⟩:=HU6.out.same (hx3.1.stat.block bu HBL.out);have ubw:bu<_:=aN HBL.out hx3.1.stat.size;clear hx3) | (go_at_call 18;(with_reducible refine (HVA.out _ bel).mono ?_);rintro e w' ⟨rfl,hx3⟩;have HX1:=J hx3;obtain ⟨_,_,k5⟩:=hx3.1.codeAt HN1.out;clear hx3));go_returns;rw [HBR.out];exact ⟨rfl,HX7.out⟩
 | op oy=>
  cases z with
  | kid nj=>
   obtain ⟨rfl,rfl⟩:=hy;have HS2:Hid (aB e1 yo 0 0=s2):=J hs2;obtain ⟨rfl,hz0,hlz⟩:=hz;have zd:decide ((0:Int)<(nj:Int))=true:=aD I;have zd2:=aD hz0;have zg0:(0:Int)≤(nj:Int):=I;have zg1:(nj:Int)<(n:Int):=I;obtain ⟨bv,offv,qv,hpv,hblv,hcv,hkv⟩:=hr nj hlz;obtain ⟨kdv,hkdv⟩:=aE (l[nj]);rw [hkdv] at hcv hkv;have hszv:dQ (.kid nj) l=kdv.size:=by unfold dQ;dsimp only;rw [List.getElem?_eq_getElem hlz,hkdv]
   have hkfv:kdv.size≤f:=by rw [←hkdv];exact Nat.le_trans (cR l nj hlz) hsl
   have hbN:∀{wa W:World},CT w0 P w wa cb m s5→Below wa.heap.size wa W→Calls Tryz.prog 44 #[.pointer (some ⟨cb,0,none⟩),ndV kdv qv] W fun e w'=>e= .returned (.tuple #[])∧CT w0 P w w' cb m s4:=fun hc hb=>by
    exact Z86
   unfold ndV at hbN;have HBN:Hid (∀{wa W:World},CT w0 P w wa cb m s5→Below wa.heap.size wa W→_):=J hbN;have HV6:=J hcv;have HBL:=J hblv;subst hpv;clear hblv hcv hkv hszv hkfv hkdv;clear hf hl hr hv hsl hs2 hs4 hz0 hlz hbN;go_enter Tryz.func62,Tryz.ntmps62;go_wp2_with (first | (go_at_call 45;(with_reducible refine (fV HX6.out bel HO2.out n4 HF4.out.1 HF4.out.2).mono ?_);rintro e w' ⟨rfl,HX7⟩;replace HX7:=J HX7) | (go_at_call 44;(with_reducible refine (HBN.out HX5.out bel).mono ?_);rintro e w' ⟨rfl,hx3⟩;have HX6:=J hx3;obtain ⟨_,_,k5⟩:=hx3.1.codeAt HN4.out;clear hx3) | (go_at_call 45;(with_reducible refine (fV HX4.out bel HO1.out n3 HF3n.out HF3x.out).mono ?_);rw [HS5.out];rintro e w' ⟨rfl,hx3⟩;have HX5:=J hx3;obtain ⟨v0,v1,v2,v3,v4,v5⟩:=HV6.out.same (hx3.1.stat.block bv HBL.out);have vbw:bv<_:=aN HBL.out hx3.1.stat.size;clear hx3) | (go_at_call 19;(with_reducible refine (bG HX3.out bel 16 0 0 HF2.out).mono ?_);rw [HS3.out];rintro e w' ⟨rfl,hx3⟩;have HX4:=J hx3;obtain ⟨_,_,k5⟩:=hx3.1.codeAt HN3.out;clear hx3) | (go_at_call 19;(with_reducible refine (bG HX2.out bel yo 0 0 HFe.out).mono ?_);rw [HS2.out];rintro e w' ⟨rfl,hx3⟩;have HX3:=J hx3;obtain ⟨_,_,k5⟩:=hx3.1.codeAt HN2.out;clear hx3) | (go_at_call 19;(with_reducible refine (bG HX1.out bel 17 0 0 HF1.out).mono ?_);rw [HS1e.out];rintro e w' ⟨rfl,HX2⟩;replace HX2:=J HX2) | (go_at_call 18;(with_reducible refine (HVA.out _ bel).mono ?_);rintro e w' ⟨rfl,hx3⟩;have HX1:=J hx3;obtain ⟨_,_,k5⟩:=hx3.1.codeAt HN1.out;clear hx3));go_returns;rw [HBR.out];exact ⟨rfl,HX7.out⟩
  | op oz=>
   obtain ⟨rfl,rfl⟩:=hy;have HS2:Hid (aB e1 yo 0 0=s2):=J hs2;obtain ⟨rfl,rfl⟩:=hz;have HS4:Hid (aB s5 no 0 0=s4):=J hs4;clear hf hl hr hv hsl hs2 hs4;go_enter Tryz.func62,Tryz.ntmps62;go_wp2_with (first | (go_at_call 45;(with_reducible refine (fV HX6.out bel HO2.out n4 HF4.out.1 HF4.out.2).mono ?_);rintro e w' ⟨rfl,HX7⟩;replace HX7:=J HX7) | (go_at_call 19;(with_reducible refine (bG HX5.out bel no 0 0 HF3.out).mono ?_);rw [HS4.out];rintro e w' ⟨rfl,hx3⟩;have HX6:=J hx3;obtain ⟨_,_,k5⟩:=hx3.1.codeAt HN4.out;clear hx3) | (go_at_call 45;(with_reducible refine (fV HX4.out bel HO1.out n3 HF3n.out HF3x.out).mono ?_);rw [HS5.out];rintro e w' ⟨rfl,HX5⟩;replace HX5:=J HX5) | (go_at_call 19;(with_reducible refine (bG HX3.out bel 16 0 0 HF2.out).mono ?_);rw [HS3.out];rintro e w' ⟨rfl,hx3⟩;have HX4:=J hx3;obtain ⟨_,_,k5⟩:=hx3.1.codeAt HN3.out;clear hx3) | (go_at_call 19;(with_reducible refine (bG HX2.out bel yo 0 0 HFe.out).mono ?_);rw [HS2.out];rintro e w' ⟨rfl,hx3⟩;have HX3:=J hx3;obtain ⟨_,_,k5⟩:=hx3.1.codeAt HN2.out;clear hx3) | (go_at_call 19;(with_reducible refine (bG HX1.out bel 17 0 0 HF1.out).mono ?_);rw [HS1e.out];rintro e w' ⟨rfl,HX2⟩;replace HX2:=J HX2) | (go_at_call 18;(with_reducible refine (HVA.out _ bel).mono ?_);rintro e w' ⟨rfl,hx3⟩;have HX1:=J hx3;obtain ⟨_,_,k5⟩:=hx3.1.codeAt HN1.out;clear hx3));go_returns;rw [HBR.out];exact ⟨rfl,HX7.out⟩
end Go.Proofs.YtnojndgmgkgnpaaGreat.Rf
