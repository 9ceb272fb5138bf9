/- Chapter 10: words and contracts for the law. -/
import Derived.Test.YtnojndgmgkgnpaaGreatQ08
import Derived.Test.YtnojndgmgkgnpaaGreatQ00
set_option maxRecDepth 100000
set_option maxHeartbeats 40000000
set_option linter.unusedVariables false
set_option linter.unusedSimpArgs false
namespace Go.Proofs.YtnojndgmgkgnpaaGreat
open Go.ChangeShapes Go.WideShapes Go.ChangeAt Go.RowKit Go.Deep Go.Joins Go.Maps
theorem cZ (rec:NodT→CSt→CSt) (value:Bool) (k:NodT) (r:List NodT) (s:CSt):bB rec value (k :: r) s=if r.length=0∧k.kind=10 then rec k s else if r.length=0∧value=true then aB (rec k s) 20 0 0 else if k.kind=10 then bB rec value r (rec k s) else bB rec value r (aB (rec k s) 12 0 0):=by rw [bB]
theorem Z29 {P:Prop} (h:P:=by
 clear hny e10;go_wp2_with (first | (go_at_call 55;(with_reducible refine (HVA.out HK5.out.ct bel).mono ?_);rintro e w7 ⟨rfl,hx3⟩;have HX7:=J hx3;have HB7:=J ((hx3.2.block wr.heap.size (aA HB5.out) (fun z=>z HIN5.out)).trans HB5.out);clear hx3;have hc6:=bZ HB7.out;have d0:=hc6.c0;have d1:=hc6.c1;have d2:=hc6.c2;have d3:=hc6.c3;have d4:=hc6.c4;have d5:=hc6.c5;clear hc6) | (go_at_call 56;(with_reducible refine (bP HX7.out bel 12 0 0 HF7.out).mono ?_);rintro e w8 ⟨rfl,HX8⟩;replace HX8:=J HX8));go_roundw
 case rel=>exact ⟨k+1,(aB (aL f kd sk) 12 0 0),by go_num,HLT.out,HX.out.back HWB.out HX8.out (fun k z=>.inl z),by rw [HD.out,HDR.out,HNY.out],by
  have h0:=HGR.out.code;have h4:=HGR.out.lits;have h1:=HRM.out;have h2:=HSZ.out;have h3:=kd.size_pos;rw [aM,cC];exact ⟨by omega,by omega⟩⟩
 case measure=>simp [intOf];have:=HLT.out;omega):P:=h
theorem Z30 {P:Prop} (h:P:=by
 clear hny e10;go_wp2_with (first | (go_at_call 55;(with_reducible refine (HVA.out HK5.out.ct bel).mono ?_);rintro e w7 ⟨rfl,hx3⟩;have HX7:=J hx3;have HB7:=J ((hx3.2.block wr.heap.size (aA HB5.out) (fun z=>z HIN5.out)).trans HB5.out);clear hx3;have hc6:=bZ HB7.out;have d0:=hc6.c0;have d1:=hc6.c1;have d2:=hc6.c2;have d3:=hc6.c3;have d4:=hc6.c4;have d5:=hc6.c5;clear hc6));go_roundw
 case rel=>exact ⟨k+1,(aL f kd sk),by go_num,HLT.out,HX.out.back HWB.out HX7.out (fun k z=>.inl z),by rw [HD.out,HDR.out,HNY.out],by
  have h0:=HGR.out.code;have h4:=HGR.out.lits;have h1:=HRM.out;have h2:=HSZ.out;have h3:=kd.size_pos;exact ⟨by omega,by omega⟩⟩
 case measure=>simp [intOf];have:=HLT.out;omega):P:=h
theorem Z31 {P:Prop} (h:P:=by
 clear hny e10;go_wp2_with (first | (go_at_call 55;(with_reducible refine (HVA.out HK5.out.ct bel).mono ?_);rintro e w7 ⟨rfl,hx3⟩;have HX7:=J hx3;have HB7:=J ((hx3.2.block wr.heap.size (aA HB5.out) (fun z=>z HIN5.out)).trans HB5.out);clear hx3;have hc6:=bZ HB7.out;have d0:=hc6.c0;have d1:=hc6.c1;have d2:=hc6.c2;have d3:=hc6.c3;have d4:=hc6.c4;have d5:=hc6.c5;clear hc6));go_returns;rw [HWH.out,HNX.out];exact ⟨rfl,CT.deep HTSB.out (HX.out.back HWB.out HX7.out (fun k z=>.inl z)) HSUB.out HLOW.out⟩):P:=h
theorem Z32 {P:Prop} (h:P:=by
 have hl9:(x.kids.drop (k+1)).length=n-(k+1):=Y36;have hk9:=HLT.out;rw [cZ];rw [if_neg (fun z=>by have:=z.1;omega),if_neg (fun z=>by have:=z.1;omega),if_pos e10]):P:=h
theorem Z33 {P:Prop} (h:P:=by
 have hl9:(x.kids.drop (k+1)).length=n-(k+1):=Y36;have hk9:=HLT.out;rw [cZ];rw [if_neg (fun z=>by have:=z.1;omega),if_neg (fun z=>by have:=z.1;omega),if_neg e10]):P:=h
theorem Z35 {P:Prop} (h:P:=by
 have hl9:(x.kids.drop (k+1)).length=n-(k+1):=Y36;have hk9:=HLT.out;rw [cZ];rw [if_pos ⟨by omega,e10⟩]):P:=h
theorem Z36 {P:Prop} (h:P:=by
 have h1:=dL true x.names s;have h2:=dL false x.temps (bI true x.names s);rw [hsd] at h2;rw [h2.1,h2.2,h1.1,h1.2];exact ⟨by omega,by omega⟩):P:=h
theorem uR {f:Nat} (hv:VSpec f) {w0 w:World} {P:Nat→Prop} {cb:Nat} {m:MK} {s:CSt} (h:CX w0 P w cb m s) {x:NodT} {q:NS} (hn:IsNd w0 (fun _=>True) x q) (hx:x.size≤f+1) (hf:s.code.length+8*x.size≤1000000) (hl:s.lits.length+x.size≤100000):
  Calls Tryz.prog 31 #[.pointer (some ⟨cb,0,none⟩),ndV x q,.bool true] w fun e w'=>e= .returned (.tuple #[])∧CT w0 P w w' cb m (fP (aL f) x true s):=by
 have HV:=J hv;have hxs:=x.size_kids;obtain ⟨n,hnk⟩:=aE x.kids.length;have HNK:=J hnk;have HLOW:=J h.low;have HSN:Hid (Strs w0 (fun _=>True) q.pn x.names∧Strs w0 (fun _=>True) q.pt x.temps):=J hn.strs;have hok:=hn.ok;have HNL:Hid (x.names.length≤9223372036854775807):=J Y74;have HTL:Hid (x.temps.length≤9223372036854775807):=J Y75;have hle:n≤9223372036854775807:=Y76;have HRW:=J hn.rows;have hbe:Below w.heap.size w (w.alloc (.cells #[.int .i64 x.kind,.string x.text,.int .i64 x.num,.slice q.pn x.names.length q.cn,.slice q.pt x.temps.length q.ct,.slice q.pk n q.ck] 25)):=ba;have HX2:Hid (CT w0 (fun k=>P k∨(w.heap.size≤k∧k<(w.alloc (.cells #[.int .i64 x.kind,.string x.text,.int .i64 x.num,.slice q.pn x.names.length q.cn,.slice q.pt x.temps.length q.ct,.slice q.pk n q.ck] 25)).heap.size)) (w.alloc (.cells #[.int .i64 x.kind,.string x.text,.int .i64 x.num,.slice q.pn x.names.length q.cn,.slice q.pt x.temps.length q.ct,.slice q.pk n q.ck] 25)) (w.alloc (.cells #[.int .i64 x.kind,.string x.text,.int .i64 x.num,.slice q.pn x.names.length q.cn,.slice q.pt x.temps.length q.ct,.slice q.pk n q.ck] 25)) cb m s):=J (h.keep hbe).ct;have HB2:Hid ((w.alloc (.cells #[.int .i64 x.kind,.string x.text,.int .i64 x.num,.slice q.pn x.names.length q.cn,.slice q.pt x.temps.length q.ct,.slice q.pk n q.ck] 25)).heap[w.heap.size]? =some (.cells #[.int .i64 x.kind,.string x.text,.int .i64 x.num,.slice q.pn x.names.length q.cn,.slice q.pt x.temps.length q.ct,.slice q.pk n q.ck] 25 (0,0))):=J (heap_alloc_new w _);have HBL:=J (aA HB2.out);have HTS:Hid (Turns (cP P) w (w.alloc (.cells #[.int .i64 x.kind,.string x.text,.int .i64 x.num,.slice q.pn x.names.length q.cn,.slice q.pt x.temps.length q.ct,.slice q.pk n q.ck] 25))):=J (Turns.of_below hbe);obtain ⟨Pb,hPb⟩:∃Pb:Nat→Prop,(fun k=>P k∨(w.heap.size≤k∧k<(w.alloc (.cells #[.int .i64 x.kind,.string x.text,.int .i64 x.num,.slice q.pn x.names.length q.cn,.slice q.pt x.temps.length q.ct,.slice q.pk n q.ck] 25)).heap.size))=Pb:=⟨_,rfl⟩;rw [hPb] at HX2;have INB:Hid (Pb w.heap.size):=J (by rw [←hPb];exact .inr ⟨Nat.le_refl _,HBL.out⟩);have HSUB:Hid (∀k,P k→Pb k):=J (fun k z=>by rw [←hPb];exact .inl z);obtain ⟨sd,hsd⟩:=aE (bI false x.temps (bI true x.names s));have HSD:=J hsd;have HWH:Hid (fP (aL f) x true s=bB (aL f) true x.kids sd):=J (by unfold fP;rw [hsd]);have HRM0:Hid (sd.code.length+8*NodT.sizes x.kids+2≤1000000∧sd.lits.length+NodT.sizes x.kids≤100000):=J (by
  exact Z36)
 have HXS:Hid (NodT.sizes x.kids≤f):=J I;have hwl:IntKind.i64.wrap ((n:Int)-1)=(n:Int)-1:=Y27;unfold ndV;rw [hnk];clear hnk hok hsd hn hx hf hl hv hxs h hbe hPb;go_enter Tryz.func31,Tryz.ntmps31;go_wp2_with (first | (go_at_call 54;(with_reducible refine (lG HX2.out bel HSN.out.1 rfl HNL.out true).mono ?_);rintro e w3 ⟨rfl,hx3⟩;have HX3:=J hx3;have HB3:=J ((hx3.2.block w.heap.size HBL.out (fun z=>z INB.out)).trans HB2.out);clear hx3;have hc6:=cW HB3.out;have c0:=hc6.c0;have c1:=hc6.c1;have c2:=hc6.c2;have c3:=hc6.c3;have c4:=hc6.c4;have c5:=hc6.c5;clear hc6) | (go_at_call 54;(with_reducible refine (lG HX3.out bel HSN.out.2 rfl HTL.out false).mono ?_);rintro e w4 ⟨rfl,hx3⟩;have HX4:=J hx3;have HB4:=J ((hx3.2.block w.heap.size HBL.out (fun z=>z INB.out)).trans HB2.out);clear hx3;have hc6:=cW HB4.out;have c0:=hc6.c0;have c1:=hc6.c1;have c2:=hc6.c2;have c3:=hc6.c3;have c4:=hc6.c4;have c5:=hc6.c5;clear hc6));obtain ⟨wB,hwB⟩:∃wB,w.alloc (.cells #[.int .i64 x.kind,.string x.text,.int .i64 x.num,.slice q.pn x.names.length q.cn,.slice q.pt x.temps.length q.ct,.slice q.pk n q.ck] 25)=wB:=⟨_,rfl⟩;have HTSB:Hid (Turns (cP P) w wB):=J (by rw [←hwB];exact HTS.out);have HX4B:Hid (CT w0 Pb wB w4 cb m sd):=J (by rw [←hwB,←HSD.out];exact HX4.out);clear hwB
 go_loopw [24] (fun i wr=>∃(k:Nat) (sk:CSt),i= .int .i64 k∧k≤n∧CT w0 Pb wB wr cb m sk∧bB (aL f) true x.kids sd=bB (aL f) true (x.kids.drop k) sk∧(sk.code.length+8*NodT.sizes (x.kids.drop k)+2≤1000000∧sk.lits.length+NodT.sizes (x.kids.drop k)≤100000)) (fun i _=>n-(intOf i).toNat)
 case atStart=>exact ⟨0,sd,rfl,Nat.zero_le _,HX4B.out,rfl,HRM0.out⟩
 case round=>
  obtain ⟨k,sk,rfl,hk,hct,hde,hrm⟩:=hrel;have HX:=J hct;have HD:=J hde;have HRM:=J hrm;clear hct hde hrm c0 c1 c2 c3 c4 c5
  by_cases hlt:k<n
  ·have d1:=aD hlt;have d2:=aT hlt;have hkl:k<x.kids.length:=Y82;obtain ⟨b,off,q',hpk,hbl,hc6,hkd⟩:=HRW.out k hkl;have hsz:=dN x.kids k hkl;have hst:=HX.out.1.stat;have hc6w:=hc6.same (hst.block b hbl);have hsk:(x.kids[k]).size≤f:=Nat.le_trans (cR x.kids k hkl) HXS.out;have hdr:x.kids.drop k=x.kids[k] :: x.kids.drop (k+1):=List.drop_eq_getElem_cons hkl;obtain ⟨kd,hkx⟩:=aE (x.kids[k]);rw [hkx] at hc6w hkd hsz hsk hdr;have HSZ:=J hsz;have HSK:=J hsk;have HDR:=J hdr;have HKD:=J hkd;have HLT:=J hlt;have HGR:=J (dB f kd sk hsk);have hbw:b<wr.heap.size:=aN hbl hst.size;have c0:=hc6w.c0;have c1:=hc6w.c1;have c2:=hc6w.c2;have c3:=hc6w.c3;have c4:=hc6w.c4;have c5:=hc6w.c5;have g0:(0:Int)≤(k:Int):=I;have g1:(k:Int)<(n:Int):=I;have hbe:Below wr.heap.size wr (wr.alloc (.cells #[.int .i64 kd.kind,.string kd.text,.int .i64 kd.num,.slice q'.pn kd.names.length q'.cn,.slice q'.pt kd.temps.length q'.ct,.slice q'.pk kd.kids.length q'.ck] 25)):=ba;have hk5:=HX.out.1.keep hbe;have hb5:(wr.alloc (.cells #[.int .i64 kd.kind,.string kd.text,.int .i64 kd.num,.slice q'.pn kd.names.length q'.cn,.slice q'.pt kd.temps.length q'.ct,.slice q'.pk kd.kids.length q'.ck] 25)).heap[wr.heap.size]? =some (.cells #[.int .i64 kd.kind,.string kd.text,.int .i64 kd.num,.slice q'.pn kd.names.length q'.cn,.slice q'.pt kd.temps.length q'.ct,.slice q'.pk kd.kids.length q'.ck] 25 (0,0)):=heap_alloc_new wr _;have hin5:wr.heap.size≤wr.heap.size∧wr.heap.size<(wr.alloc (.cells #[.int .i64 kd.kind,.string kd.text,.int .i64 kd.num,.slice q'.pn kd.names.length q'.cn,.slice q'.pt kd.temps.length q'.ct,.slice q'.pk kd.kids.length q'.ck] 25)).heap.size:=⟨Nat.le_refl _,aA hb5⟩;have HWB0:=J hbe;have HK50:=J hk5;have HB50:=J hb5;have HIN50:=J hin5;clear hbe hk5 hb5 hin5;rw [hpk];clear hst hc6 hc6w hkd hsz hsk hdr hkx hkl hlt hpk
   go_upto_region 7 with fail
   have hbe:=HWB0.out;have hk5:=HK50.out;have hb5:=HB50.out;have hin5:=HIN50.out;obtain ⟨wb,hwb⟩:∃wb,(wr.alloc (.cells #[.int .i64 kd.kind,.string kd.text,.int .i64 kd.num,.slice q'.pn kd.names.length q'.cn,.slice q'.pt kd.temps.length q'.ct,.slice q'.pk kd.kids.length q'.ck] 25))=wb:=⟨_,rfl⟩;rw [hwb] at hbe hk5 hb5 hin5 ⊢;have HWB:=J hbe;have HK5:=J hk5;have HB5:=J hb5;have HIN5:Hid ((fun j=>Pb j∨wr.heap.size≤j∧j<wb.heap.size) wr.heap.size):=J (.inr hin5);have hc6:=bZ HB5.out;have d0:=hc6.c0;have d1:=hc6.c1;have d2:=hc6.c2;have d3:=hc6.c3;have d4:=hc6.c4;have d5:=hc6.c5;clear hc6;have hva:∀{wa W:World},CT w0 (fun j=>Pb j∨wr.heap.size≤j∧j<wb.heap.size) wb wa cb m sk→Below wa.heap.size wa W→Calls Tryz.prog 55 #[.pointer (some ⟨cb,0,none⟩),ndV kd q'] W fun e w'=>e= .returned (.tuple #[])∧CT w0 (fun j=>Pb j∨wr.heap.size≤j∧j<wb.heap.size) wb w' cb m (aL f kd sk):=fun hc hb=>HV.out.at_ HSK.out hc hb HKD.out Y31 Y31
   unfold ndV at hva;have HVA:Hid (∀{wa W:World},CT w0 (fun j=>Pb j∨wr.heap.size≤j∧j<wb.heap.size) wb wa cb m sk→Below wa.heap.size wa W→_):=J hva;have HF7:Hid ((aL f kd sk).code.length≤1000000):=J Y87;clear hbe hk5 hb5 hin5 hwb HWB0 HK50 HB50 HIN50 hva
   by_cases el:k+1=n
   ·have l1:((k:Int)==(n:Int)-1)=true:=Y4;have l2:(k:Int)=(n:Int)-1:=I
    by_cases e10:kd.kind=10
    ·have q1:(kd.kind==10)=true:=Y26;have hny:bB (aL f) true (kd :: x.kids.drop (k+1)) sk=(aL f kd sk):=by
      exact Z35
     have HNY:=J hny;have HNX:Hid (bB (aL f) true x.kids sd=(aL f kd sk)):=J Y78;exact Z31
    ·have q1:(kd.kind==10)=false:=Y26;have hny:bB (aL f) true (kd :: x.kids.drop (k+1)) sk=aB (aL f kd sk) 20 0 0:=by
      have hl9:(x.kids.drop (k+1)).length=n-(k+1):=Y36;have hk9:=HLT.out;rw [cZ];rw [if_neg (fun z=>e10 z.2),if_pos ⟨by omega,rfl⟩]
     have HNY:=J hny;have HNX:Hid (bB (aL f) true x.kids sd=aB (aL f kd sk) 20 0 0):=J Y78;clear hny e10;go_wp2_with (first | (go_at_call 55;(with_reducible refine (HVA.out HK5.out.ct bel).mono ?_);rintro e w7 ⟨rfl,hx3⟩;have HX7:=J hx3;have HB7:=J ((hx3.2.block wr.heap.size (aA HB5.out) (fun z=>z HIN5.out)).trans HB5.out);clear hx3;have hc6:=bZ HB7.out;have d0:=hc6.c0;have d1:=hc6.c1;have d2:=hc6.c2;have d3:=hc6.c3;have d4:=hc6.c4;have d5:=hc6.c5;clear hc6) | (go_at_call 56;(with_reducible refine (bP HX7.out bel 20 0 0 HF7.out).mono ?_);rintro e w8 ⟨rfl,HX8⟩;replace HX8:=J HX8));go_returns;rw [HWH.out,HNX.out];exact ⟨rfl,CT.deep HTSB.out (HX.out.back HWB.out HX8.out (fun k z=>.inl z)) HSUB.out HLOW.out⟩
   ·have l1:((k:Int)==(n:Int)-1)=false:=Y4;have l2:¬((k:Int)=(n:Int)-1):=I
    by_cases e10:kd.kind=10
    ·have q1:(kd.kind==10)=true:=Y26;have hny:bB (aL f) true (kd :: x.kids.drop (k+1)) sk=bB (aL f) true (x.kids.drop (k+1)) (aL f kd sk):=by
      exact Z32
     have HNY:=J hny;have HNX:Hid (bB (aL f) true x.kids sd=bB (aL f) true (x.kids.drop (k+1)) (aL f kd sk)):=J Y78;exact Z30
    ·have q1:(kd.kind==10)=false:=Y26;have hny:bB (aL f) true (kd :: x.kids.drop (k+1)) sk=bB (aL f) true (x.kids.drop (k+1)) (aB (aL f kd sk) 12 0 0):=by
      exact Z33
     have HNY:=J hny;have HNX:Hid (bB (aL f) true x.kids sd=bB (aL f) true (x.kids.drop (k+1)) (aB (aL f kd sk) 12 0 0)):=J Y78;exact Z29
  ·skip
   have hkn:k=n:=I;have d1:=aK hlt;have d2:=aF hlt;clear hlt;have HD0:Hid (bB (aL f) true x.kids sd=aB (aB sk 2 0 0) 20 0 0):=J Y70;subst hkn;have HFZ:Hid (sk.code.length≤1000000):=J Y34;have HFY:Hid ((aB sk 2 0 0).code.length≤1000000):=J Y120;go_wp2_with (first | (go_at_call 56;(with_reducible refine (bP HX.out bel 2 0 0 HFZ.out).mono ?_);rintro e w8 ⟨rfl,HX8⟩;replace HX8:=J HX8) | (go_at_call 56;(with_reducible refine (bP HX8.out bel 20 0 0 HFY.out).mono ?_);rintro e w9 ⟨rfl,HX9⟩;replace HX9:=J HX9));go_returns;rw [HWH.out,HD0.out];exact ⟨rfl,CT.deep HTSB.out HX9.out HSUB.out HLOW.out⟩
theorem Z34 {P:Prop} (h:P:=by
 have HNY:=J hny;have HNX:Hid (bB (aL f) false x.kids sd=bB (aL f) false (x.kids.drop (k+1)) (aB (aL f kd sk) 12 0 0)):=J Y78;exact Z29):P:=h
theorem sV {f:Nat} (hv:VSpec f) {w0 w:World} {P:Nat→Prop} {cb:Nat} {m:MK} {s:CSt} (h:CX w0 P w cb m s) {x:NodT} {q:NS} (hn:IsNd w0 (fun _=>True) x q) (hx:x.size≤f+1) (hf:s.code.length+8*x.size≤1000000) (hl:s.lits.length+x.size≤100000):
  Calls Tryz.prog 31 #[.pointer (some ⟨cb,0,none⟩),ndV x q,.bool false] w fun e w'=>e= .returned (.tuple #[])∧CT w0 P w w' cb m (fP (aL f) x false s):=by
 have HV:=J hv;have hxs:=x.size_kids;obtain ⟨n,hnk⟩:=aE x.kids.length;have HNK:=J hnk;have HLOW:=J h.low;have HSN:Hid (Strs w0 (fun _=>True) q.pn x.names∧Strs w0 (fun _=>True) q.pt x.temps):=J hn.strs;have hok:=hn.ok;have HNL:Hid (x.names.length≤9223372036854775807):=J Y74;have HTL:Hid (x.temps.length≤9223372036854775807):=J Y75;have hle:n≤9223372036854775807:=Y76;have HRW:=J hn.rows;have hbe:Below w.heap.size w (w.alloc (.cells #[.int .i64 x.kind,.string x.text,.int .i64 x.num,.slice q.pn x.names.length q.cn,.slice q.pt x.temps.length q.ct,.slice q.pk n q.ck] 25)):=ba;have HX2:Hid (CT w0 (fun k=>P k∨(w.heap.size≤k∧k<(w.alloc (.cells #[.int .i64 x.kind,.string x.text,.int .i64 x.num,.slice q.pn x.names.length q.cn,.slice q.pt x.temps.length q.ct,.slice q.pk n q.ck] 25)).heap.size)) (w.alloc (.cells #[.int .i64 x.kind,.string x.text,.int .i64 x.num,.slice q.pn x.names.length q.cn,.slice q.pt x.temps.length q.ct,.slice q.pk n q.ck] 25)) (w.alloc (.cells #[.int .i64 x.kind,.string x.text,.int .i64 x.num,.slice q.pn x.names.length q.cn,.slice q.pt x.temps.length q.ct,.slice q.pk n q.ck] 25)) cb m s):=J (h.keep hbe).ct;have HB2:Hid ((w.alloc (.cells #[.int .i64 x.kind,.string x.text,.int .i64 x.num,.slice q.pn x.names.length q.cn,.slice q.pt x.temps.length q.ct,.slice q.pk n q.ck] 25)).heap[w.heap.size]? =some (.cells #[.int .i64 x.kind,.string x.text,.int .i64 x.num,.slice q.pn x.names.length q.cn,.slice q.pt x.temps.length q.ct,.slice q.pk n q.ck] 25 (0,0))):=J (heap_alloc_new w _);have HBL:=J (aA HB2.out);have HTS:Hid (Turns (cP P) w (w.alloc (.cells #[.int .i64 x.kind,.string x.text,.int .i64 x.num,.slice q.pn x.names.length q.cn,.slice q.pt x.temps.length q.ct,.slice q.pk n q.ck] 25))):=J (Turns.of_below hbe);obtain ⟨Pb,hPb⟩:∃Pb:Nat→Prop,(fun k=>P k∨(w.heap.size≤k∧k<(w.alloc (.cells #[.int .i64 x.kind,.string x.text,.int .i64 x.num,.slice q.pn x.names.length q.cn,.slice q.pt x.temps.length q.ct,.slice q.pk n q.ck] 25)).heap.size))=Pb:=⟨_,rfl⟩;rw [hPb] at HX2;have INB:Hid (Pb w.heap.size):=J (by rw [←hPb];exact .inr ⟨Nat.le_refl _,HBL.out⟩);have HSUB:Hid (∀k,P k→Pb k):=J (fun k z=>by rw [←hPb];exact .inl z);obtain ⟨sd,hsd⟩:=aE (bI false x.temps (bI true x.names s));have HSD:=J hsd;have HWH:Hid (fP (aL f) x false s=bB (aL f) false x.kids sd):=J (by unfold fP;rw [hsd]);have HRM0:Hid (sd.code.length+8*NodT.sizes x.kids+2≤1000000∧sd.lits.length+NodT.sizes x.kids≤100000):=J (by
  exact Z36)
 have HXS:Hid (NodT.sizes x.kids≤f):=J I;have hwl:IntKind.i64.wrap ((n:Int)-1)=(n:Int)-1:=Y27;unfold ndV;rw [hnk];clear hnk hok hsd hn hx hf hl hv hxs h hbe hPb;go_enter Tryz.func31,Tryz.ntmps31;go_wp2_with (first | (go_at_call 54;(with_reducible refine (lG HX2.out bel HSN.out.1 rfl HNL.out true).mono ?_);rintro e w3 ⟨rfl,hx3⟩;have HX3:=J hx3;have HB3:=J ((hx3.2.block w.heap.size HBL.out (fun z=>z INB.out)).trans HB2.out);clear hx3;have hc6:=cW HB3.out;have c0:=hc6.c0;have c1:=hc6.c1;have c2:=hc6.c2;have c3:=hc6.c3;have c4:=hc6.c4;have c5:=hc6.c5;clear hc6) | (go_at_call 54;(with_reducible refine (lG HX3.out bel HSN.out.2 rfl HTL.out false).mono ?_);rintro e w4 ⟨rfl,hx3⟩;have HX4:=J hx3;have HB4:=J ((hx3.2.block w.heap.size HBL.out (fun z=>z INB.out)).trans HB2.out);clear hx3;have hc6:=cW HB4.out;have c0:=hc6.c0;have c1:=hc6.c1;have c2:=hc6.c2;have c3:=hc6.c3;have c4:=hc6.c4;have c5:=hc6.c5;clear hc6));obtain ⟨wB,hwB⟩:∃wB,w.alloc (.cells #[.int .i64 x.kind,.string x.text,.int .i64 x.num,.slice q.pn x.names.length q.cn,.slice q.pt x.temps.length q.ct,.slice q.pk n q.ck] 25)=wB:=⟨_,rfl⟩;have HTSB:Hid (Turns (cP P) w wB):=J (by rw [←hwB];exact HTS.out);have HX4B:Hid (CT w0 Pb wB w4 cb m sd):=J (by rw [←hwB,←HSD.out];exact HX4.out);clear hwB
 go_loopw [24] (fun i wr=>∃(k:Nat) (sk:CSt),i= .int .i64 k∧k≤n∧CT w0 Pb wB wr cb m sk∧bB (aL f) false x.kids sd=bB (aL f) false (x.kids.drop k) sk∧(sk.code.length+8*NodT.sizes (x.kids.drop k)+2≤1000000∧sk.lits.length+NodT.sizes (x.kids.drop k)≤100000)) (fun i _=>n-(intOf i).toNat)
 case atStart=>exact ⟨0,sd,rfl,Nat.zero_le _,HX4B.out,rfl,HRM0.out⟩
 case round=>
  obtain ⟨k,sk,rfl,hk,hct,hde,hrm⟩:=hrel;have HX:=J hct;have HD:=J hde;have HRM:=J hrm;clear hct hde hrm c0 c1 c2 c3 c4 c5
  by_cases hlt:k<n
  ·have d1:=aD hlt;have d2:=aT hlt;have hkl:k<x.kids.length:=Y82;obtain ⟨b,off,q',hpk,hbl,hc6,hkd⟩:=HRW.out k hkl;have hsz:=dN x.kids k hkl;have hst:=HX.out.1.stat;have hc6w:=hc6.same (hst.block b hbl);have hsk:(x.kids[k]).size≤f:=Nat.le_trans (cR x.kids k hkl) HXS.out;have hdr:x.kids.drop k=x.kids[k] :: x.kids.drop (k+1):=List.drop_eq_getElem_cons hkl;obtain ⟨kd,hkx⟩:=aE (x.kids[k]);rw [hkx] at hc6w hkd hsz hsk hdr;have HSZ:=J hsz;have HSK:=J hsk;have HDR:=J hdr;have HKD:=J hkd;have HLT:=J hlt;have HGR:=J (dB f kd sk hsk);have hbw:b<wr.heap.size:=aN hbl hst.size;have c0:=hc6w.c0;have c1:=hc6w.c1;have c2:=hc6w.c2;have c3:=hc6w.c3;have c4:=hc6w.c4;have c5:=hc6w.c5;have g0:(0:Int)≤(k:Int):=I;have g1:(k:Int)<(n:Int):=I;have hbe:Below wr.heap.size wr (wr.alloc (.cells #[.int .i64 kd.kind,.string kd.text,.int .i64 kd.num,.slice q'.pn kd.names.length q'.cn,.slice q'.pt kd.temps.length q'.ct,.slice q'.pk kd.kids.length q'.ck] 25)):=ba;have hk5:=HX.out.1.keep hbe;have hb5:(wr.alloc (.cells #[.int .i64 kd.kind,.string kd.text,.int .i64 kd.num,.slice q'.pn kd.names.length q'.cn,.slice q'.pt kd.temps.length q'.ct,.slice q'.pk kd.kids.length q'.ck] 25)).heap[wr.heap.size]? =some (.cells #[.int .i64 kd.kind,.string kd.text,.int .i64 kd.num,.slice q'.pn kd.names.length q'.cn,.slice q'.pt kd.temps.length q'.ct,.slice q'.pk kd.kids.length q'.ck] 25 (0,0)):=heap_alloc_new wr _;have hin5:wr.heap.size≤wr.heap.size∧wr.heap.size<(wr.alloc (.cells #[.int .i64 kd.kind,.string kd.text,.int .i64 kd.num,.slice q'.pn kd.names.length q'.cn,.slice q'.pt kd.temps.length q'.ct,.slice q'.pk kd.kids.length q'.ck] 25)).heap.size:=⟨Nat.le_refl _,aA hb5⟩;have HWB0:=J hbe;have HK50:=J hk5;have HB50:=J hb5;have HIN50:=J hin5;clear hbe hk5 hb5 hin5;rw [hpk];clear hst hc6 hc6w hkd hsz hsk hdr hkx hkl hlt hpk
   go_upto_region 7 with fail
   have hbe:=HWB0.out;have hk5:=HK50.out;have hb5:=HB50.out;have hin5:=HIN50.out;obtain ⟨wb,hwb⟩:∃wb,(wr.alloc (.cells #[.int .i64 kd.kind,.string kd.text,.int .i64 kd.num,.slice q'.pn kd.names.length q'.cn,.slice q'.pt kd.temps.length q'.ct,.slice q'.pk kd.kids.length q'.ck] 25))=wb:=⟨_,rfl⟩;rw [hwb] at hbe hk5 hb5 hin5 ⊢;have HWB:=J hbe;have HK5:=J hk5;have HB5:=J hb5;have HIN5:Hid ((fun j=>Pb j∨wr.heap.size≤j∧j<wb.heap.size) wr.heap.size):=J (.inr hin5);have hc6:=bZ HB5.out;have d0:=hc6.c0;have d1:=hc6.c1;have d2:=hc6.c2;have d3:=hc6.c3;have d4:=hc6.c4;have d5:=hc6.c5;clear hc6;have hva:∀{wa W:World},CT w0 (fun j=>Pb j∨wr.heap.size≤j∧j<wb.heap.size) wb wa cb m sk→Below wa.heap.size wa W→Calls Tryz.prog 55 #[.pointer (some ⟨cb,0,none⟩),ndV kd q'] W fun e w'=>e= .returned (.tuple #[])∧CT w0 (fun j=>Pb j∨wr.heap.size≤j∧j<wb.heap.size) wb w' cb m (aL f kd sk):=fun hc hb=>HV.out.at_ HSK.out hc hb HKD.out Y31 Y31
   unfold ndV at hva;have HVA:Hid (∀{wa W:World},CT w0 (fun j=>Pb j∨wr.heap.size≤j∧j<wb.heap.size) wb wa cb m sk→Below wa.heap.size wa W→_):=J hva;have HF7:Hid ((aL f kd sk).code.length≤1000000):=J Y87;clear hbe hk5 hb5 hin5 hwb HWB0 HK50 HB50 HIN50 hva
   by_cases el:k+1=n
   ·have l1:((k:Int)==(n:Int)-1)=true:=Y4;have l2:(k:Int)=(n:Int)-1:=I
    by_cases e10:kd.kind=10
    ·have q1:(kd.kind==10)=true:=Y26;have hny:bB (aL f) false (kd :: x.kids.drop (k+1)) sk=(aL f kd sk):=by
      exact Z35
     have HNY:=J hny;have HNX:Hid (bB (aL f) false x.kids sd=(aL f kd sk)):=J Y78;exact Z31
    ·have q1:(kd.kind==10)=false:=Y26;have hny:bB (aL f) false (kd :: x.kids.drop (k+1)) sk=bB (aL f) false (x.kids.drop (k+1)) (aB (aL f kd sk) 12 0 0):=by
      have hl9:(x.kids.drop (k+1)).length=n-(k+1):=Y36;have hk9:=HLT.out;rw [cZ];rw [if_neg (fun z=>e10 z.2),if_neg (fun z=>by cases z.2),if_neg e10]
     exact Z34
   ·have l1:((k:Int)==(n:Int)-1)=false:=Y4;have l2:¬((k:Int)=(n:Int)-1):=I
    by_cases e10:kd.kind=10
    ·have q1:(kd.kind==10)=true:=Y26;have hny:bB (aL f) false (kd :: x.kids.drop (k+1)) sk=bB (aL f) false (x.kids.drop (k+1)) (aL f kd sk):=by
      exact Z32
     have HNY:=J hny;have HNX:Hid (bB (aL f) false x.kids sd=bB (aL f) false (x.kids.drop (k+1)) (aL f kd sk)):=J Y78;exact Z30
    ·have q1:(kd.kind==10)=false:=Y26;have hny:bB (aL f) false (kd :: x.kids.drop (k+1)) sk=bB (aL f) false (x.kids.drop (k+1)) (aB (aL f kd sk) 12 0 0):=by
      exact Z33
     exact Z34
  ·skip
   have hkn:k=n:=I;have d1:=aK hlt;have d2:=aF hlt;clear hlt;have HD0:Hid (bB (aL f) false x.kids sd=aB (aB sk 1 0 0) 20 0 0):=J Y70;subst hkn;have HFZ:Hid (sk.code.length≤1000000):=J Y34;have HFY:Hid ((aB sk 1 0 0).code.length≤1000000):=J Y120;go_wp2_with (first | (go_at_call 56;(with_reducible refine (bP HX.out bel 1 0 0 HFZ.out).mono ?_);rintro e w8 ⟨rfl,HX8⟩;replace HX8:=J HX8) | (go_at_call 56;(with_reducible refine (bP HX8.out bel 20 0 0 HFY.out).mono ?_);rintro e w9 ⟨rfl,HX9⟩;replace HX9:=J HX9));go_returns;rw [HWH.out,HD0.out];exact ⟨rfl,CT.deep HTSB.out HX9.out HSUB.out HLOW.out⟩
end Go.Proofs.YtnojndgmgkgnpaaGreat
namespace Go.Proofs.YtnojndgmgkgnpaaGreat.Lv
open Go.ChangeShapes Go.WideShapes Go.ChangeAt Go.RowKit
theorem cI {k:IntKind} {a b:Int} (h:a=b):Ending.returned (.int k a)= .returned (.int k b):=by rw [h]
theorem aY {a b:Bool} (h:a=b):Ending.returned (.bool a)= .returned (.bool b):=by rw [h]
theorem eK {a b c d:Bool} (h:a=b) (h':c=d):Ending.returned (.tuple #[.bool a,.bool c])= .returned (.tuple #[.bool b,.bool d]):=by rw [h,h']
theorem aP {op:Int} (h:op<1∨20<op):aQ op=0:=by unfold aQ;rw [if_neg I,if_neg I]
theorem sW (op:Int):op=1∨op=2∨op=3∨op=4∨op=5∨op=6∨op=7∨op=8∨op=9∨op=10∨op=11∨op=12∨op=13∨op=14∨op=15∨op=16∨op=17∨op=18∨op=19∨op=20∨(op<1∨20<op):=I
theorem Z37 {P:Prop} (h:P:=by
 go_enter Tryz.func57,Tryz.ntmps57;go_wp2;go_ret2;exact ⟨eK Y66 Y66,rfl⟩):P:=h
theorem uses_1 (w:World):Calls Tryz.prog 57 #[.int .i64 1] w fun e w'=>e= .returned (.tuple #[.bool (decide (0<aQ 1)),.bool (decide (1<aQ 1))])∧w'=w:=by
 exact Z37
theorem uses_2 (w:World):Calls Tryz.prog 57 #[.int .i64 2] w fun e w'=>e= .returned (.tuple #[.bool (decide (0<aQ 2)),.bool (decide (1<aQ 2))])∧w'=w:=by
 exact Z37
theorem uses_3 (w:World):Calls Tryz.prog 57 #[.int .i64 3] w fun e w'=>e= .returned (.tuple #[.bool (decide (0<aQ 3)),.bool (decide (1<aQ 3))])∧w'=w:=by
 exact Z37
theorem uses_4 (w:World):Calls Tryz.prog 57 #[.int .i64 4] w fun e w'=>e= .returned (.tuple #[.bool (decide (0<aQ 4)),.bool (decide (1<aQ 4))])∧w'=w:=by
 exact Z37
theorem uses_5 (w:World):Calls Tryz.prog 57 #[.int .i64 5] w fun e w'=>e= .returned (.tuple #[.bool (decide (0<aQ 5)),.bool (decide (1<aQ 5))])∧w'=w:=by
 exact Z37
theorem uses_6 (w:World):Calls Tryz.prog 57 #[.int .i64 6] w fun e w'=>e= .returned (.tuple #[.bool (decide (0<aQ 6)),.bool (decide (1<aQ 6))])∧w'=w:=by
 exact Z37
theorem uses_7 (w:World):Calls Tryz.prog 57 #[.int .i64 7] w fun e w'=>e= .returned (.tuple #[.bool (decide (0<aQ 7)),.bool (decide (1<aQ 7))])∧w'=w:=by
 exact Z37
theorem uses_8 (w:World):Calls Tryz.prog 57 #[.int .i64 8] w fun e w'=>e= .returned (.tuple #[.bool (decide (0<aQ 8)),.bool (decide (1<aQ 8))])∧w'=w:=by
 exact Z37
theorem uses_9 (w:World):Calls Tryz.prog 57 #[.int .i64 9] w fun e w'=>e= .returned (.tuple #[.bool (decide (0<aQ 9)),.bool (decide (1<aQ 9))])∧w'=w:=by
 exact Z37
theorem uses_10 (w:World):Calls Tryz.prog 57 #[.int .i64 10] w fun e w'=>e= .returned (.tuple #[.bool (decide (0<aQ 10)),.bool (decide (1<aQ 10))])∧w'=w:=by
 exact Z37
theorem uses_11 (w:World):Calls Tryz.prog 57 #[.int .i64 11] w fun e w'=>e= .returned (.tuple #[.bool (decide (0<aQ 11)),.bool (decide (1<aQ 11))])∧w'=w:=by
 exact Z37
theorem uses_12 (w:World):Calls Tryz.prog 57 #[.int .i64 12] w fun e w'=>e= .returned (.tuple #[.bool (decide (0<aQ 12)),.bool (decide (1<aQ 12))])∧w'=w:=by
 exact Z37
theorem uses_13 (w:World):Calls Tryz.prog 57 #[.int .i64 13] w fun e w'=>e= .returned (.tuple #[.bool (decide (0<aQ 13)),.bool (decide (1<aQ 13))])∧w'=w:=by
 exact Z37
theorem uses_14 (w:World):Calls Tryz.prog 57 #[.int .i64 14] w fun e w'=>e= .returned (.tuple #[.bool (decide (0<aQ 14)),.bool (decide (1<aQ 14))])∧w'=w:=by
 exact Z37
theorem uses_15 (w:World):Calls Tryz.prog 57 #[.int .i64 15] w fun e w'=>e= .returned (.tuple #[.bool (decide (0<aQ 15)),.bool (decide (1<aQ 15))])∧w'=w:=by
 exact Z37
theorem uses_16 (w:World):Calls Tryz.prog 57 #[.int .i64 16] w fun e w'=>e= .returned (.tuple #[.bool (decide (0<aQ 16)),.bool (decide (1<aQ 16))])∧w'=w:=by
 exact Z37
theorem uses_17 (w:World):Calls Tryz.prog 57 #[.int .i64 17] w fun e w'=>e= .returned (.tuple #[.bool (decide (0<aQ 17)),.bool (decide (1<aQ 17))])∧w'=w:=by
 exact Z37
theorem uses_18 (w:World):Calls Tryz.prog 57 #[.int .i64 18] w fun e w'=>e= .returned (.tuple #[.bool (decide (0<aQ 18)),.bool (decide (1<aQ 18))])∧w'=w:=by
 exact Z37
theorem uses_19 (w:World):Calls Tryz.prog 57 #[.int .i64 19] w fun e w'=>e= .returned (.tuple #[.bool (decide (0<aQ 19)),.bool (decide (1<aQ 19))])∧w'=w:=by
 exact Z37
theorem uses_20 (w:World):Calls Tryz.prog 57 #[.int .i64 20] w fun e w'=>e= .returned (.tuple #[.bool (decide (0<aQ 20)),.bool (decide (1<aQ 20))])∧w'=w:=by
 exact Z37
theorem Z39 {P:Prop} (h:P:=by
 go_wp2;go_ret2;exact ⟨eK Y66 Y66,rfl⟩):P:=h
theorem uses_odd (op:Int) (w:World) (ho:op<1∨20<op):Calls Tryz.prog 57 #[.int .i64 op] w fun e w'=>e= .returned (.tuple #[.bool (decide (0<aQ op)),.bool (decide (1<aQ op))])∧w'=w:=by
 have n1:(op==1)=false:=Y4;have m1:(op != 1)=true:=Y4;have n2:(op==2)=false:=Y4;have m2:(op != 2)=true:=Y4;have n3:(op==3)=false:=Y4;have m3:(op != 3)=true:=Y4;have n4:(op==4)=false:=Y4;have m4:(op != 4)=true:=Y4;have n5:(op==5)=false:=Y4;have m5:(op != 5)=true:=Y4;have n6:(op==6)=false:=Y4;have m6:(op != 6)=true:=Y4;have n7:(op==7)=false:=Y4;have m7:(op != 7)=true:=Y4;have n8:(op==8)=false:=Y4;have m8:(op != 8)=true:=Y4;have n9:(op==9)=false:=Y4;have m9:(op != 9)=true:=Y4;have n10:(op==10)=false:=Y4;have m10:(op != 10)=true:=Y4;have n11:(op==11)=false:=Y4;have m11:(op != 11)=true:=Y4;have n12:(op==12)=false:=Y4;have m12:(op != 12)=true:=Y4;have n13:(op==13)=false:=Y4;have m13:(op != 13)=true:=Y4;have n14:(op==14)=false:=Y4;have m14:(op != 14)=true:=Y4;have n15:(op==15)=false:=Y4;have m15:(op != 15)=true:=Y4;have n16:(op==16)=false:=Y4;have m16:(op != 16)=true:=Y4;have n17:(op==17)=false:=Y4;have m17:(op != 17)=true:=Y4;have n18:(op==18)=false:=Y4;have m18:(op != 18)=true:=Y4;have n19:(op==19)=false:=Y4;have m19:(op != 19)=true:=Y4;have n20:(op==20)=false:=Y4;have m20:(op != 20)=true:=Y4;have HO:=J ho;clear ho;go_enter Tryz.func57,Tryz.ntmps57
 rcases HO.out with ho | ho
 ·have d1:¬1≤op:=I;have d6:¬6≤op:=I;have d14:¬14≤op:=I;exact Z39
 ·have d9:¬op≤9:=I;have d11:¬op≤11:=I;have d18:¬op≤18:=I;exact Z39
theorem nC (op:Int) (w:World):Calls Tryz.prog 57 #[.int .i64 op] w fun e w'=>e= .returned (.tuple #[.bool (decide (0<aQ op)),.bool (decide (1<aQ op))])∧w'=w:=by
 rcases sW op with rfl | rfl | rfl | rfl | rfl | rfl | rfl | rfl | rfl | rfl | rfl | rfl | rfl | rfl | rfl | rfl | rfl | rfl | rfl | rfl | h
 ·exact uses_1 w
 ·exact uses_2 w
 ·exact uses_3 w
 ·exact uses_4 w
 ·exact uses_5 w
 ·exact uses_6 w
 ·exact uses_7 w
 ·exact uses_8 w
 ·exact uses_9 w
 ·exact uses_10 w
 ·exact uses_11 w
 ·exact uses_12 w
 ·exact uses_13 w
 ·exact uses_14 w
 ·exact uses_15 w
 ·exact uses_16 w
 ·exact uses_17 w
 ·exact uses_18 w
 ·exact uses_19 w
 ·exact uses_20 w
 ·exact uses_odd op w h
theorem Z38 {P:Prop} (h:P:=by
 go_enter Tryz.func29,Tryz.ntmps29;go_wp2;go_ret;exact ⟨cI Y116,rfl⟩):P:=h
theorem ruses_1 (w:World):Calls Tryz.prog 29 #[.int .i64 1] w fun e w'=>e= .returned (.int .i64 (aQ 1))∧w'=w:=by
 exact Z38
theorem ruses_2 (w:World):Calls Tryz.prog 29 #[.int .i64 2] w fun e w'=>e= .returned (.int .i64 (aQ 2))∧w'=w:=by
 exact Z38
theorem ruses_3 (w:World):Calls Tryz.prog 29 #[.int .i64 3] w fun e w'=>e= .returned (.int .i64 (aQ 3))∧w'=w:=by
 exact Z38
theorem ruses_4 (w:World):Calls Tryz.prog 29 #[.int .i64 4] w fun e w'=>e= .returned (.int .i64 (aQ 4))∧w'=w:=by
 exact Z38
theorem ruses_5 (w:World):Calls Tryz.prog 29 #[.int .i64 5] w fun e w'=>e= .returned (.int .i64 (aQ 5))∧w'=w:=by
 exact Z38
theorem ruses_6 (w:World):Calls Tryz.prog 29 #[.int .i64 6] w fun e w'=>e= .returned (.int .i64 (aQ 6))∧w'=w:=by
 exact Z38
theorem ruses_7 (w:World):Calls Tryz.prog 29 #[.int .i64 7] w fun e w'=>e= .returned (.int .i64 (aQ 7))∧w'=w:=by
 exact Z38
theorem ruses_8 (w:World):Calls Tryz.prog 29 #[.int .i64 8] w fun e w'=>e= .returned (.int .i64 (aQ 8))∧w'=w:=by
 exact Z38
theorem ruses_9 (w:World):Calls Tryz.prog 29 #[.int .i64 9] w fun e w'=>e= .returned (.int .i64 (aQ 9))∧w'=w:=by
 exact Z38
theorem ruses_10 (w:World):Calls Tryz.prog 29 #[.int .i64 10] w fun e w'=>e= .returned (.int .i64 (aQ 10))∧w'=w:=by
 exact Z38
theorem ruses_11 (w:World):Calls Tryz.prog 29 #[.int .i64 11] w fun e w'=>e= .returned (.int .i64 (aQ 11))∧w'=w:=by
 exact Z38
theorem ruses_12 (w:World):Calls Tryz.prog 29 #[.int .i64 12] w fun e w'=>e= .returned (.int .i64 (aQ 12))∧w'=w:=by
 exact Z38
theorem ruses_13 (w:World):Calls Tryz.prog 29 #[.int .i64 13] w fun e w'=>e= .returned (.int .i64 (aQ 13))∧w'=w:=by
 exact Z38
theorem ruses_14 (w:World):Calls Tryz.prog 29 #[.int .i64 14] w fun e w'=>e= .returned (.int .i64 (aQ 14))∧w'=w:=by
 exact Z38
theorem ruses_15 (w:World):Calls Tryz.prog 29 #[.int .i64 15] w fun e w'=>e= .returned (.int .i64 (aQ 15))∧w'=w:=by
 exact Z38
theorem ruses_16 (w:World):Calls Tryz.prog 29 #[.int .i64 16] w fun e w'=>e= .returned (.int .i64 (aQ 16))∧w'=w:=by
 exact Z38
theorem ruses_17 (w:World):Calls Tryz.prog 29 #[.int .i64 17] w fun e w'=>e= .returned (.int .i64 (aQ 17))∧w'=w:=by
 exact Z38
theorem ruses_18 (w:World):Calls Tryz.prog 29 #[.int .i64 18] w fun e w'=>e= .returned (.int .i64 (aQ 18))∧w'=w:=by
 exact Z38
theorem ruses_19 (w:World):Calls Tryz.prog 29 #[.int .i64 19] w fun e w'=>e= .returned (.int .i64 (aQ 19))∧w'=w:=by
 exact Z38
theorem ruses_20 (w:World):Calls Tryz.prog 29 #[.int .i64 20] w fun e w'=>e= .returned (.int .i64 (aQ 20))∧w'=w:=by
 exact Z38
theorem xQ (op:Int) (w:World) (ho:op<1∨20<op):Calls Tryz.prog 29 #[.int .i64 op] w fun e w'=>e= .returned (.int .i64 (aQ op))∧w'=w:=by
 have n1:(op==1)=false:=Y4;have m1:(op != 1)=true:=Y4;have n2:(op==2)=false:=Y4;have m2:(op != 2)=true:=Y4;have n3:(op==3)=false:=Y4;have m3:(op != 3)=true:=Y4;have n4:(op==4)=false:=Y4;have m4:(op != 4)=true:=Y4;have n5:(op==5)=false:=Y4;have m5:(op != 5)=true:=Y4;have n6:(op==6)=false:=Y4;have m6:(op != 6)=true:=Y4;have n7:(op==7)=false:=Y4;have m7:(op != 7)=true:=Y4;have n8:(op==8)=false:=Y4;have m8:(op != 8)=true:=Y4;have n9:(op==9)=false:=Y4;have m9:(op != 9)=true:=Y4;have n10:(op==10)=false:=Y4;have m10:(op != 10)=true:=Y4;have n11:(op==11)=false:=Y4;have m11:(op != 11)=true:=Y4;have n12:(op==12)=false:=Y4;have m12:(op != 12)=true:=Y4;have n13:(op==13)=false:=Y4;have m13:(op != 13)=true:=Y4;have n14:(op==14)=false:=Y4;have m14:(op != 14)=true:=Y4;have n15:(op==15)=false:=Y4;have m15:(op != 15)=true:=Y4;have n16:(op==16)=false:=Y4;have m16:(op != 16)=true:=Y4;have n17:(op==17)=false:=Y4;have m17:(op != 17)=true:=Y4;have n18:(op==18)=false:=Y4;have m18:(op != 18)=true:=Y4;have n19:(op==19)=false:=Y4;have m19:(op != 19)=true:=Y4;have n20:(op==20)=false:=Y4;have m20:(op != 20)=true:=Y4;have HO:=J ho;clear ho;go_enter Tryz.func29,Tryz.ntmps29
 rcases HO.out with ho | ho
 ·have d1:¬1≤op:=I;have d6:¬6≤op:=I;have d14:¬14≤op:=I;go_wp2;go_ret;exact ⟨cI Y116,rfl⟩
 ·have d9:¬op≤9:=I;have d11:¬op≤11:=I;have d18:¬op≤18:=I;go_wp2;go_ret;exact ⟨cI Y116,rfl⟩
theorem dA (op:Int) (w:World):Calls Tryz.prog 29 #[.int .i64 op] w fun e w'=>e= .returned (.int .i64 (aQ op))∧w'=w:=by
 rcases sW op with rfl | rfl | rfl | rfl | rfl | rfl | rfl | rfl | rfl | rfl | rfl | rfl | rfl | rfl | rfl | rfl | rfl | rfl | rfl | rfl | h
 ·exact ruses_1 w
 ·exact ruses_2 w
 ·exact ruses_3 w
 ·exact ruses_4 w
 ·exact ruses_5 w
 ·exact ruses_6 w
 ·exact ruses_7 w
 ·exact ruses_8 w
 ·exact ruses_9 w
 ·exact ruses_10 w
 ·exact ruses_11 w
 ·exact ruses_12 w
 ·exact ruses_13 w
 ·exact ruses_14 w
 ·exact ruses_15 w
 ·exact ruses_16 w
 ·exact ruses_17 w
 ·exact ruses_18 w
 ·exact ruses_19 w
 ·exact ruses_20 w
 ·exact xQ op w h
theorem fH (n:Int) (u:Bool) (w:World):Calls Tryz.prog 58 #[.int .i64 n,.bool u] w fun e w'=>e= .returned (.bool (gZ n u))∧w'=w:=by
 by_cases h0:n=0
 ·subst h0;have F:Hid (gZ 0 u=true):=rfl
  cases u
  all_goals
   go_enter Tryz.func58,Tryz.ntmps58;go_wp2;go_ret;exact ⟨aY F.out.symm,rfl⟩
 ·have e0:(n==0)=false:=by simpa using h0
  cases u
  ·have F:Hid (gZ n false=false):=by show _=_;unfold gZ;rw [e0];rfl
   clear h0;go_enter Tryz.func58,Tryz.ntmps58;go_wp2;go_ret;exact ⟨aY F.out.symm,rfl⟩
  ·by_cases h1:0<n
   ·have d1:=aD h1
    by_cases h2:n≤255
    ·have d2:decide (n≤255)=true:=aD h2;have F:Hid (gZ n true=true):=by show _=_;unfold gZ;rw [e0,d1,d2];rfl
     clear h0;go_enter Tryz.func58,Tryz.ntmps58;go_wp2;go_ret;exact ⟨aY F.out.symm,rfl⟩
    ·have d2:decide (n≤255)=false:=aK h2;have F:Hid (gZ n true=false):=by show _=_;unfold gZ;rw [e0,d1,d2];rfl
     clear h0;go_enter Tryz.func58,Tryz.ntmps58;go_wp2;go_ret;exact ⟨aY F.out.symm,rfl⟩
   ·have d1:=aK h1;have F:Hid (gZ n true=false):=by show _=_;unfold gZ;rw [e0,d1];rfl
    clear h0;go_enter Tryz.func58,Tryz.ntmps58;go_wp2;go_ret;exact ⟨aY F.out.symm,rfl⟩
theorem Z41 {P:Prop} (h:P:=by
 go_enter Tryz.func32,Tryz.ntmps32;go_wp2_with (first | (go_at_call 57;(with_reducible refine (nC _ _).mono ?_);rw [HU.out,HV.out];rintro e w' ⟨rfl,rfl⟩) | (go_at_call 58;(with_reducible refine (fH a u1 _).mono ?_);rw [HA.out];rintro e w' ⟨rfl,rfl⟩) | (go_at_call 58;(with_reducible refine (fH b u2 _).mono ?_);rw [HB.out];rintro e w' ⟨rfl,rfl⟩));go_ret;exact ⟨aY F.out.symm,by (repeat' (first | (with_reducible exact Below.refl _ _) | (with_reducible assumption) | (with_reducible refine bM ?_ _) | (with_reducible refine Below.alloc ?_ ?_ _) | (with_reducible refine Below.drew ?_) | (with_reducible refine Below.setCell ?_ ?_ _) | go_size))⟩):P:=h
theorem may_any (op:Int) (a:Int) (b:Int) (w:World):Calls Tryz.prog 32 #[.agg #[.int .i64 op,.int .i64 a,.int .i64 b]] w fun e w'=>e= .returned (.bool (fD ⟨op,a,b⟩))∧Below w.heap.size w w':=by
 obtain ⟨u1,h1⟩:=aE (decide (0<aQ op));obtain ⟨u2,h2⟩:=aE (decide (1<aQ op));obtain ⟨x,hx⟩:=aE (gZ a u1);obtain ⟨y,hy⟩:=aE (gZ b u2);have HU:=J h1;have HV:=J h2;have HA:=J hx;have HB:=J hy;have M:Hid (fD ⟨op,a,b⟩=(decide (1≤op) && decide (op≤20) && x && y)):=by show _=_;unfold fD;rw [h1,h2,hx,hy]
 clear h1 h2 hx hy
 by_cases p1:1≤op
 ·have d1:decide (1≤op)=true:=aD p1
  by_cases p2:op≤20
  ·have d2:decide (op≤20)=true:=aD p2;have F:Hid (fD ⟨op,a,b⟩=(x && y)):=by show _=_;rw [M.out,d1,d2];rfl
   cases x
   ·exact Z41
   ·exact Z41
  ·have d2:decide (op≤20)=false:=aK p2;have F:Hid (fD ⟨op,a,b⟩=false):=by show _=_;rw [M.out,d1,d2];rfl
   exact Z41
 ·have d1:decide (1≤op)=false:=aK p1;have F:Hid (fD ⟨op,a,b⟩=false):=by show _=_;rw [M.out,d1];rfl
  exact Z41
theorem nV {op a b:Int} (h:op<1∨20<op∨a<0∨255<a∨b<0∨255<b):fD ⟨op,a,b⟩=false:=by
 cases hm:fD ⟨op,a,b⟩
 ·rfl
 ·have:=uH hm;simp only at this;omega
theorem may_in {op a b:Int} (h1:1≤op) (h2:op≤20) (h3:0≤a) (h4:a≤255) (h5:0≤b) (h6:b≤255):fD ⟨op,a,b⟩=((decide (0<aQ op) || a==0) && (decide (1<aQ op) || b==0)):=by
 unfold fD gZ;have e1:decide (1≤op)=true:=aD h1;have e2:decide (op≤20)=true:=aD h2;have e4:decide (a≤255)=true:=aD h4;have e6:decide (b≤255)=true:=aD h6;simp only [e1,e2,e4,e6,Bool.and_true,Bool.true_and]
 congr 1
 ·by_cases ha:a=0
  ·subst ha;simp
  ·have:decide (0<a)=true:=aD I;simp [this,ha,Bool.or_comm]
 ·by_cases hb:b=0
  ·subst hb;simp
  ·have:decide (0<b)=true:=aD I;simp [this,hb,Bool.or_comm]
theorem Z40 {P:Prop} (h:P:=by
 go_enter Tryz.func20,Tryz.ntmps20;go_wp2_with (go_at_call 29;(with_reducible refine (dA _ _).mono ?_);rw [HU.out];rintro e w' ⟨rfl,rfl⟩);go_ret;exact ⟨aY F.out.symm,by (repeat' (first | (with_reducible exact Below.refl _ _) | (with_reducible assumption) | (with_reducible refine bM ?_ _) | (with_reducible refine Below.alloc ?_ ?_ _) | (with_reducible refine Below.drew ?_) | (with_reducible refine Below.setCell ?_ ?_ _) | go_size))⟩):P:=h
theorem rmay_any (op:Int) (a:Int) (b:Int) (w:World):Calls Tryz.prog 20 #[.agg #[.int .i64 op,.int .i64 a,.int .i64 b]] w fun e w'=>e= .returned (.bool (fD ⟨op,a,b⟩))∧Below w.heap.size w w':=by
 obtain ⟨u,hu⟩:=aE (aQ op);have HU:=J hu;clear hu
 by_cases p1:op<1
 ·have F:Hid (fD ⟨op,a,b⟩=false):=by show _=_;exact nV I
  exact Z40
 by_cases p2:20<op
 ·have F:Hid (fD ⟨op,a,b⟩=false):=by show _=_;exact nV I
  exact Z40
 by_cases p3:a<0
 ·have F:Hid (fD ⟨op,a,b⟩=false):=by show _=_;exact nV I
  exact Z40
 by_cases p4:255<a
 ·have F:Hid (fD ⟨op,a,b⟩=false):=by show _=_;exact nV I
  exact Z40
 by_cases p5:b<0
 ·have F:Hid (fD ⟨op,a,b⟩=false):=by show _=_;exact nV I
  exact Z40
 by_cases p6:255<b
 ·have F:Hid (fD ⟨op,a,b⟩=false):=by show _=_;exact nV I
  exact Z40
 have M:Hid (fD ⟨op,a,b⟩=((decide (0<u) || a==0) && (decide (1<u) || b==0))):=by show _=_;rw [may_in I I I I I I,HU.out]
 cases q1:decide (0<u)
 ·have r1:¬0<u:=of_decide_eq_false q1;have r2:¬1<u:=I;have q2:=aK r2
  cases q3:a==0
  ·have F:Hid (fD ⟨op,a,b⟩=false):=by show _=_;rw [M.out,q1,q3];rfl
   exact Z40
  ·cases q4:b==0
   ·have F:Hid (fD ⟨op,a,b⟩=false):=by show _=_;rw [M.out,q1,q2,q3,q4];rfl
    exact Z40
   ·have F:Hid (fD ⟨op,a,b⟩=true):=by show _=_;rw [M.out,q1,q2,q3,q4];rfl
    exact Z40
 ·have r1:0<u:=of_decide_eq_true q1
  cases q2:decide (1<u)
  ·have r2:¬1<u:=of_decide_eq_false q2
   cases q4:b==0
   ·have F:Hid (fD ⟨op,a,b⟩=false):=by show _=_;rw [M.out,q1,q2,q4];rfl
    exact Z40
   ·have F:Hid (fD ⟨op,a,b⟩=true):=by show _=_;rw [M.out,q1,q2,q4];rfl
    exact Z40
  ·have r2:1<u:=of_decide_eq_true q2;have F:Hid (fD ⟨op,a,b⟩=true):=by show _=_;rw [M.out,q1,q2];rfl
   exact Z40
end Go.Proofs.YtnojndgmgkgnpaaGreat.Lv
