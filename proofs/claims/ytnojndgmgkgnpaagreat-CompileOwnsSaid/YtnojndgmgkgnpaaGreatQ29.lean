/- Chapter 10: words and contracts for the law. -/
import Derived.Test.YtnojndgmgkgnpaaGreatQ28
import Derived.Test.YtnojndgmgkgnpaaGreatQ10
import Derived.Test.YtnojndgmgkgnpaaGreatQ09
import Derived.Test.YtnojndgmgkgnpaaGreatQ23
import Derived.Deep.QuietTactic
import Derived.Deep.RegionLaw
import Derived.Test.YtnojndgmgkgnpaaGreatQ02
import Derived.Test.YtnojndgmgkgnpaaGreatQ13
import Derived.Test.YtnojndgmgkgnpaaGreatQ01
import Derived.Deep.Strs
import Derived.ProofKit
import Derived.OpenShut
import Derived.ChangeOld
import Derived.Test.YtnojndgmgkgnpaaGreatQ22
set_option maxRecDepth 100000
set_option maxHeartbeats 40000000
set_option linter.unusedVariables false
set_option linter.unusedSimpArgs false
namespace Go.Proofs.YtnojndgmgkgnpaaGreat.Rf
open Go.ChangeShapes Go.WideShapes Go.ChangeAt Go.RowKit Go.Deep Go.Joins Go.Maps
def ReadP (r:MetT×ByteArray×Int) (w:World) (e:Ending) (w':World):Prop:=∃lv cv D ps,e= .returned (.tuple #[.agg #[.string r.1.sel,.int .i64 (r.1.args:Int),.int .i64 (r.1.temps:Int),.int .i64 r.1.prim,lv,cv],.string r.2.1,.int .i64 r.2.2])∧
 LitRow w' D lv ps∧ps.map Prod.fst=r.1.lits∧w'.ownsRow 0 42 3 cv r.1.code.length (r.1.code.flatMap gF)∧Below w.heap.size w w'∧(∀k,lv.ownBlock=some k→w.heap.size≤k∧¬D k)∧(∀k,cv.ownBlock=some k→w.heap.size≤k)∧(∀k,D k→∃cur,w'.heap[k]? =some (.cells cur 44 (0,0)))∧r.2.1.size≤bL
theorem ReadP.no {w w':World} {e:Ending} {nm:ByteArray} {er:Int} (he:e= .returned (.tuple #[.agg #[.string eB,.int .i64 0,.int .i64 0,.int .i64 0,.slice none 0 0,.slice none 0 0],.string nm,.int .i64 er])) (hb:Below w.heap.size w w') (hn:nm.size≤bL):ReadP (noMet,nm,er) w e w':=
 ⟨.slice none 0 0,.slice none 0 0,fun _=>False,[],he,LitRow.nil _ _,rfl,World.ownsRow_nil _ _ _ _,hb,fun k hk=>Y128,fun k hk=>Y128,fun k hk=>hk.elim,hn⟩
def mA (fields:List ByteArray) (value:Bool) (x:NodT):MetT×ByteArray×Int:=
 let s:=fP (aS x.size) x value (eU fields)
 if s.err≠0 then (noMet,s.ename,s.err)
 else if 60<s.lits.length then (noMet,eB,18)
 else if 400<s.code.length then (noMet,eB,12)
 else if s.code.all fD then (⟨x.text,x.names.length,s.temps,x.num,s.lits,s.code⟩,eB,0)
 else (noMet,eB,12)
theorem yU (w:World) (x:NodT) (q:NS) (fields:List ByteArray):CY w (fun k=>k<w.heap.size+2) (((w.alloc (.cells #[.int .i64 x.kind,.string x.text,.int .i64 x.num,.slice q.pn x.names.length q.cn,.slice q.pt x.temps.length q.ct,.slice q.pk x.kids.length q.ck] 25)).alloc (.cells #[.string eB,.int .i64 0,.int .i64 0,.int .i64 0,.slice none 0 0,.slice none 0 0] 32)).alloc (.cells #[.string x.text,.int .i64 (x.names.length:Int),.int .i64 0,.int .i64 x.num,.slice none 0 0,.slice none 0 0,.slice none 0 0,.int .i64 0,.string eB] 53)) (w.heap.size+2) (⟨x.text,x.names.length,x.num⟩) (stK fields 0) (.slice none 0 0) (.slice none 0 0) (.slice none 0 0) (fun _=>False) []:=by
 have hb:=heap_alloc_new ((w.alloc (.cells #[.int .i64 x.kind,.string x.text,.int .i64 x.num,.slice q.pn x.names.length q.cn,.slice q.pt x.temps.length q.ct,.slice q.pk x.kids.length q.ck] 25)).alloc (.cells #[.string eB,.int .i64 0,.int .i64 0,.int .i64 0,.slice none 0 0,.slice none 0 0] 32)) (.cells #[.string x.text,.int .i64 (x.names.length:Int),.int .i64 0,.int .i64 x.num,.slice none 0 0,.slice none 0 0,.slice none 0 0,.int .i64 0,.string eB] 53);simp only [World.size_alloc] at hb;refine ⟨hb,LitRow.nil _ _,rfl,World.ownsRow_nil _ _ _ _,World.ownsRow_nil _ _ _ _,fun k hk=>(by simp [stK,kA] at hk),fun z=>I,fun k hk=>Y128,fun k hk=>Y128,fun k hk=>hk.elim,?_,fun k hk=>aN hk (Nat.le_add_right _ _),fun k hk=>?_,by show eB.size≤bL;decide⟩
 ·(repeat' first | (with_reducible first | exact bl0 _ _ | assumption | apply bl1 | apply bl2 | apply bl3 | apply bl4) | go_size)
 ·simp only [World.size_alloc];omega
theorem vU {w0 wa w5:World} {P:Nat→Prop} {cb base k:Nat} {m:MK} {fields:List ByteArray} {nv v5:Value} (h:CY w0 P wa cb m (stK fields k) (.slice none 0 0) (.slice none 0 0) nv (fun _=>False) []) (hown:wa.ownsRow base 55 3 nv k ((stK fields k).names.flatMap nmC)) (hb:cb<base) (hP:∀j,P j→j<base) (hk:k<fields.length) {nm:ByteArray} (hnm:fields[k]=nm) (hsz:nm.size≤bL) (hk8:k≤8)
  (ht:Turns (fun j=>nv.ownBlock=some j) wa w5) (h5:w5.ownsRow base 55 3 v5 (k+1) ((stK fields k).names.flatMap nmC++nmC ⟨nm,1,(k:Int)⟩)):
  w5.heap[cb]? =some (.cells (fR m (stK fields k) (.slice none 0 0) (.slice none 0 0) nv) 53 (0,0))∧
  CY w0 P (w5.setCell ⟨cb,6,none⟩ v5) cb m (stK fields (k+1)) (.slice none 0 0) (.slice none 0 0) v5 (fun _=>False) []∧(w5.setCell ⟨cb,6,none⟩ v5).ownsRow base 55 3 v5 (k+1) ((stK fields (k+1)).names.flatMap nmC)∧Turns (cP P) wa (w5.setCell ⟨cb,6,none⟩ v5):=by
 have hvB:∀j,nv.ownBlock=some j→base≤j:=fun j hj=>(World.ownsRow.lt hown j hj).1
 have hbx:w5.heap[cb]? =some (.cells (fR m (stK fields k) (.slice none 0 0) (.slice none 0 0) nv) 53 (0,0)):=(ht.block cb (aA h.box) (fun e=>by have:=hvB cb e;omega)).trans h.box;have ht6:Turns (fun j=>j=cb) w5 (w5.setCell ⟨cb,6,none⟩ v5):=(Turns.refl _ _).setCell _ _ (.inl rfl);have hts:Turns (cP P) wa (w5.setCell ⟨cb,6,none⟩ v5):=(ht.mono (fun j _ e=>fun z=>by have:=hvB j e;have:=hP j z;omega)).trans (outOf ht6 h.cbP);have hst:=sX fields k hk hnm;have hnms:(stK fields (k+1)).names=(stK fields k).names++[⟨nm,1,(k:Int)⟩]:=by rw [←hst]
 have hrow:(w5.setCell ⟨cb,6,none⟩ v5).ownsRow base 55 3 v5 (k+1) ((stK fields (k+1)).names.flatMap nmC):=by
  rw [hnms,List.flatMap_append,List.flatMap_cons,List.flatMap_nil,List.append_nil];exact aJ h5 ht6.size (fun j hj=>ht6.block j (World.ownsRow.lt h5 j hj).2 (fun e=>by have:=(World.ownsRow.lt h5 j hj).1;omega))
 refine ⟨hbx,⟨?_,LitRow.nil _ _,rfl,World.ownsRow_nil _ _ _ _,?_,fun y hy=>?_,h.cbP,fun k hk=>Y128,fun k hk=>Y128,fun k hk=>hk.elim,?_,h.low,fun j hj=>aN (h.lim j hj) hts.size,h.enm⟩,hrow,hts⟩
 ·rw [heap_setCell_same w5 cb 6 _ _ _ hbx];rfl
 ·show World.ownsRow _ 0 55 3 v5 (stK fields (k+1)).names.length _
  rw [oO fields (k+1) hk];exact bR hrow (Nat.zero_le _)
 ·rw [hnms] at hy
  rcases List.mem_append.1 hy with q | q
  ·exact h.nok y q
  ·rw [List.mem_singleton.1 q];exact ⟨hsz,⟨by show (0:Int)≤(k:Int);omega,by show (k:Int)≤1000;omega⟩,by show (1:Int)≤1;decide,by show (1:Int)≤3;decide⟩
 ·exact iT h hts (fun j q=>q)
theorem Z103 {P:Prop} (h:P:=by
 have h0:=HGR.out;have h1:=HRM.out;have h2:=HSZ.out;have h3:=kd.size_pos;rw [aM,cC];exact ⟨by omega,by omega⟩):P:=h
theorem Z100 {P:Prop} (h:P:=by
 clear e10;go_wp2_with (first | (go_at_call 18;(with_reducible refine (HVA.out HK4.out bel).mono ?_);rintro e w5 ⟨rfl,hx5⟩;have hx6:=HX.out.back HWB.out hx5 (fun k z=>.inl z);have HX6:=J hx6;obtain ⟨c0,c1,c2,c3,c4,c5⟩:=HBX.out _ hx6.2;rw [HPK.out] at c5;have hk6:=(hx5.2.block wr.heap.size (aA HKB.out) (fun z=>z (.inr rfl))).trans HKB.out;have d0:w5.cell? ⟨wr.heap.size,0,none⟩=some (.int .i64 kd.kind):=aC hk6 rfl;clear hx5 hx6 hk6) | (go_at_call 19;(with_reducible refine (bG HX6.out bel 12 0 0 HF5.out).mono ?_);rintro e w6 ⟨rfl,hx3⟩;have HX7:=J hx3;obtain ⟨c0,c1,c2,c3,c4,c5⟩:=HBX.out _ hx3.2;clear hx3));go_roundw
 case rel=>exact ⟨k+1,(aB s5 12 0 0),false,by go_num,rfl,HLT.out,HX7.out,fun _=>HNX.out,fun z=>(by cases z),by
  exact Z103⟩
 case measure=>simp [intOf];have:=HLT.out;omega):P:=h
theorem Z101 {P:Prop} (h:P:=by
 go_enter Tryz.func9,Tryz.ntmps9;go_wp2_with fail;refine bodyPost_ret (v:=.tuple #[.agg #[.string eB,.int .i64 0,.int .i64 0,.int .i64 0,.slice none 0 0,.slice none 0 0],.string eB,.int .i64 1]) (by simp [results,Tryz.results9,go_sem]) rfl ?_;exact ReadP.no rfl bel Y3):P:=h
theorem Z102 {P:Prop} (h:P:=by
 have h0:=HGR.out;have h1:=HRM.out;have h2:=HSZ.out;have h3:=kd.size_pos
 skip
 exact ⟨by omega,by omega⟩):P:=h
theorem rread_any {w:World} {x:NodT} {q:NS} (hn:IsNd w (fun _=>True) x q) {D:Nat→Prop} {p:Option Addr} {n2 c:Nat} {fields:List ByteArray} (hs:Strs w D p fields) (hl:fields.length=n2) (hle2:n2≤9223372036854775807) (hx:x.size≤100000) (value:Bool):
  Calls Tryz.prog 9 #[ndV x q,.slice p n2 c,.bool value] w (ReadP (eW x.size x fields value) w):=by
 have HN:=J hn;have HS:=J hs;have HL:=J hl;have HSX:=J hx;rw [←read_eq];unfold ndV;clear hn hs hl hx
 by_cases hk:x.kind=11
 ·have q1:(x.kind==11)=true:=Y149;have q2:(x.kind != 11)=false:=by simp [hk]
  by_cases h8:8<n2
  ·have d1:decide ((8:Int)<(n2:Int))=true:=aD I;have d2:=aD h8;have HRD:Hid (oG x.size x fields value=(noMet,eB,1)):=J (by unfold oG;rw [if_pos (.inr (by rw [HL.out];exact h8))]);rw [HRD.out];clear hk h8;exact Z101
  ·have hm:Hid (oG x.size x fields value=mA fields value x):=J (by
    unfold oG mA;rw [if_neg (fun z=>z.elim (fun e=>e hk) (fun e=>by rw [HL.out] at e;exact h8 e))])
   rw [hm.out];have d1:decide ((8:Int)<(n2:Int))=false:=aK I;have d2:=aK h8;have HN8:Hid (n2≤8):=J I;have HSC:=J (yU w x q fields);have HSN:Hid (Strs w (fun _=>True) q.pn x.names∧Strs w (fun _=>True) q.pt x.temps):=J HN.out.strs;have HNL:Hid (x.names.length≤9223372036854775807):=J (by have h1:=HN.out.ok.nlen;unfold maxLen at h1;omega);have HTL:Hid (x.temps.length≤9223372036854775807):=J (by have h1:=HN.out.ok.tlen;unfold maxLen at h1;omega);have hle3:x.names.length≤9223372036854775807:=HNL.out;clear hk h8 hm;go_enter Tryz.func9,Tryz.ntmps9;go_wp2_with fail;obtain ⟨w3,hw3⟩:∃w3,(((w.alloc (.cells #[.int .i64 x.kind,.string x.text,.int .i64 x.num,.slice q.pn x.names.length q.cn,.slice q.pt x.temps.length q.ct,.slice q.pk x.kids.length q.ck] 25)).alloc (.cells #[.string eB,.int .i64 0,.int .i64 0,.int .i64 0,.slice none 0 0,.slice none 0 0] 32)).alloc (.cells #[.string x.text,.int .i64 (x.names.length:Int),.int .i64 0,.int .i64 x.num,.slice none 0 0,.slice none 0 0,.slice none 0 0,.int .i64 0,.string eB] 53))=w3:=⟨_,rfl⟩;obtain ⟨cb,hcb⟩:=aE (w.heap.size+1+1);have hsc:=HSC.out;rw [show w.heap.size+2=cb from hcb] at hsc;rw [hw3] at hsc ⊢;rw [hcb];have HSC3:=J hsc;have HB3:Hid (Below w.heap.size w w3):=J Y44;have HXB:Hid (w3.heap[w.heap.size]? =some (.cells #[.int .i64 x.kind,.string x.text,.int .i64 x.num,.slice q.pn x.names.length q.cn,.slice q.pt x.temps.length q.ct,.slice q.pk x.kids.length q.ck] 25 (0,0))∧w3.heap[w.heap.size+1]? =some (.cells #[.string eB,.int .i64 0,.int .i64 0,.int .i64 0,.slice none 0 0,.slice none 0 0] 32 (0,0))∧w.heap.size+1<cb):=J (by
    rw [←hw3];have h1:=heap_alloc_new w (.cells #[.int .i64 x.kind,.string x.text,.int .i64 x.num,.slice q.pn x.names.length q.cn,.slice q.pt x.temps.length q.ct,.slice q.pk x.kids.length q.ck] 25);have h2:=heap_alloc_new (w.alloc (.cells #[.int .i64 x.kind,.string x.text,.int .i64 x.num,.slice q.pn x.names.length q.cn,.slice q.pt x.temps.length q.ct,.slice q.pk x.kids.length q.ck] 25)) (.cells #[.string eB,.int .i64 0,.int .i64 0,.int .i64 0,.slice none 0 0,.slice none 0 0] 32);rw [World.size_alloc] at h2;have al:∀(W:World) (o:Obj) (k:Nat) (v:Obj),W.heap[k]? =some v→(W.alloc o).heap[k]? =some v:=fun W o k v h=>(ba |>.block _ (aA h)).trans h
    exact ⟨al _ _ _ _ (al _ _ _ _ h1),al _ _ _ _ h2,by omega⟩)
   have HCW:Hid (cb<w3.heap.size):=J (aA HSC3.out.box);clear hsc hw3 HSC hcb
   go_loopw [10] (fun i wr=>∃(k:Nat) (nv:Value),i= .int .i64 k∧k≤n2∧CY w (fun k=>k<cb) wr cb (⟨x.text,x.names.length,x.num⟩) (stK fields k) (.slice none 0 0) (.slice none 0 0) nv (fun _=>False) []∧wr.ownsRow (cb+1) 55 3 nv k ((stK fields k).names.flatMap nmC)∧Turns (cP (fun k=>k<cb)) w3 wr) (fun i _=>n2-(intOf i).toNat)
   case atStart=>exact ⟨0,_,rfl,Nat.zero_le _,HSC3.out,World.ownsRow_nil _ _ _ _,Turns.refl _ _⟩
   case round=>
    obtain ⟨k,nv,rfl,hk,hy,hown,hts⟩:=hrel;have HTS:=J hts
    by_cases hlt:k<n2
    ·have d1:=aD hlt;have d3:=aT hlt;obtain ⟨b,off,rfl,hbl,_,hc,hsz⟩:=HS.out k Y48;obtain ⟨nm,hnm⟩:∃nm,fields[k]'Y48=nm:=⟨_,rfl⟩;rw [hnm] at hc hsz;have hcw:wr.cell? ⟨b,off+k,none⟩=some (.string nm):=(World.cell?_of_block (hy.stat.block b hbl)).trans hc;have hbw:b<wr.heap.size:=aN hbl hy.stat.size;have HSZ9:=J hsz;have HLT:=J hlt;have HNM:=J hnm;have g0:(0:Int)≤(k:Int):=I;have g1:(k:Int)<(n2:Int):=I;have hk8:k≤8:=by have:=HN8.out;omega
     obtain ⟨A,c9,hnv,hcl,hcm⟩:=aX hown;subst hnv;have k6:wr.cell? ⟨cb,6,none⟩=some (.slice A k c9):=Y15;have kf6:=hy.free 6;have hba:Below wr.heap.size wr (wr.drew.alloc (.cells #[.string nm,.int .i64 1,.int .i64 (k:Int)] 55)):=((Below.refl _ _).drew).alloc aR _;have HYA:=J (hy.below hba);have HROW:Hid ((wr.drew.alloc (.cells #[.string nm,.int .i64 1,.int .i64 (k:Int)] 55)).ownsRow (cb+1) 55 3 (.slice A k c9) k ((stK fields k).names.flatMap nmC)):=J (aJ hown hba.size (fun j hj=>hba.block j (World.ownsRow.lt hown j hj).2));have HGA:Hid ((wr.drew.alloc (.cells #[.string nm,.int .i64 1,.int .i64 (k:Int)] 55)).heap[wr.heap.size]? =some (.cells #[.string nm,.int .i64 1,.int .i64 (k:Int)] 55 (0,0))):=J (heap_alloc_new wr.drew _);have HBS:Hid (cb+1≤(wr.drew.alloc (.cells #[.string nm,.int .i64 1,.int .i64 (k:Int)] 55)).heap.size):=J (by have h8:=aA hy.box;have h9:=hba.size;omega);have HBA:=J hba;have k6a:(wr.alloc (.cells #[.string nm,.int .i64 1,.int .i64 (k:Int)] 55)).cell? ⟨cb,6,none⟩=_:=Lib.cell?_alloc_marked _ k6;have hcwa:(wr.alloc (.cells #[.string nm,.int .i64 1,.int .i64 (k:Int)] 55)).cell? ⟨b,off+k,none⟩=_:=Lib.cell?_alloc_marked _ hcw;clear hy hown hts hc hsz hnm hba hcl hcm
     go_upto_region 7 with fail
     go_region_law (first | (refine xD (k:=⟨nm,1,(k:Int)⟩) rfl _ _ rfl HROW.out Y10 (G:=wr.heap.size) Y10 HGA.out I HBS.out ?_;intro v5 w5 hown5 ht5;have hfm:=vU HYA.out HROW.out (Nat.lt_succ_self _) (fun j hj=>Nat.lt_succ_of_lt hj) (by rw [HL.out];exact HLT.out) HNM.out HSZ9.out hk8 ht5 hown5;obtain ⟨A5,c5,hv5,_⟩:=aX hown5;subst hv5;have s6:w5.cell? ⟨cb,6,none⟩=some (.slice A k c9):=aC hfm.1 rfl;have sf6:w5.frozen? ⟨cb,6,none⟩=false:=(by simp [World.frozen?,hfm.1]);have HFM:=J hfm.2;clear hown5 ht5 hfm))
     all_goals
      go_wp2_with fail;go_roundw
      case rel=>exact ⟨k+1,_,by go_num,HLT.out,HFM.out.1,HFM.out.2.1,(HTS.out.trans (Turns.of_below HBA.out)).trans HFM.out.2.2⟩
      case measure=>simp [intOf];have:=HLT.out;omega
    ·have hkn:n2=k:=I;have d1:=aK hlt;have d3:=aF hlt;have hst:stK fields k=eU fields:=by unfold stK eU;rw [←hkn,←HL.out,List.take_length]
     clear hlt;rw [hst] at hy;have hfl:(eU fields).names.length=k:=by rw [←hst];exact oO fields k (by rw [HL.out];omega)
     have HX1:Hid (CT w (fun k=>k<cb) w3 wr cb (⟨x.text,x.names.length,x.num⟩) (eU fields)):=J ⟨⟨_,_,_,_,_,hy,Nat.zero_le _,by rw [hfl];have:=HN8.out;show k≤8+0;omega⟩,hts⟩;clear hy hown hts hst hfl;obtain ⟨n,hnk⟩:=aE x.kids.length;have HNK:=J hnk;have hle:n≤9223372036854775807:=Y64;have HBX:Hid (∀wz,Turns (cP (fun k=>k<cb)) w3 wz→Sixn wz w.heap.size n x q):=J (fun wz ht=>cW (by rw [←hnk];exact (ht.block _ (aA HXB.out.1) (fun z=>z (by have h9:=HXB.out.2.2;show w.heap.size<cb;omega))).trans HXB.out.1));obtain ⟨sd,hsd⟩:=aE (bI false x.temps (bI true x.names (eU fields)));have HSD:=J hsd;obtain ⟨SS,hSS⟩:=aE (bB (aS x.size) value x.kids sd);have HSS:=J hSS;have HRT:Hid (mA fields value x=if SS.err≠0 then (noMet,SS.ename,SS.err)
      else if 60<SS.lits.length then (noMet,eB,18)
      else if 400<SS.code.length then (noMet,eB,12)
      else if SS.code.all fD then (⟨x.text,x.names.length,SS.temps,x.num,SS.lits,SS.code⟩,eB,0)
      else (noMet,eB,12)):=J (by unfold mA fP;rw [hsd,hSS])
     have hxs:=x.size_kids;have hsx:=HSX.out;have HRM0:Hid (sd.code.length+8*NodT.sizes x.kids+2≤1000000∧sd.lits.length+NodT.sizes x.kids≤100000):=J (by
      have h1:=dL true x.names (eU fields);have h2:=dL false x.temps (bI true x.names (eU fields));rw [hsd] at h2;rw [h2.1,h2.2,h1.1,h1.2]
      show 0+8*NodT.sizes x.kids+2≤1000000∧0+NodT.sizes x.kids≤100000
      exact ⟨by omega,by omega⟩)
     have HXS:Hid (NodT.sizes x.kids≤x.size):=J I;have HRW:=J HN.out.rows;rw [hnk];obtain ⟨c0,c1,c2,c3,c4,c5⟩:=HBX.out _ HX1.out.2;clear hsd hSS hxs hsx hnk;go_wp2_with (first | (go_at_call 17;(with_reducible refine (kM HX1.out bel HSN.out.1 rfl HNL.out true (kd:=3) rfl).mono ?_);rintro e w7 ⟨rfl,hx3⟩;have HX2:=J hx3;obtain ⟨c0,c1,c2,c3,c4,c5⟩:=HBX.out _ hx3.2;clear hx3) | (go_at_call 17;(with_reducible refine (kM HX2.out bel HSN.out.2 rfl HTL.out false (kd:=2) rfl).mono ?_);rintro e w8 ⟨rfl,hx3⟩;have HX3:=J hx3;obtain ⟨c0,c1,c2,c3,c4,c5⟩:=HBX.out _ hx3.2;clear hx3))
     go_loopw [12,11] (fun i e wr=>∃(k:Nat) (sk:CSt) (bb:Bool),i= .int .i64 k∧e= .bool bb∧k≤n∧CT w (fun k=>k<cb) w3 wr cb (⟨x.text,x.names.length,x.num⟩) sk∧(bb=false→bB (aS x.size) value x.kids sd=bB (aS x.size) value (x.kids.drop k) sk)∧(bb=true→k=n∧bB (aS x.size) value x.kids sd=sk)∧(sk.code.length+8*NodT.sizes (x.kids.drop k)+2≤1000000∧sk.lits.length+NodT.sizes (x.kids.drop k)≤100000)) (fun i _ _=>n-(intOf i).toNat)
     case atStart=>exact ⟨0,sd,false,rfl,rfl,Nat.zero_le _,by rw [←HSD.out];exact HX3.out,fun _=>rfl,fun z=>(by cases z),HRM0.out⟩
     case round=>
      obtain ⟨k,sk,bb,rfl,rfl,hk,hct,hd0,hd1,hrm⟩:=hrel;have HX:=J hct;have HRM:=J hrm;clear hct hrm c0 c1 c2 c3 c4 c5;obtain ⟨c0,c1,c2,c3,c4,c5⟩:=HBX.out _ HX.out.2
      by_cases hlt:k<n
      ·have d1:=aD hlt;have d2:=aT hlt;have hbf:bb=false:=by
        cases bb with
        | false=>rfl
        | true=>have:=(hd1 rfl).1;omega
       subst hbf;have HD:=J (hd0 rfl);have hkl:k<x.kids.length:=Y82;obtain ⟨b,off,q',hpk,hbl,hc6,hkd⟩:=HRW.out k hkl;have hsz:=dN x.kids k hkl;have hst:=HX.out.1.stat;have hsk:(x.kids[k]).size≤x.size:=Nat.le_trans (cR x.kids k hkl) HXS.out;have hdr:x.kids.drop k=x.kids[k] :: x.kids.drop (k+1):=List.drop_eq_getElem_cons hkl;obtain ⟨kd,hkx⟩:=aE (x.kids[k]);rw [hkx] at hc6 hkd hsz hsk hdr;obtain ⟨e0,e1,e2,e3,e4,e5⟩:=hc6.same (hst.block b hbl);have hgr:=eJ x.size kd sk hsk;obtain ⟨s5,hs5⟩:=aE (aS x.size kd sk);have hva:∀{P2:Nat→Prop} {ws wa W:World},CT w P2 ws wa cb (⟨x.text,x.names.length,x.num⟩) sk→Below wa.heap.size wa W→Calls Tryz.prog 18 #[.pointer (some ⟨cb,0,none⟩),ndV kd q'] W fun e w'=>e= .returned (.tuple #[])∧CT w P2 ws w' cb (⟨x.text,x.names.length,x.num⟩) s5:=fun hc hb=>by
        rw [←hs5];exact (rspec x.size).at_ hsk hc hb hkd Y34 Y34
       rw [hs5] at hgr;have HGR:Hid (s5.code.length≤sk.code.length+(8*kd.size-2)∧s5.lits.length≤sk.lits.length+kd.size):=J ⟨hgr.code,hgr.lits⟩;have HSZ:=J hsz;have HDR:=J hdr;have HLT:=J hlt;have HS5:=J hs5;have HPK:=J hpk;have HF5:Hid (s5.code.length≤1000000):=J Y126;have HWB:Hid (Below wr.heap.size wr (wr.alloc (.cells #[.int .i64 kd.kind,.string kd.text,.int .i64 kd.num,.slice q'.pn kd.names.length q'.cn,.slice q'.pt kd.temps.length q'.ct,.slice q'.pk kd.kids.length q'.ck] 25))):=J (ba);have HKB:Hid ((wr.alloc (.cells #[.int .i64 kd.kind,.string kd.text,.int .i64 kd.num,.slice q'.pn kd.names.length q'.cn,.slice q'.pt kd.temps.length q'.ct,.slice q'.pk kd.kids.length q'.ck] 25)).heap[wr.heap.size]? =some (.cells #[.int .i64 kd.kind,.string kd.text,.int .i64 kd.num,.slice q'.pn kd.names.length q'.cn,.slice q'.pt kd.temps.length q'.ct,.slice q'.pk kd.kids.length q'.ck] 25 (0,0))):=J (heap_alloc_new wr _);have HK4:Hid (CT w (fun j=>(fun k=>k<cb) j∨j=wr.heap.size) (wr.alloc (.cells #[.int .i64 kd.kind,.string kd.text,.int .i64 kd.num,.slice q'.pn kd.names.length q'.cn,.slice q'.pt kd.temps.length q'.ct,.slice q'.pk kd.kids.length q'.ck] 25)) (wr.alloc (.cells #[.int .i64 kd.kind,.string kd.text,.int .i64 kd.num,.slice q'.pn kd.names.length q'.cn,.slice q'.pt kd.temps.length q'.ct,.slice q'.pk kd.kids.length q'.ck] 25)) cb (⟨x.text,x.names.length,x.num⟩) sk):=J ((HX.out.1.below HWB.out).and HKB.out Y3).ct;unfold ndV at hva;have HVA:Hid (∀{P2:Nat→Prop} {ws wa W:World},CT w P2 ws wa cb (⟨x.text,x.names.length,x.num⟩) sk→Below wa.heap.size wa W→_):=J hva;have hbw:b<wr.heap.size:=aN hbl hst.size;have g0:(0:Int)≤(k:Int):=I;have g1:(k:Int)<(n:Int):=I;rw [hpk] at c5 ⊢;clear hst hc6 hkd hsz hsk hdr hkx hkl hlt hgr hva hbl hpk hd0 hd1 hs5
       by_cases el:k+1=n
       ·have l1:((k:Int)+1==(n:Int))=true:=Y4;have l2:(k+1==n)=true:=by simpa using el
        have HLN:=J el;clear el
        by_cases e10:kd.kind=10
        ·have q1:(kd.kind==10)=true:=Y26;have HNX:Hid (bB (aS x.size) value x.kids sd=s5):=J (by
          have hl9:(x.kids.drop (k+1)).length=n-(k+1):=Y36;have hk9:=HLT.out;have hk8:=HLN.out;rw [HD.out,HDR.out,cZ,HS5.out];rw [if_pos ⟨by omega,e10⟩])
         clear e10;go_wp2_with (first | (go_at_call 18;(with_reducible refine (HVA.out HK4.out bel).mono ?_);rintro e w5 ⟨rfl,hx5⟩;have hx6:=HX.out.back HWB.out hx5 (fun k z=>.inl z);have HX6:=J hx6;obtain ⟨c0,c1,c2,c3,c4,c5⟩:=HBX.out _ hx6.2;rw [HPK.out] at c5;have hk6:=(hx5.2.block wr.heap.size (aA HKB.out) (fun z=>z (.inr rfl))).trans HKB.out;have d0:w5.cell? ⟨wr.heap.size,0,none⟩=some (.int .i64 kd.kind):=aC hk6 rfl;clear hx5 hx6 hk6));go_roundw
         case rel=>exact ⟨k+1,s5,true,by go_num,rfl,HLT.out,HX6.out,fun z=>(by cases z),fun _=>⟨HLN.out,HNX.out⟩,by
          exact Z102⟩
         case measure=>simp [intOf];have:=HLT.out;omega
        ·have q1:(kd.kind==10)=false:=Y26
         cases value with
         | true=>
          have HNX:Hid (bB (aS x.size) true x.kids sd=(aB s5 20 0 0)):=J (by
           have hl9:(x.kids.drop (k+1)).length=n-(k+1):=Y36;have hk9:=HLT.out;have hk8:=HLN.out;rw [HD.out,HDR.out,cZ,HS5.out];rw [if_neg (fun z=>e10 z.2),if_pos ⟨by omega,rfl⟩])
          clear e10;go_wp2_with (first | (go_at_call 18;(with_reducible refine (HVA.out HK4.out bel).mono ?_);rintro e w5 ⟨rfl,hx5⟩;have hx6:=HX.out.back HWB.out hx5 (fun k z=>.inl z);have HX6:=J hx6;obtain ⟨c0,c1,c2,c3,c4,c5⟩:=HBX.out _ hx6.2;rw [HPK.out] at c5;have hk6:=(hx5.2.block wr.heap.size (aA HKB.out) (fun z=>z (.inr rfl))).trans HKB.out;have d0:w5.cell? ⟨wr.heap.size,0,none⟩=some (.int .i64 kd.kind):=aC hk6 rfl;clear hx5 hx6 hk6) | (go_at_call 19;(with_reducible refine (bG HX6.out bel 20 0 0 HF5.out).mono ?_);rintro e w6 ⟨rfl,hx3⟩;have HX7:=J hx3;obtain ⟨c0,c1,c2,c3,c4,c5⟩:=HBX.out _ hx3.2;clear hx3));go_roundw
          case rel=>exact ⟨k+1,(aB s5 20 0 0),true,by go_num,rfl,HLT.out,HX7.out,fun z=>(by cases z),fun _=>⟨HLN.out,HNX.out⟩,by
           exact Z103⟩
          case measure=>simp [intOf];have:=HLT.out;omega
         | false=>
          have HNX:Hid (bB (aS x.size) false x.kids sd=bB (aS x.size) false (x.kids.drop (k+1)) (aB s5 12 0 0)):=J (by
           have hl9:(x.kids.drop (k+1)).length=n-(k+1):=Y36;have hk9:=HLT.out;have hk8:=HLN.out;rw [HD.out,HDR.out,cZ,HS5.out];rw [if_neg (fun z=>e10 z.2),if_neg (fun z=>by cases z.2),if_neg e10])
          exact Z100
       ·have l1:((k:Int)+1==(n:Int))=false:=Y4;have l2:(k+1==n)=false:=by simpa using el
        have HLN:=J el;clear el
        by_cases e10:kd.kind=10
        ·have q1:(kd.kind==10)=true:=Y26;have HNX:Hid (bB (aS x.size) value x.kids sd=bB (aS x.size) value (x.kids.drop (k+1)) s5):=J (by
          have hl9:(x.kids.drop (k+1)).length=n-(k+1):=Y36;have hk9:=HLT.out;have hk8:=HLN.out;rw [HD.out,HDR.out,cZ,HS5.out];rw [if_neg (fun z=>by have:=z.1;omega),if_neg (fun z=>by have:=z.1;omega),if_pos e10])
         clear e10;go_wp2_with (first | (go_at_call 18;(with_reducible refine (HVA.out HK4.out bel).mono ?_);rintro e w5 ⟨rfl,hx5⟩;have hx6:=HX.out.back HWB.out hx5 (fun k z=>.inl z);have HX6:=J hx6;obtain ⟨c0,c1,c2,c3,c4,c5⟩:=HBX.out _ hx6.2;rw [HPK.out] at c5;have hk6:=(hx5.2.block wr.heap.size (aA HKB.out) (fun z=>z (.inr rfl))).trans HKB.out;have d0:w5.cell? ⟨wr.heap.size,0,none⟩=some (.int .i64 kd.kind):=aC hk6 rfl;clear hx5 hx6 hk6));go_roundw
         case rel=>exact ⟨k+1,s5,false,by go_num,rfl,HLT.out,HX6.out,fun _=>HNX.out,fun z=>(by cases z),by
          exact Z102⟩
         case measure=>simp [intOf];have:=HLT.out;omega
        ·have q1:(kd.kind==10)=false:=Y26;have HNX:Hid (bB (aS x.size) value x.kids sd=bB (aS x.size) value (x.kids.drop (k+1)) (aB s5 12 0 0)):=J (by
          have hl9:(x.kids.drop (k+1)).length=n-(k+1):=Y36;have hk9:=HLT.out;have hk8:=HLN.out;rw [HD.out,HDR.out,cZ,HS5.out];rw [if_neg (fun z=>by have:=z.1;omega),if_neg (fun z=>by have:=z.1;omega),if_neg e10])
         exact Z100
      ·have hkn2:n=k:=I;have d1:=aK hlt;have d2:=aF hlt;have HD0:=J hd0;have HD1:=J hd1;have HFZ:Hid (sk.code.length≤1000000):=J Y34;have HFYa:Hid ((aB sk 2 0 0).code.length≤1000000):=J Y120;have HFYb:Hid ((aB sk 1 0 0).code.length≤1000000):=J Y120;clear hlt hd0 hd1;subst hkn2
       go_upto_if 104 with fail
       go_cut [] (fun wx=>CT w (fun k=>k<cb) w3 wx cb (⟨x.text,x.names.length,x.num⟩) SS)
       case first=>
        cases bb with
        | true=>
         have HS9:=J (HD1.out rfl).2;go_wp2_with fail;go_meet;rw [←HSS.out,HS9.out];exact HX.out
        | false=>
         cases value with
         | true=>
          have HS9:Hid (bB (aS x.size) true x.kids sd=aB (aB sk 2 0 0) 20 0 0):=J (by rw [HD0.out rfl,←HNK.out,List.drop_length];rfl);go_wp2_with (first | (go_at_call 19;(with_reducible refine (bG HX.out bel 2 0 0 HFZ.out).mono ?_);rintro e w9 ⟨rfl,hx3⟩;have HX8:=J hx3;obtain ⟨c0,c1,c2,c3,c4,c5⟩:=HBX.out _ hx3.2;clear hx3) | (go_at_call 19;(with_reducible refine (bG HX8.out bel 20 0 0 HFYa.out).mono ?_);rintro e w10 ⟨rfl,hx3⟩;have HX9:=J hx3;obtain ⟨c0,c1,c2,c3,c4,c5⟩:=HBX.out _ hx3.2;clear hx3));go_meet;rw [←HSS.out,HS9.out];exact HX9.out
         | false=>
          have HS9:Hid (bB (aS x.size) false x.kids sd=aB (aB sk 1 0 0) 20 0 0):=J (by rw [HD0.out rfl,←HNK.out,List.drop_length];rfl);go_wp2_with (first | (go_at_call 19;(with_reducible refine (bG HX.out bel 1 0 0 HFZ.out).mono ?_);rintro e w9 ⟨rfl,hx3⟩;have HX8:=J hx3;obtain ⟨c0,c1,c2,c3,c4,c5⟩:=HBX.out _ hx3.2;clear hx3) | (go_at_call 19;(with_reducible refine (bG HX8.out bel 20 0 0 HFYb.out).mono ?_);rintro e w10 ⟨rfl,hx3⟩;have HX9:=J hx3;obtain ⟨c0,c1,c2,c3,c4,c5⟩:=HBX.out _ hx3.2;clear hx3));go_meet;rw [←HSS.out,HS9.out];exact HX9.out
       case rest=>
        rename World=>w9
        have HX9:=J hcut;clear hcut c0 c1 c2 c3 c4 c5;have HTS9:Hid (Turns (cP (fun k=>k<cb)) w3 w9):=J HX9.out.2;have HTB:Hid (w9.heap[w.heap.size+1]? =some (.cells #[.string eB,.int .i64 0,.int .i64 0,.int .i64 0,.slice none 0 0,.slice none 0 0] 32 (0,0))):=J ((HTS9.out.block (w.heap.size+1) (aA HXB.out.2.1) (fun z=>z HXB.out.2.2)).trans HXB.out.2.1);have HBW:Hid (Below w.heap.size w w9):=J HX9.out.1.stat;obtain ⟨lv,cv,nv,D,ps,hy,hfw⟩:=HX9.out.1;obtain ⟨Al,cl,hlv,hll,_⟩:=aX hy.lits.own;obtain ⟨Ac,cc,hcv,hcl,_⟩:=aX hy.code;subst hlv;subst hcv;obtain ⟨nl,hnl⟩:=aE SS.lits.length;obtain ⟨nc,hnc⟩:=aE SS.code.length;have hpl:ps.length=nl:=by rw [←hnl,←hy.lps,List.length_map]
        rw [hpl] at hy;rw [hnc] at hy;have k0:w9.cell? ⟨cb,0,none⟩=some (.string x.text):=Y15;have k1:w9.cell? ⟨cb,1,none⟩=some (.int .i64 (x.names.length:Int)):=Y15;have k2:w9.cell? ⟨cb,2,none⟩=some (.int .i64 (SS.temps:Int)):=Y15;have k3:w9.cell? ⟨cb,3,none⟩=some (.int .i64 x.num):=Y15;have k4:w9.cell? ⟨cb,4,none⟩=some (.slice Al nl cl):=Y15;have k5:w9.cell? ⟨cb,5,none⟩=some (.slice Ac nc cc):=Y15;have k8:w9.cell? ⟨cb,8,none⟩=some (.string SS.ename):=Y15;have k7:w9.cell? ⟨cb,7,none⟩=some (.int .i64 SS.err):=Y15;have t0:w9.cell? ⟨w.heap.size+1,0,none⟩=some (.string eB):=aC HTB.out rfl;have f0:w9.frozen? ⟨w.heap.size+1,0,none⟩=false:=Y25;have t1:w9.cell? ⟨w.heap.size+1,1,none⟩=some (.int .i64 0):=aC HTB.out rfl;have f1:w9.frozen? ⟨w.heap.size+1,1,none⟩=false:=Y25;have t2:w9.cell? ⟨w.heap.size+1,2,none⟩=some (.int .i64 0):=aC HTB.out rfl;have f2:w9.frozen? ⟨w.heap.size+1,2,none⟩=false:=Y25;have t3:w9.cell? ⟨w.heap.size+1,3,none⟩=some (.int .i64 0):=aC HTB.out rfl;have f3:w9.frozen? ⟨w.heap.size+1,3,none⟩=false:=Y25;have t4:w9.cell? ⟨w.heap.size+1,4,none⟩=some (.slice none 0 0):=aC HTB.out rfl;have f4:w9.frozen? ⟨w.heap.size+1,4,none⟩=false:=Y25;have t5:w9.cell? ⟨w.heap.size+1,5,none⟩=some (.slice none 0 0):=aC HTB.out rfl;have f5:w9.frozen? ⟨w.heap.size+1,5,none⟩=false:=Y25;have HY:=J hy;have HNL:=J hnl;have HNC:=J hnc;have HPL:=J hpl;clear hy hfw hll hcl hnl hnc hpl
        by_cases he:SS.err=0
        ·rw [he] at k7;have HE:=J he;clear he;have y1:(0:Int)=0:=rfl
         by_cases h60:60<nl
         ·have v1:decide ((60:Int)<(nl:Int))=true:=aD I;have HR2:Hid (mA fields value x=(noMet,eB,18)):=J Y107;clear h60;go_wp2_with fail;obtain ⟨W9,hW9⟩:∃W9,W9=((((((w9.setCell ⟨w.heap.size+1,0,none⟩ (.string eB)).setCell ⟨w.heap.size+1,1,none⟩ (.int .i64 0)).setCell ⟨w.heap.size+1,2,none⟩ (.int .i64 0)).setCell ⟨w.heap.size+1,3,none⟩ (.int .i64 0)).setCell ⟨w.heap.size+1,4,none⟩ (.slice none 0 0)).setCell ⟨w.heap.size+1,5,none⟩ (.slice none 0 0)):=⟨_,rfl⟩;have h9:W9.heap[w.heap.size+1]? =some (.cells #[.string eB,.int .i64 0,.int .i64 0,.int .i64 0,.slice none 0 0,.slice none 0 0] 32 (0,0)):=Y90;obtain ⟨z0,z1,z2,z3,z4,z5⟩:=cc6 h9;have HW9:Hid (Below w.heap.size w9 W9):=J Y14;rw [←hW9];clear hW9 h9;refine bodyPost_ret (v:=.tuple #[.agg #[.string eB,.int .i64 0,.int .i64 0,.int .i64 0,.slice none 0 0,.slice none 0 0],.string eB,.int .i64 18]) Y46 rfl ?_;rw [HR2.out];exact ReadP.no rfl (HBW.out.trans HW9.out) Y3
         ·have v1:decide ((60:Int)<(nl:Int))=false:=aK I
          by_cases h400:400<nc
          ·have v2:decide ((400:Int)<(nc:Int))=true:=aD I;have HR2:Hid (mA fields value x=(noMet,eB,12)):=J Y57;clear h60 h400;go_wp2_with fail;obtain ⟨W9,hW9⟩:∃W9,W9=((((((w9.setCell ⟨w.heap.size+1,0,none⟩ (.string eB)).setCell ⟨w.heap.size+1,1,none⟩ (.int .i64 0)).setCell ⟨w.heap.size+1,2,none⟩ (.int .i64 0)).setCell ⟨w.heap.size+1,3,none⟩ (.int .i64 0)).setCell ⟨w.heap.size+1,4,none⟩ (.slice none 0 0)).setCell ⟨w.heap.size+1,5,none⟩ (.slice none 0 0)):=⟨_,rfl⟩;have h9:W9.heap[w.heap.size+1]? =some (.cells #[.string eB,.int .i64 0,.int .i64 0,.int .i64 0,.slice none 0 0,.slice none 0 0] 32 (0,0)):=Y90;obtain ⟨z0,z1,z2,z3,z4,z5⟩:=cc6 h9;have HW9:Hid (Below w.heap.size w9 W9):=J Y14;rw [←hW9];clear hW9 h9;refine bodyPost_ret (v:=.tuple #[.agg #[.string eB,.int .i64 0,.int .i64 0,.int .i64 0,.slice none 0 0,.slice none 0 0],.string eB,.int .i64 12]) Y46 rfl ?_;rw [HR2.out];exact ReadP.no rfl (HBW.out.trans HW9.out) Y3
          ·have v2:decide ((400:Int)<(nc:Int))=false:=aK I;have HRT2:Hid (mA fields value x=if SS.code.all fD then (⟨x.text,x.names.length,SS.temps,x.num,SS.lits,SS.code⟩,eB,0) else (noMet,eB,12)):=J Y58;have hnc4:nc≤400:=I;clear h60 h400;obtain ⟨curc,hcurc⟩:∃cur,∀kk,(Value.slice Ac nc cc).ownBlock=some kk→w9.heap[kk]? =some (.cells cur 42 (0,0)):=by
            rcases hA:(Value.slice Ac nc cc).ownBlock with _ | kk
            ·exact ⟨#[],fun kk e=>(by cases e)⟩
            ·obtain ⟨cur,hc⟩:=bN HY.out.code hA;exact ⟨cur,fun kk' e=>(by cases e;exact hc)⟩
           clear hcurc curc;go_wp2_with fail
           go_loopw [15] (fun i wr=>∃(k:Nat),i= .int .i64 k∧k≤nc∧(SS.code.take k).all fD=true∧Below w9.heap.size w9 wr) (fun i _=>nc-(intOf i).toNat)
           case atStart=>exact ⟨0,rfl,Nat.zero_le _,rfl,Below.refl _ _⟩
           case round=>
            obtain ⟨j,rfl,hj,hall,hbr⟩:=hrel;have HBR:=J hbr;have HALL:=J hall;have hsz9:=hbr.size;clear t0 t1 t2 t3 t4 t5 f0 f1 f2 f3 f4 f5 k0 k1 k2 k3 k4 k5 k7 k8;have k5:wr.cell? ⟨cb,5,none⟩=some (.slice Ac nc cc):=by rw [World.cell?_of_block (hbr.block cb (aA HY.out.box)),HY.out.cell];rfl
            by_cases hlt:j<nc
            ·have d1:=aD hlt;have d2:=aT hlt;have hjl:j<SS.code.length:=by rw [HNC.out];exact hlt
             obtain ⟨⟨yo,ya,yb⟩,hy9⟩:=aE (SS.code[j]);obtain ⟨g,rfl⟩:∃g,Ac=some ⟨g,0,none⟩:=by
              rcases HY.out.code.2 with ⟨_,h0⟩ | ⟨g,cap,cur,hv,_⟩
              ·rw [HNC.out] at h0;omega
              ·simp only [Value.slice.injEq] at hv;exact ⟨g,hv.1⟩
             have hgl:=(World.ownsRow.lt HY.out.code g rfl).2;have hcl:∀jj,jj<3→wr.cell? ⟨g,j*3+jj,none⟩=(gF ⟨yo,ya,yb⟩)[jj]? :=fun jj hjj=>by
              rw [hbr.cell (p:=⟨g,j*3+jj,none⟩) hgl];have ho:=HY.out.code;rw [HNC.out] at ho;rw [World.ownsRow.cellAt ho (j*3+jj) I,eY jQ SS.code j jj hjl hjj,hy9]
             have i0:wr.cell? ⟨g,j*3,none⟩=some (.int .i64 yo):=hcl 0 I;have i1:wr.cell? ⟨g,j*3+1,none⟩=some (.int .i64 ya):=hcl 1 I;have i2:wr.cell? ⟨g,j*3+2,none⟩=some (.int .i64 yb):=hcl 2 I;have HYJ:Hid (∃h:j<SS.code.length,SS.code[j]=⟨yo,ya,yb⟩):=J ⟨hjl,hy9⟩;have HLT:=J hlt;have g0:(0:Int)≤(j:Int):=I;have g1:(j:Int)<(nc:Int):=I;have hgw:g<wr.heap.size:=aN hgl hbr.size;obtain ⟨mv,hmv⟩:=aE (fD ⟨yo,ya,yb⟩);have HMV:=J hmv;have HMC:Hid (∀W,Calls Tryz.prog 20 #[.agg #[.int .i64 yo,.int .i64 ya,.int .i64 yb]] W fun e w'=>e= .returned (.bool mv)∧Below W.heap.size W w'):=J (fun W=>by rw [←hmv];exact Lv.rmay_any yo ya yb W);clear hcl hgl hy9 hjl hlt hall hmv hbr
             cases mv with
             | true=>
              go_wp2_with (first | (go_at_call 20;(with_reducible refine (HMC.out _).mono ?_);rintro e w10 ⟨rfl,hb10⟩;have hb11:=(bz wr).trans (hb10.mono (bz wr).size);have HB10:=J hb11;clear hb10 hb11));go_roundw
              case rel=>exact ⟨j+1,by go_num,HLT.out,by obtain ⟨hjl,hy9⟩:=HYJ.out;rw [List.take_succ_eq_append_getElem hjl,List.all_append,HALL.out,hy9];simp [HMV.out],HBR.out.trans (HB10.out.mono HBR.out.size)⟩
              case measure=>simp [intOf];have:=HLT.out;omega
             | false=>
              have HR2:Hid (mA fields value x=(noMet,eB,12)):=J (by rw [HRT2.out,if_neg (fun z=>by
               rw [List.all_eq_true] at z;obtain ⟨hjl,hy9⟩:=HYJ.out;have h9:=z _ (List.getElem_mem hjl);rw [hy9,HMV.out] at h9
               cases h9)])
              go_wp2_with (first | (go_at_call 20;(with_reducible refine (HMC.out _).mono ?_);rintro e w10 ⟨rfl,hb10⟩;have hb11:=(bz wr).trans (hb10.mono (bz wr).size);have HB10:=J hb11;have HB11:Hid (Below w9.heap.size w9 w10):=J (HBR.out.trans (HB10.out.mono HBR.out.size));have HT10:Hid (w10.heap[w.heap.size+1]? =some (.cells #[.string eB,.int .i64 0,.int .i64 0,.int .i64 0,.slice none 0 0,.slice none 0 0] 32 (0,0))):=J ((HB11.out.block _ (aA HTB.out)).trans HTB.out);have t0:w10.cell? ⟨w.heap.size+1,0,none⟩=some (.string eB):=aC HT10.out rfl;have f0:w10.frozen? ⟨w.heap.size+1,0,none⟩=false:=Y9;have t1:w10.cell? ⟨w.heap.size+1,1,none⟩=some (.int .i64 0):=aC HT10.out rfl;have f1:w10.frozen? ⟨w.heap.size+1,1,none⟩=false:=Y9;have t2:w10.cell? ⟨w.heap.size+1,2,none⟩=some (.int .i64 0):=aC HT10.out rfl;have f2:w10.frozen? ⟨w.heap.size+1,2,none⟩=false:=Y9;have t3:w10.cell? ⟨w.heap.size+1,3,none⟩=some (.int .i64 0):=aC HT10.out rfl;have f3:w10.frozen? ⟨w.heap.size+1,3,none⟩=false:=Y9;have t4:w10.cell? ⟨w.heap.size+1,4,none⟩=some (.slice none 0 0):=aC HT10.out rfl;have f4:w10.frozen? ⟨w.heap.size+1,4,none⟩=false:=Y9;have t5:w10.cell? ⟨w.heap.size+1,5,none⟩=some (.slice none 0 0):=aC HT10.out rfl;have f5:w10.frozen? ⟨w.heap.size+1,5,none⟩=false:=Y9;clear hb10 hb11));obtain ⟨W9,hW9⟩:∃W9,W9=((((((w10.setCell ⟨w.heap.size+1,0,none⟩ (.string eB)).setCell ⟨w.heap.size+1,1,none⟩ (.int .i64 0)).setCell ⟨w.heap.size+1,2,none⟩ (.int .i64 0)).setCell ⟨w.heap.size+1,3,none⟩ (.int .i64 0)).setCell ⟨w.heap.size+1,4,none⟩ (.slice none 0 0)).setCell ⟨w.heap.size+1,5,none⟩ (.slice none 0 0)):=⟨_,rfl⟩;have h9:W9.heap[w.heap.size+1]? =some (.cells #[.string eB,.int .i64 0,.int .i64 0,.int .i64 0,.slice none 0 0,.slice none 0 0] 32 (0,0)):=Y138;obtain ⟨z0,z1,z2,z3,z4,z5⟩:=cc6 h9;have HW9:Hid (Below w.heap.size w10 W9):=J Y14;rw [←hW9];clear hW9 h9;refine bodyPost_ret (v:=.tuple #[.agg #[.string eB,.int .i64 0,.int .i64 0,.int .i64 0,.slice none 0 0,.slice none 0 0],.string eB,.int .i64 12]) Y46 rfl ?_;rw [HR2.out];exact ReadP.no rfl ((HBW.out.trans (HB11.out.mono HBW.out.size)).trans HW9.out) Y3
            ·have hjn:j=nc:=I;have d1:=aK hlt;have d2:=aF hlt;clear hlt;have HR2:Hid (mA fields value x=(⟨x.text,x.names.length,SS.temps,x.num,SS.lits,SS.code⟩,eB,0)):=J (by
              have h9:=HALL.out;rw [hjn,←HNC.out,List.take_length] at h9;rw [HRT2.out,if_pos h9])
             subst hjn;have hcw:∀i,wr.cell? ⟨cb,i,none⟩=w9.cell? ⟨cb,i,none⟩:=fun i=>World.cell?_of_block (hbr.block cb (aA HY.out.box))
             have k0:wr.cell? ⟨cb,0,none⟩=some (.string x.text):=Y35;have k1:wr.cell? ⟨cb,1,none⟩=some (.int .i64 (x.names.length:Int)):=Y35;have k2:wr.cell? ⟨cb,2,none⟩=some (.int .i64 (SS.temps:Int)):=Y35;have k3:wr.cell? ⟨cb,3,none⟩=some (.int .i64 x.num):=Y35;have k4:wr.cell? ⟨cb,4,none⟩=some (.slice Al nl cl):=Y35;have k5:wr.cell? ⟨cb,5,none⟩=some (.slice Ac j cc):=Y35;have HT10:Hid (wr.heap[w.heap.size+1]? =some (.cells #[.string eB,.int .i64 0,.int .i64 0,.int .i64 0,.slice none 0 0,.slice none 0 0] 32 (0,0))):=J ((hbr.block _ (aA HTB.out)).trans HTB.out);have t0:wr.cell? ⟨w.heap.size+1,0,none⟩=some (.string eB):=aC HT10.out rfl;have f0:wr.frozen? ⟨w.heap.size+1,0,none⟩=false:=Y9;have t1:wr.cell? ⟨w.heap.size+1,1,none⟩=some (.int .i64 0):=aC HT10.out rfl;have f1:wr.frozen? ⟨w.heap.size+1,1,none⟩=false:=Y9;have t2:wr.cell? ⟨w.heap.size+1,2,none⟩=some (.int .i64 0):=aC HT10.out rfl;have f2:wr.frozen? ⟨w.heap.size+1,2,none⟩=false:=Y9;have t3:wr.cell? ⟨w.heap.size+1,3,none⟩=some (.int .i64 0):=aC HT10.out rfl;have f3:wr.frozen? ⟨w.heap.size+1,3,none⟩=false:=Y9;have t4:wr.cell? ⟨w.heap.size+1,4,none⟩=some (.slice none 0 0):=aC HT10.out rfl;have f4:wr.frozen? ⟨w.heap.size+1,4,none⟩=false:=Y9;have t5:wr.cell? ⟨w.heap.size+1,5,none⟩=some (.slice none 0 0):=aC HT10.out rfl;have f5:wr.frozen? ⟨w.heap.size+1,5,none⟩=false:=Y9;have HFIN:Hid (∀W,Turns (fun k=>k=w.heap.size+1) w9 W→ReadP (⟨x.text,x.names.length,SS.temps,x.num,SS.lits,SS.code⟩,eB,0) w (.returned (.tuple #[.agg #[.string x.text,.int .i64 (x.names.length:Int),.int .i64 (SS.temps:Int),.int .i64 x.num,.slice Al nl cl,.slice Ac j cc],.string eB,.int .i64 0])) W):=J (fun W hT=>by
              have hcb9:=HXB.out.2.2;have hne:∀kk,¬(fun k=>k<cb) kk→¬kk=w.heap.size+1:=fun kk z e=>z (by show kk<cb;omega)
              refine ⟨.slice Al nl cl,.slice Ac j cc,D,ps,rfl,?_,HY.out.lps,?_,HBW.out.trans (hT.below (fun k e=>by omega) HBW.out.size),fun k hk=>⟨?_,(HY.out.lvP k hk).2⟩,fun k hk=>?_,fun k hk=>?_,Nat.zero_le _⟩
              ·have hl9:=HY.out.lits;exact hl9.same hT.size (fun k hk=>hT.block k (World.ownsRow.lt hl9.own k hk).2 (hne k (HY.out.lvP k hk).1)) (fun b hb hl=>hT.block b hl (fun e=>by
                obtain ⟨cur,hc⟩:=HY.out.dty b hb;rw [e,HTB.out] at hc;simp at hc)) (fun _ z=>z)
              ·exact aJ HY.out.code hT.size (fun k hk=>hT.block k (World.ownsRow.lt HY.out.code k hk).2 (hne k (HY.out.cvP k hk)))
              ·have h9:¬k<cb:=(HY.out.lvP k hk).1;omega
              ·have h9:¬k<cb:=HY.out.cvP k hk;omega
              ·obtain ⟨cur,hc⟩:=HY.out.dty k hk;exact ⟨cur,(hT.block k (aA hc) (fun e=>by rw [e,HTB.out] at hc;simp at hc)).trans hc⟩)
             clear hcw hbr hall;go_wp2_with fail;obtain ⟨W9,hW9⟩:∃W9,W9=((((((wr.setCell ⟨w.heap.size+1,0,none⟩ (.string x.text)).setCell ⟨w.heap.size+1,1,none⟩ (.int .i64 (x.names.length:Int))).setCell ⟨w.heap.size+1,2,none⟩ (.int .i64 (SS.temps:Int))).setCell ⟨w.heap.size+1,3,none⟩ (.int .i64 x.num)).setCell ⟨w.heap.size+1,4,none⟩ (.slice Al nl cl)).setCell ⟨w.heap.size+1,5,none⟩ (.slice Ac j cc)):=⟨_,rfl⟩;have h9:W9.heap[w.heap.size+1]? =some (.cells #[.string x.text,.int .i64 (x.names.length:Int),.int .i64 (SS.temps:Int),.int .i64 x.num,.slice Al nl cl,.slice Ac j cc] 32 (0,0)):=Y138;obtain ⟨z0,z1,z2,z3,z4,z5⟩:=cc6 h9;have HW9:Hid (Below w.heap.size wr W9):=J Y14;have HWT:Hid (Turns (fun k=>k=w.heap.size+1) w9 W9):=J Y73;rw [←hW9];clear hW9 h9;refine bodyPost_ret (v:=.tuple #[.agg #[.string x.text,.int .i64 (x.names.length:Int),.int .i64 (SS.temps:Int),.int .i64 x.num,.slice Al nl cl,.slice Ac j cc],.string eB,.int .i64 0]) Y46 rfl ?_;rw [HR2.out];exact HFIN.out W9 HWT.out
        ·have HR2:Hid (mA fields value x=(noMet,SS.ename,SS.err)):=J (by rw [HRT.out,if_pos he]);have z1:(SS.err==0)=false:=Y20;have z2:(SS.err != 0)=true:=Y20;clear he
         go_upto_region 29 with fail
         go_region
         all_goals
          go_wp2_with fail;obtain ⟨W9,hW9⟩:∃W9,W9=((((((w9.setCell ⟨w.heap.size+1,0,none⟩ (.string eB)).setCell ⟨w.heap.size+1,1,none⟩ (.int .i64 0)).setCell ⟨w.heap.size+1,2,none⟩ (.int .i64 0)).setCell ⟨w.heap.size+1,3,none⟩ (.int .i64 0)).setCell ⟨w.heap.size+1,4,none⟩ (.slice none 0 0)).setCell ⟨w.heap.size+1,5,none⟩ (.slice none 0 0)):=⟨_,rfl⟩;have h9:W9.heap[w.heap.size+1]? =some (.cells #[.string eB,.int .i64 0,.int .i64 0,.int .i64 0,.slice none 0 0,.slice none 0 0] 32 (0,0)):=Y90;obtain ⟨z0,z1,z2,z3,z4,z5⟩:=cc6 h9;have HW9:Hid (Below w.heap.size w9 W9):=J Y14;rw [←hW9];clear hW9 h9;refine bodyPost_ret (v:=.tuple #[.agg #[.string eB,.int .i64 0,.int .i64 0,.int .i64 0,.slice none 0 0,.slice none 0 0],.string SS.ename,.int .i64 SS.err]) Y46 rfl ?_;rw [HR2.out];exact ReadP.no rfl (HBW.out.trans (by first | exact HW9.out | exact HW9.out.drew)) HY.out.enm
 ·have q1:(x.kind==11)=false:=Y149;have q2:(x.kind != 11)=true:=Y149;have HRD:Hid (oG x.size x fields value=(noMet,eB,1)):=J (by unfold oG;rw [if_pos (.inl hk)]);rw [HRD.out];clear hk;exact Z101
end Go.Proofs.YtnojndgmgkgnpaaGreat.Rf
namespace Go.Proofs.YtnojndgmgkgnpaaGreat
open Go.ChangeShapes Go.WideShapes Go.ChangeAt Go.RowKit Go.Deep Go.Joins Go.Maps
mutual
theorem pZ:∀a:LitT,eA a a=true
 | .node k t n l=>by unfold eA;simp [oI l]
theorem oI:∀l:List LitT,fN l l=true
 | []=>by unfold fN;rfl
 | x :: r=>by unfold fN;simp [pZ x,oI r]
end
theorem neqI (x y z:Int) (w:World):(binOp .neq 42 (.agg #[.int .i64 x,.int .i64 y,.int .i64 z]) (.agg #[.int .i64 x,.int .i64 y,.int .i64 z])).run Tryz.prog w= .ok (.bool false) w:=by
 simp [go_sem]
theorem yV {w0 w:World} {A B:Option Addr} {n c d:Nat} {C:Nat→Ins} (hA:IsCode w0 A n C) (hA':IsCode w0 B n C) (hn:n≤1000) (hB:Below w0.heap.size w0 w):
  Calls Tryz.prog 21 #[.slice A n c,.slice B n d] w fun e w'=>e= .returned (.bool true)∧Below w.heap.size w w':=by
 have hI:Inv w0 w w w:=Inv.start hB (Below.refl _ _);clear hB;go_enter Tryz.func21,Tryz.ntmps21;go_wp2_with fail
 go_loopw [5] (fun i wr=>∃k:Nat,k≤n∧i= .int .i64 k∧Inv w0 w w wr) (fun i _=>n-(intOf i).toNat)
 case atStart=>exact ⟨0,Nat.zero_le _,rfl,hI⟩
 case round=>
  clear hI;obtain ⟨k,hk,rfl,hI⟩:=hrel
  by_cases hlt:k<n
  ·have hlt':decide (k<n)=true:=aD hlt;obtain ⟨g,off,rfl,hgl,c0,c1,c2⟩:=hA.at_ hI.b0 hlt;obtain ⟨g',off',rfl,hgl',e0,e1,e2⟩:=hA'.at_ hI.b0 hlt;obtain ⟨i,hi⟩:=aE (C k);rw [hi] at c0 c1 c2 e0 e1 e2;have hq:=neqI;clear hA hA' hi;go_wp2_with fail
   go_quiet (fail)
   go_wp2;go_roundw
   case rel=>exact ⟨k+1,by omega,by go_num,hI.go bel⟩
   case measure=>simp [intOf];omega
  ·have hkn:k=n:=I;have hlt':decide (k<n)=false:=aK hlt;go_wp2;go_ret;exact ⟨rfl,hI.bw⟩
theorem yW {w:World} {sel:ByteArray} {xa xt xp:Int} {A1 B1 A2 B2:Option Addr} {nl c1 nc d1 c2 d2:Nat} {D1 D2:Nat→Prop} {ps1 ps2:List LP} {C:Nat→Ins} (hl1:LitRow w D1 (.slice A1 nl c1) ps1) (hl2:LitRow w D2 (.slice A2 nl c2) ps2) (hp1:ps1.length=nl) (hps:ps1.map Prod.fst=ps2.map Prod.fst) (hc1:IsCode w B1 nc C) (hc2:IsCode w B2 nc C) (hnc:nc≤1000) (hnl:nl≤9223372036854775807):
  Calls Tryz.prog 10 #[.agg #[.string sel,.int .i64 xa,.int .i64 xt,.int .i64 xp,.slice A1 nl c1,.slice B1 nc d1],.agg #[.string sel,.int .i64 xa,.int .i64 xt,.int .i64 xp,.slice A2 nl c2,.slice B2 nc d2]] w fun e w'=>e= .returned (.bool true)∧Below w.heap.size w w':=by
 have hbw:Below w.heap.size w ((w.alloc (.cells #[.string sel,.int .i64 xa,.int .i64 xt,.int .i64 xp,.slice A1 nl c1,.slice B1 nc d1] 32)).alloc (.cells #[.string sel,.int .i64 xa,.int .i64 xt,.int .i64 xp,.slice A2 nl c2,.slice B2 nc d2] 32)):=bel;have HCS0:Hid (∀W,Below w.heap.size w W→Calls Tryz.prog 21 #[.slice B1 nc d1,.slice B2 nc d2] W fun e w'=>e= .returned (.bool true)∧Below W.heap.size W w'):=J (fun W hW=>yV hc1 hc2 hnc hW);have HP1:=J hp1;have HP2:Hid (ps2.length=nl):=J (by have:=congrArg List.length hps;rw [List.length_map,List.length_map] at this;omega);have HPS:Hid (∀k (h1:k<ps1.length) (h2:k<ps2.length),ps1[k].1=ps2[k].1):=J (fun k h1 h2=>by
  have e1:(ps1.map Prod.fst)[k]'(by rw [List.length_map];exact h1)=ps1[k].1:=Y12;have e2:(ps2.map Prod.fst)[k]'(by rw [List.length_map];exact h2)=ps2[k].1:=Y12;rw [←e1,←e2];simp only [hps])
 have same:∀{D:Nat→Prop} {v:Value} {ps:List LP},LitRow w D v ps→LitRow ((w.alloc (.cells #[.string sel,.int .i64 xa,.int .i64 xt,.int .i64 xp,.slice A1 nl c1,.slice B1 nc d1] 32)).alloc (.cells #[.string sel,.int .i64 xa,.int .i64 xt,.int .i64 xp,.slice A2 nl c2,.slice B2 nc d2] 32)) D v ps:=fun h=>h.same hbw.size (fun k hk=>hbw.block k (World.ownsRow.lt h.own k hk).2) (fun b _ hl=>hbw.block b hl) (fun _ z=>z)
 have HL1:=J (same hl1);have HL2:=J (same hl2);have h1:=heap_alloc_new w (.cells #[.string sel,.int .i64 xa,.int .i64 xt,.int .i64 xp,.slice A1 nl c1,.slice B1 nc d1] 32);have h2:=heap_alloc_new (w.alloc (.cells #[.string sel,.int .i64 xa,.int .i64 xt,.int .i64 xp,.slice A1 nl c1,.slice B1 nc d1] 32)) (.cells #[.string sel,.int .i64 xa,.int .i64 xt,.int .i64 xp,.slice A2 nl c2,.slice B2 nc d2] 32);rw [World.size_alloc] at h2;have h1':((w.alloc (.cells #[.string sel,.int .i64 xa,.int .i64 xt,.int .i64 xp,.slice A1 nl c1,.slice B1 nc d1] 32)).alloc (.cells #[.string sel,.int .i64 xa,.int .i64 xt,.int .i64 xp,.slice A2 nl c2,.slice B2 nc d2] 32)).heap[w.heap.size]? =some (.cells #[.string sel,.int .i64 xa,.int .i64 xt,.int .i64 xp,.slice A1 nl c1,.slice B1 nc d1] 32 (0,0)):=((ba).block _ (aA h1)).trans h1;have HBW:=J hbw;have HBA:=J h1';have HBB:=J h2;clear hl1 hl2 hp1 hps hc1 hc2 hnc same hbw h1 h2 h1';go_enter Tryz.func10,Tryz.ntmps10
 go_upto_region 1 with fail
 obtain ⟨W,hW⟩:∃W,((w.alloc (.cells #[.string sel,.int .i64 xa,.int .i64 xt,.int .i64 xp,.slice A1 nl c1,.slice B1 nc d1] 32)).alloc (.cells #[.string sel,.int .i64 xa,.int .i64 xt,.int .i64 xp,.slice A2 nl c2,.slice B2 nc d2] 32))=W:=⟨_,rfl⟩;rw [hW] at HBW HBA HBB HL1 HL2 ⊢;have HCS:Hid (∀W',Below W.heap.size W W'→Calls Tryz.prog 21 #[.slice B1 nc d1,.slice B2 nc d2] W' fun e w'=>e= .returned (.bool true)∧Below W'.heap.size W' w'):=J (fun W' h=>HCS0.out W' (HBW.out.trans (h.mono HBW.out.size)));clear hW HCS0;obtain ⟨a0,a1,a2,a3,a4,a5⟩:=cc6 (HBA.out);obtain ⟨b0,b1,b2,b3,b4,b5⟩:=cc6 (HBB.out);go_wp2_with (first | (go_at_call 21;(with_reducible refine (HCS.out _ bel).mono ?_);rintro e w3 ⟨rfl,hb3⟩;have HB3:Hid (Below W.heap.size W w3):=J ((bz W).trans (hb3.mono (bz W).size));have ha9:=(HB3.out.block _ (aA HBA.out)).trans HBA.out;have hb9:=(HB3.out.block _ (aA HBB.out)).trans HBB.out;obtain ⟨x0,x1,x2,x3,x4,x5⟩:=cc6 (ha9);obtain ⟨y0,y1,y2,y3,y4,y5⟩:=cc6 (hb9);clear hb3 ha9 hb9 a0 a1 a2 a3 a4 a5 b0 b1 b2 b3 b4 b5))
 go_loopw [6] (fun i wr=>∃k:Nat,i= .int .i64 k∧k≤nl∧Below W.heap.size W wr) (fun i _=>nl-(intOf i).toNat)
 case atStart=>exact ⟨0,rfl,Nat.zero_le _,HB3.out⟩
 case round=>
  obtain ⟨k,rfl,hk,hbr⟩:=hrel;have HBR:=J hbr;have ha9:=(hbr.block _ (aA HBA.out)).trans HBA.out;have hb9:=(hbr.block _ (aA HBB.out)).trans HBB.out;clear x0 x1 x2 x3 x4 x5 y0 y1 y2 y3 y4 y5 hbr;obtain ⟨a0,a1,a2,a3,a4,a5⟩:=cc6 (ha9);obtain ⟨b0,b1,b2,b3,b4,b5⟩:=cc6 (hb9);clear ha9 hb9
  by_cases hlt:k<nl
  ·have d1:=aD hlt;have d2:=aT hlt;have hlp1:k<ps1.length:=by have:=HP1.out;omega
   have hlp2:k<ps2.length:=by have:=HP2.out;omega
   obtain ⟨lb1,lc1,cur1,hv1,_,hh1,hc1⟩:=HL1.out.at_ hlp1;have hc1':=hc1.same (HBR.out.block _ (aA hh1));obtain ⟨p1,hp1⟩:=aE (ps1[k]);rw [hp1] at hc1';obtain ⟨e10,e11,e12,e13⟩:=hc1';have hlb1:lb1<wr.heap.size:=aN (aA hh1) HBR.out.size;obtain ⟨lb2,lc2,cur2,hv2,_,hh2,hc2⟩:=HL2.out.at_ hlp2;have hc2':=hc2.same (HBR.out.block _ (aA hh2));obtain ⟨p2,hp2⟩:=aE (ps2[k]);rw [hp2] at hc2';obtain ⟨e20,e21,e22,e23⟩:=hc2';have hlb2:lb2<wr.heap.size:=aN (aA hh2) HBR.out.size;have hpe:=HPS.out k hlp1 hlp2;rw [hp1,hp2] at hpe;have hi1:IsLt W D1 p1.1 p1.2:=by rw [←hp1];exact HL1.out.lits _ (List.getElem_mem hlp1)
   have hi2:IsLt W D2 p2.1 p2.2:=by rw [←hp2];exact HL2.out.lits _ (List.getElem_mem hlp2)
   have hW:∀W',Below wr.heap.size wr W'→Calls Tryz.prog 22 #[ltV p1.1 p1.2,ltV p2.1 p2.2] W' fun e w'=>e= .returned (.bool true)∧Below W.heap.size W w':=fun W' hW=>by
    have hb:=HBR.out.trans (hW.mono HBR.out.size);refine (rF hi1 W' D2 p2.1 p2.2 hb (hi2.under hb)).mono (fun e w' ⟨he,hb2⟩=>⟨?_,hb.trans (hb2.mono hb.size)⟩);rw [he,←hpe,pZ]
   unfold ltV at hW;have HSM:=J hW;obtain ⟨q1,r1⟩:=p1;obtain ⟨q2,r2⟩:=p2;simp only [Value.slice.injEq] at hv1 hv2;obtain ⟨rfl,z1,z2⟩:=hv1;obtain ⟨rfl,z3,z4⟩:=hv2;clear z1 z2 z3 z4;have g0:(0:Int)≤(k:Int):=I;have g1:(k:Int)<(nl:Int):=I;clear hW hpe hi1 hi2 hp1 hp2 hh1 hh2 hc1 hc2 hlp1 hlp2
   go_upto_region 7 with fail
   go_region_law (first | (go_simp;go_at_call 22;(with_reducible refine (HSM.out _ bel).mono ?_);rintro e w5 ⟨rfl,HB5⟩;replace HB5:=J HB5))
   all_goals
    go_wp2_with fail;go_roundw
    case rel=>exact ⟨k+1,by go_num,hlt,HB5.out⟩
    case measure=>simp [intOf];omega
  ·have hkn:k=nl:=I;have d1:=aK hlt;have d2:=aF hlt;clear hlt;subst hkn;go_wp2_with fail;go_ret;exact ⟨rfl,HBW.out.trans (HBR.out.mono HBW.out.size)⟩
def fewV (x:NodT) (most:Nat):Int:=if x.size≤most then (x.size:Int) else -1
def nM (s:ByteArray):ByteArray:=if 30<s.size then s.extract 0 30 else s
theorem xE (s:ByteArray):(nM s).size≤30:=by
 unfold nM
 split
 ·simp;omega
 ·omega
def sB (l:List ByteArray):List ByteArray:=(l.take 12).map nM
theorem uE {l:List ByteArray} {k:Nat} (h:k<l.length) {s:ByteArray} (hs:l[k]=s):(l.take (k+1)).map nM=(l.take k).map nM++[nM s]:=by
 rw [List.take_succ_eq_append_getElem h,List.map_append,hs];rfl
theorem xF {l:List ByteArray} {k:Nat} (h:k=l.length∨k=12) (hk:k≤12):(l.take k).map nM=sB l:=by
 unfold sB
 rcases h with e | e
 ·rw [e,List.take_length,List.take_of_length_le I]
 ·rw [e]
theorem uF {w:World} {base n c:Nat} {A:Option Addr} {l:List ByteArray} (h:w.ownsRow base 9 1 (.slice A n c) n (l.map .string)) (hz:∀s,s∈l→s.size≤bL):Strs w (fun b=>base≤b) A l:=fun i hi=>by
 have hl:=h.1;rw [List.length_map] at hl
 rcases h.2 with ⟨_,h0⟩ | ⟨g,cap,cur,hv,hg,hh,h1,h2,_⟩
 ·omega
 ·cases hv
  refine ⟨g,0,rfl,aA hh,hg,?_,hz _ (List.getElem_mem hi)⟩;rw [Nat.zero_add,World.ownsRow.cellAt h i I];simp [hi]
theorem Z104 {P:Prop} (h:P:=by
 subst e9;clear h30 ht;go_wp2_with (first | (at_builtin;refine gP rfl _ _ rfl w.heap.size _ _ _ rfl (HO6.out) rfl (heap_alloc_new _ _) I (by have:=HB.out.size;rw [World.size_alloc];omega) ?_;intro v7 w7 hown ht7;have HO7:=J hown;have HT7:=J ht7;obtain ⟨A7,c7,hv7,_⟩:=aX hown;subst hv7;clear hown ht7));go_roundw
 case rel=>
  refine ⟨k+1,A7,c7,rfl,by go_num,hlt,by omega,?_,HB.out.trans ((ba |>.mono HB.out.size).trans (HT7.out.below (fun j hj=>(World.ownsRow.lt HO6.out j hj).1) (by have:=HB.out.size;rw [World.size_alloc];omega)))⟩;rw [uE HLN.out HLS.out,HCT.out];exact HO7.out
 case measure=>simp [intOf];omega):P:=h
theorem Z105 {P:Prop} (h:P:=by
 go_wp2_with fail;go_ret;have ho:=HO.out;have hc:=aX ho;obtain ⟨_,_,e,h1,h2⟩:=hc
 cases e
 rw [HF.out] at ho;exact ⟨_,_,_,rfl,by have:=ho.1;rw [List.length_map,Nat.mul_one] at this;exact this,h1,h2,uF ho (fun s hs=>by
  obtain ⟨y,_,rfl⟩:=List.mem_map.1 hs;have:=xE y
  show _≤9223372036854775807
  omega),HB.out⟩):P:=h
theorem few_any {w:World} {D:Nat→Prop} {p:Option Addr} {n c:Nat} {l:List ByteArray} (hs:Strs w D p l) (hl:l.length=n) (hn:n≤9223372036854775807):
  Calls Tryz.prog 7 #[.slice p n c] w fun e w'=>∃A m c',e= .returned (.slice A m c')∧(sB l).length=m∧m≤c'∧c'≤maxLen∧Strs w' (fun b=>w.heap.size≤b) A (sB l)∧Below w.heap.size w w':=by
 have HS:=J hs;have HL:=J hl;clear hs hl;go_enter Tryz.func7,Tryz.ntmps7;go_wp2_with fail
 go_loopw [3,4] (fun o i wr=>∃(k:Nat) (A:Option Addr) (c':Nat),o= .slice A k c'∧i= .int .i64 k∧k≤n∧k≤12∧wr.ownsRow w.heap.size 9 1 (.slice A k c') k (((l.take k).map nM).map .string)∧Below w.heap.size w wr) (fun _ i _=>12-(intOf i).toNat)
 case atStart=>exact ⟨0,none,0,rfl,rfl,Nat.zero_le _,Nat.zero_le _,World.ownsRow_nil _ _ _ _,Below.refl _ _⟩
 case round=>
  obtain ⟨k,A,c',rfl,rfl,hk,hk2,hown,hbr⟩:=hrel;have HO:=J hown;have HB:=J hbr
  by_cases hlt:k<n
  ·have d1:=aD hlt;have d2:=aT hlt
   by_cases h12:k<12
   ·have d3:=aD h12;have d4:decide ((k:Int)<12)=true:=aD I;have hln:k<l.length:=Y48;obtain ⟨b,off,rfl,hbl,_,hc,hsz⟩:=HS.out k hln;obtain ⟨s,hls⟩:=aE (l[k]);rw [hls] at hc hsz;have hcw:wr.cell? ⟨b,off+k,none⟩=some (.string s):=(World.cell?_of_block (hbr.block b hbl)).trans hc;have hbw:b<wr.heap.size:=aN hbl hbr.size;have HLN:=J hln;have HLS:=J hls;have g0:(0:Int)≤(k:Int):=I;have g1:(k:Int)<(n:Int):=I;obtain ⟨t,ht⟩:=aE (nM s);have HCT:=J ht;have HO6:Hid ((wr.alloc (.cells #[.string t] 9)).ownsRow w.heap.size 9 1 (.slice A k c') k (((l.take k).map nM).map .string)):=J (aJ hown Y80 (fun j hj=>(ba |>.block _ (World.ownsRow.lt hown j hj).2)));clear hown hbr hc hls
    by_cases h30:30<s.size
    ·have x1:=aD h30;have x2:decide ((30:Int)<(s.size:Int))=true:=aD I;have b1:(30:Int)≤(s.size:Int):=I;have b2:30≤s.size:=I;have e9:s.extract 0 30=t:=by rw [←ht];unfold nM;rw [if_pos h30]
     exact Z104
    ·have x1:=aK h30;have x2:decide ((30:Int)<(s.size:Int))=false:=aK I;have e9:s=t:=by rw [←ht];unfold nM;rw [if_neg h30]
     exact Z104
   ·have hk3:k=12:=I;have d3:=aK h12;have d4:decide ((k:Int)<12)=false:=aK I;have HF:Hid ((l.take k).map nM=sB l):=J (xF (.inr hk3) hk2);clear h12 hlt hk3 hown hbr;exact Z105
  ·have hkn:k=n:=I;have d1:=aK hlt;have d2:=aF hlt;have HF:Hid ((l.take k).map nM=sB l):=J (xF (.inl (by rw [HL.out];exact hkn)) hk2);clear hlt hkn hown hbr;exact Z105
end Go.Proofs.YtnojndgmgkgnpaaGreat
namespace Go.Proofs.YtnojndgmgkgnpaaGreat
open Go.ChangeShapes Go.WideShapes Go.ChangeAt Go.RowKit Go.Deep Go.Joins
section
variable {H:Type} {enc:TypeId×Value→H} {P:Program} {w:World} {base b0:Nat} {spare:Nat→Bool} {held:Bool} {r:Go.Reach}
theorem vV {fuel:Nat} {cs:List Value} {x:DataW H×List MemPlace} (h:DataW.trod enc Tryz.prog w base spare held fuel 22 cs=some x):
  ∃A c,∃l:List ByteArray,cs=[.slice A l.length c]∧l.length≤c∧c≤maxLen∧Strs w (fun _=>True) A l:=by
 rcases Go.Deep.open_strs Tryz.underlying22 Tryz.underlying9 Y40 h with ⟨rfl,_⟩ | ⟨a,len,cap,m,Sx,rfl,hb,hl,hm,hmm,rfl,hx⟩
 ·exact ⟨none,0,[],rfl,Nat.le_refl _,Nat.zero_le _,fun i hi=>absurd hi Y12⟩
 ·have hlm:len≤m:=by rw [hmm];split <;> omega
  have hlen:((List.range len).map Sx).length=len:=Y12;refine ⟨some a,cap,(List.range len).map Sx,by rw [hlen],by rw [hlen];exact hl,hm,fun i hi=>?_⟩;rw [hlen] at hi;obtain ⟨hc,hz⟩:=hx i I;obtain ⟨hc0,_⟩:=hx 0 I;have hspot:a.spot=none:=by
   have:=World.cell?_spot hc0;simpa [Addr.add] using this
  have hblk:=jZ hc0;obtain ⟨b,off,spot⟩:=a;subst hspot;rw [hH] at hc;have e:((List.range len).map Sx)[i]'(by rw [hlen];exact hi)=Sx i:=Y12;refine ⟨b,off,rfl,by simpa [Addr.add] using hblk,trivial,by rw [e];exact hc,?_⟩;rw [e];unfold maxLen at hz
  show _≤9223372036854775807
  omega
theorem uG {v:Value} {d:DataW H} {p:List MemPlace} (hv:Value.okWide Tryz.prog w r b0 22 v) (h:DataW.Trod enc Tryz.prog w base spare held 22 v d p):∃A c,∃l:List ByteArray,v= .slice A l.length c∧l.length≤c∧c≤maxLen∧Strs w (fun _=>True) A l:=by
 obtain ⟨a,n,c,rfl⟩:=okWide_slice Tryz.underlying22 hv;obtain ⟨fuel,hf⟩:=h;obtain ⟨A,c',l,e,h1,h2,h3⟩:=vV hf;simp [Value.cells] at e;obtain ⟨rfl,rfl,rfl⟩:=e;exact ⟨_,_,l,rfl,h1,h2,h3⟩
end
end Go.Proofs.YtnojndgmgkgnpaaGreat
namespace Go.Proofs.YtnojndgmgkgnpaaGreat
open Go.ChangeShapes Go.WideShapes Go.ChangeAt Go.RowKit Go.Deep Go.Joins Go.Maps
theorem nN {w w':World} {D:Nat→Prop} {v:Value} {ps:List LP} (h:LitRow w D v ps) (hb:Below w.heap.size w w'):LitRow w' D v ps:=
 h.same hb.size (fun k hk=>hb.block k (World.ownsRow.lt h.own k hk).2) (fun b _ hl=>hb.block b hl) (fun _ z=>z)
theorem mQ {w w':World} {D:Nat→Prop} {p:Option Addr} {l:List ByteArray} (h:Strs w D p l) (hb:Below w.heap.size w w'):Strs w' D p l:=h.same hb.size (fun b _ hl=>hb.block b hl) (fun _ z=>z)
theorem yX {f:Nat} {x:NodT} {fields:List ByteArray} {value:Bool} {m:MetT} {nm:ByteArray} {fe:Int} (h:eW f x fields value=(m,nm,fe)):m.code.length≤400∧m.lits.length≤60:=by
 have h0:noMet.code.length≤400∧noMet.lits.length≤60:=Y3;unfold eW at h;dsimp only at h
 split at h
 ·cases h;exact h0
 split at h
 ·cases h;exact h0
 split at h
 ·cases h;exact h0
 split at h
 ·cases h;exact h0
 split at h
 ·cases h;exact ⟨by show (fP (aL f) x value (eU fields)).code.length≤400;omega,by show (fP (aL f) x value (eU fields)).lits.length≤60;omega⟩
 ·cases h;exact h0
def RetP (m:MetT) (nl nc:Nat) (nm:ByteArray) (er:Int) (w:World) (e:Ending) (w':World):Prop:=∃Bl dl Bc dc D ps,e= .returned (.tuple #[.agg #[.string m.sel,.int .i64 (m.args:Int),.int .i64 (m.temps:Int),.int .i64 m.prim,.slice Bl nl dl,.slice Bc nc dc],.string nm,.int .i64 er])∧
 LitRow w' D (.slice Bl nl dl) ps∧ps.map Prod.fst=m.lits∧IsCode w' Bc nc (jK m.code)∧Below w.heap.size w w'
theorem retP {m:MetT} {nl nc:Nat} (hl:m.lits.length=nl) (hc:m.code.length=nc) {nm:ByteArray} {er:Int} {w w':World} {e:Ending} (h:Rf.ReadP (m,nm,er) w e w'):RetP m nl nc nm er w e w':=by
 obtain ⟨lv,cv,D,ps,he,h1,h2,h3,h4,_⟩:=h;obtain ⟨Al,cl,hlv,_⟩:=aX h1.own;obtain ⟨Ac,cc,hcv,_⟩:=aX h3;have hn:ps.length=nl:=by
  have:=congrArg List.length h2;rw [List.length_map] at this;exact this.trans hl
 subst hlv;subst hcv;dsimp only at h2 h3 he;rw [hn] at he h1;rw [hc] at he h3;exact ⟨Al,cl,Ac,cc,D,ps,he,h1,h2,tR h3 hc,h4⟩
end Go.Proofs.YtnojndgmgkgnpaaGreat
