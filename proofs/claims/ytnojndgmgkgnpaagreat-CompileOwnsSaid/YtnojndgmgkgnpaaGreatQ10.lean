/- Chapter 10: words and contracts for the law. -/
import Derived.Test.YtnojndgmgkgnpaaGreatQ09
import Derived.Test.YtnojndgmgkgnpaaGreatQ00
import Derived.LoopN
set_option maxRecDepth 100000
set_option maxHeartbeats 40000000
set_option linter.unusedVariables false
set_option linter.unusedSimpArgs false
namespace Go.Proofs.YtnojndgmgkgnpaaGreat
open Go.ChangeShapes Go.WideShapes Go.ChangeAt Go.RowKit Go.Deep Go.Joins Go.Maps
theorem aU {T:Nat→Prop} {w w':World} (h:Turns T w w') (b:Nat) (hb:T b) {x0 x1 x2 x3 x4 x5:Value}:Turns T w ((((((w'.setCell ⟨b,0,none⟩ x0).setCell ⟨b,1,none⟩ x1).setCell ⟨b,2,none⟩ x2).setCell ⟨b,3,none⟩ x3).setCell ⟨b,4,none⟩ x4).setCell ⟨b,5,none⟩ x5):=
 (((((h.setCell ⟨b,0,none⟩ x0 (.inl hb)).setCell ⟨b,1,none⟩ x1 (.inl hb)).setCell ⟨b,2,none⟩ x2 (.inl hb)).setCell ⟨b,3,none⟩ x3 (.inl hb)).setCell ⟨b,4,none⟩ x4 (.inl hb)).setCell ⟨b,5,none⟩ x5 (.inl hb)
def ReadP (r:MetT×ByteArray×Int) (w:World) (e:Ending) (w':World):Prop:=∃lv cv D ps,e= .returned (.tuple #[.agg #[.string r.1.sel,.int .i64 (r.1.args:Int),.int .i64 (r.1.temps:Int),.int .i64 r.1.prim,lv,cv],.string r.2.1,.int .i64 r.2.2])∧
 LitRow w' D lv ps∧ps.map Prod.fst=r.1.lits∧w'.ownsRow 0 42 3 cv r.1.code.length (r.1.code.flatMap gF)∧Below w.heap.size w w'∧(∀k,lv.ownBlock=some k→w.heap.size≤k∧¬D k)∧(∀k,cv.ownBlock=some k→w.heap.size≤k)∧(∀k,D k→∃cur,w'.heap[k]? =some (.cells cur 44 (0,0)))∧r.2.1.size≤bL∧∀k,D k→w.heap.size≤k
theorem ReadP.no {w w':World} {e:Ending} {nm:ByteArray} {er:Int} (he:e= .returned (.tuple #[.agg #[.string eB,.int .i64 0,.int .i64 0,.int .i64 0,.slice none 0 0,.slice none 0 0],.string nm,.int .i64 er])) (hb:Below w.heap.size w w') (hn:nm.size≤bL):ReadP (noMet,nm,er) w e w':=
 ⟨.slice none 0 0,.slice none 0 0,fun _=>False,[],he,LitRow.nil _ _,rfl,World.ownsRow_nil _ _ _ _,hb,fun k hk=>Y128,fun k hk=>Y128,fun k hk=>hk.elim,hn,fun k hk=>hk.elim⟩
def stK (fields:List ByteArray) (k:Nat):CSt:=⟨kA (fields.take k),0,[],[],eB,0⟩
def lY (fields:List ByteArray) (value:Bool) (x:NodT):MetT×ByteArray×Int:=
 let s:=fP (aL x.size) x value (eU fields)
 if s.err≠0 then (noMet,s.ename,s.err)
 else if 60<s.lits.length then (noMet,eB,18)
 else if 400<s.code.length then (noMet,eB,12)
 else if s.code.all fD then (⟨x.text,x.names.length,s.temps,x.num,s.lits,s.code⟩,eB,0)
 else (noMet,eB,12)
theorem start_cy (w:World) (x:NodT) (q:NS) (fields:List ByteArray):CY w (fun k=>k<w.heap.size+2) (((w.alloc (.cells #[.int .i64 x.kind,.string x.text,.int .i64 x.num,.slice q.pn x.names.length q.cn,.slice q.pt x.temps.length q.ct,.slice q.pk x.kids.length q.ck] 25)).alloc (.cells #[.string eB,.int .i64 0,.int .i64 0,.int .i64 0,.slice none 0 0,.slice none 0 0] 32)).alloc (.cells #[.string x.text,.int .i64 (x.names.length:Int),.int .i64 0,.int .i64 x.num,.slice none 0 0,.slice none 0 0,.slice none 0 0,.string eB,.int .i64 0] 80)) (w.heap.size+2) (⟨x.text,x.names.length,x.num⟩) (stK fields 0) (.slice none 0 0) (.slice none 0 0) (.slice none 0 0) (fun _=>False) []:=by
 have hb:=heap_alloc_new ((w.alloc (.cells #[.int .i64 x.kind,.string x.text,.int .i64 x.num,.slice q.pn x.names.length q.cn,.slice q.pt x.temps.length q.ct,.slice q.pk x.kids.length q.ck] 25)).alloc (.cells #[.string eB,.int .i64 0,.int .i64 0,.int .i64 0,.slice none 0 0,.slice none 0 0] 32)) (.cells #[.string x.text,.int .i64 (x.names.length:Int),.int .i64 0,.int .i64 x.num,.slice none 0 0,.slice none 0 0,.slice none 0 0,.string eB,.int .i64 0] 80);simp only [World.size_alloc] at hb;refine ⟨hb,LitRow.nil _ _,rfl,World.ownsRow_nil _ _ _ _,.inl ⟨World.ownsRow_nil _ _ _ _,fun k hk=>Y128⟩,fun k hk=>(by simp [stK,kA] at hk),fun z=>I,fun k hk=>Y128,fun k hk=>Y128,fun k hk=>hk.elim,fun k hk=>hk.elim,?_,fun k hk=>aN hk (Nat.le_add_right _ _),fun k hk=>?_,by show eB.size≤bL;decide,fun k hk=>hk.elim⟩
 ·(repeat' first | (with_reducible first | exact bl0 _ _ | assumption | apply bl1 | apply bl2 | apply bl3 | apply bl4) | go_size)
 ·simp only [World.size_alloc];omega
theorem oO (fields:List ByteArray) (k:Nat) (h:k≤fields.length):(stK fields k).names.length=k:=by
 show (kA (fields.take k)).length=k
 unfold kA;rw [List.length_mapIdx,List.length_take];omega
theorem sX (fields:List ByteArray) (k:Nat) (h:k<fields.length) {nm:ByteArray} (hn:fields[k]=nm):{stK fields k with names:=(stK fields k).names++[⟨nm,1,(k:Int)⟩]}=stK fields (k+1):=by
 unfold stK kA;simp only;rw [List.take_succ_eq_append_getElem h,List.mapIdx_append,hn];simp;omega
theorem xR {f:Nat} (hv:VSpec f) {w0 w:World} {P:Nat→Prop} {cb:Nat} {m:MK} {s:CSt} (h:CX w0 P w cb m s) {x:NodT} {q:NS} (hn:IsNd w0 (fun _=>True) x q) (hx:x.size≤f+1) (hf:s.code.length+8*x.size≤1000000) (hl:s.lits.length+x.size≤100000) (value:Bool):
  Calls Tryz.prog 31 #[.pointer (some ⟨cb,0,none⟩),ndV x q,.bool value] w fun e w'=>e= .returned (.tuple #[])∧CT w0 P w w' cb m (fP (aL f) x value s):=by
 cases value
 ·exact sV hv h hn hx hf hl
 ·exact uR hv h hn hx hf hl
theorem Z42 {P:Prop} (h:P:=by
 go_enter Tryz.func16,Tryz.ntmps16;go_wp2_with fail;refine bodyPost_ret (v:=.tuple #[.agg #[.string eB,.int .i64 0,.int .i64 0,.int .i64 0,.slice none 0 0,.slice none 0 0],.string eB,.int .i64 1]) (by simp [results,Tryz.results16,go_sem]) rfl ?_;exact ReadP.no rfl bel Y3):P:=h
theorem sY {w:World} {x:NodT} {q:NS} (hn:IsNd w (fun _=>True) x q) {D:Nat→Prop} {p:Option Addr} {n c:Nat} {fields:List ByteArray} (hs:Strs w D p fields) (hl:fields.length=n) (hle:n≤9223372036854775807) (hx:x.size≤100000) (value:Bool):
  Calls Tryz.prog 16 #[ndV x q,.slice p n c,.bool value] w (ReadP (eW x.size x fields value) w):=by
 have HN:=J hn;have HS:=J hs;have HL:=J hl;have HSZ:=J hx;unfold ndV;clear hn hs hl hx
 by_cases hk:x.kind=11
 ·have q1:(x.kind==11)=true:=Y149;have q2:(x.kind != 11)=false:=by simp [hk]
  by_cases h8:8<n
  ·have d1:decide ((8:Int)<(n:Int))=true:=aD I;have d2:=aD h8;have HRD:Hid (eW x.size x fields value=(noMet,eB,1)):=J (by unfold eW;rw [if_pos (.inr (by rw [HL.out];exact h8))]);rw [HRD.out];clear hk h8;exact Z42
  ·have hm:Hid (eW x.size x fields value=lY fields value x):=J (by
    unfold eW lY;rw [if_neg (fun z=>z.elim (fun e=>e hk) (fun e=>by rw [HL.out] at e;exact h8 e))])
   rw [hm.out];have d1:decide ((8:Int)<(n:Int))=false:=aK I;have d2:=aK h8;have HN8:Hid (n≤8):=J I;have HSC:=J (start_cy w x q fields);have HCB:Hid (∃cb,cb=w.heap.size+2):=J ⟨_,rfl⟩;clear hk h8 hm;go_enter Tryz.func16,Tryz.ntmps16;go_wp2_with fail;obtain ⟨w3,hw3⟩:∃w3,(((w.alloc (.cells #[.int .i64 x.kind,.string x.text,.int .i64 x.num,.slice q.pn x.names.length q.cn,.slice q.pt x.temps.length q.ct,.slice q.pk x.kids.length q.ck] 25)).alloc (.cells #[.string eB,.int .i64 0,.int .i64 0,.int .i64 0,.slice none 0 0,.slice none 0 0] 32)).alloc (.cells #[.string x.text,.int .i64 (x.names.length:Int),.int .i64 0,.int .i64 x.num,.slice none 0 0,.slice none 0 0,.slice none 0 0,.string eB,.int .i64 0] 80))=w3:=⟨_,rfl⟩;obtain ⟨cb,hcb⟩:=aE (w.heap.size+1+1);have hsc:=HSC.out;rw [show w.heap.size+2=cb from hcb] at hsc;rw [hw3] at hsc ⊢;rw [hcb];have HSC3:=J hsc;have HB3:Hid (Below w.heap.size w w3):=J Y44;have HXB:Hid (w3.heap[w.heap.size]? =some (.cells #[.int .i64 x.kind,.string x.text,.int .i64 x.num,.slice q.pn x.names.length q.cn,.slice q.pt x.temps.length q.ct,.slice q.pk x.kids.length q.ck] 25 (0,0))∧w3.heap[w.heap.size+1]? =some (.cells #[.string eB,.int .i64 0,.int .i64 0,.int .i64 0,.slice none 0 0,.slice none 0 0] 32 (0,0))∧w.heap.size+1<cb):=J (by
    rw [←hw3];have h1:=heap_alloc_new w (.cells #[.int .i64 x.kind,.string x.text,.int .i64 x.num,.slice q.pn x.names.length q.cn,.slice q.pt x.temps.length q.ct,.slice q.pk x.kids.length q.ck] 25);have h2:=heap_alloc_new (w.alloc (.cells #[.int .i64 x.kind,.string x.text,.int .i64 x.num,.slice q.pn x.names.length q.cn,.slice q.pt x.temps.length q.ct,.slice q.pk x.kids.length q.ck] 25)) (.cells #[.string eB,.int .i64 0,.int .i64 0,.int .i64 0,.slice none 0 0,.slice none 0 0] 32);rw [World.size_alloc] at h2;have al:∀(W:World) (o:Obj) (k:Nat) (v:Obj),W.heap[k]? =some v→(W.alloc o).heap[k]? =some v:=fun W o k v h=>(ba |>.block _ (aA h)).trans h
    exact ⟨al _ _ _ _ (al _ _ _ _ h1),al _ _ _ _ h2,by omega⟩)
   clear hsc hw3 HSC hcb
   go_loopw [35] (fun i wr=>∃(k:Nat) (lv cv nv:Value) (D:Nat→Prop) (ps:List LP),i= .int .i64 k∧k≤n∧CY w (fun k=>k<cb) wr cb (⟨x.text,x.names.length,x.num⟩) (stK fields k) lv cv nv D ps∧(wr.ownsRow 0 82 4 nv k ((stK fields k).names.flatMap nmC)∧∀j,nv.ownBlock=some j→¬(fun k=>k<cb) j∧j≠cb)∧Turns (cP (fun k=>k<cb)) w3 wr) (fun i _=>n-(intOf i).toNat)
   case atStart=>exact ⟨0,_,_,_,_,_,rfl,Nat.zero_le _,HSC3.out,⟨World.ownsRow_nil _ _ _ _,fun j hj=>(by cases hj)⟩,Turns.refl _ _⟩
   case round=>
    obtain ⟨k,lv,cv,nv,D,ps,rfl,hk,hy,⟨hown,hat⟩,hts⟩:=hrel;have HTS:=J hts
    by_cases hlt:k<n
    ·have d1:=aD hlt;have d3:=aT hlt;obtain ⟨b,off,rfl,hbl,_,hc,hsz⟩:=HS.out k Y48;obtain ⟨nm,hnm⟩:∃nm,fields[k]'Y48=nm:=⟨_,rfl⟩;rw [hnm] at hc hsz;have hcw:wr.cell? ⟨b,off+k,none⟩=some (.string nm):=(World.cell?_of_block (hy.stat.block b hbl)).trans hc;have hbw:b<wr.heap.size:=aN hbl hy.stat.size;have HST:Hid ({stK fields k with names:=(stK fields k).names++[⟨nm,1,(k:Int)⟩]}=stK fields (k+1)):=J (sX fields k Y48 hnm);have HSZ9:=J hsz;have HLT:=J hlt;have g0:(0:Int)≤(k:Int):=I;have g1:(k:Int)<(n:Int):=I;obtain ⟨A,c9,hnv,hcl,hcm⟩:=aX hown;subst hnv;have k6:wr.cell? ⟨cb,6,none⟩=some (.slice A k c9):=Y15;have hHAT:Hid (∀j,(Value.slice A k c9).ownBlock=some j→(Value.slice A k c9).ownBlock=some j∧¬(fun k=>k<cb) j∧j≠cb):=J (fun j hj=>⟨hj,hat j hj⟩);have HYA:Hid (CY w (fun k=>k<cb) (wr.alloc (.cells #[.string nm,.bool true,.bool false,.int .i64 (k:Int)] 82)) cb (⟨x.text,x.names.length,x.num⟩) (stK fields k) lv cv (.slice A k c9) D ps):=J (hy.under (ba));have HGK:Hid ((wr.alloc (.cells #[.string nm,.bool true,.bool false,.int .i64 (k:Int)] 82)).heap[wr.heap.size]? =some (.cells #[.string nm,.bool true,.bool false,.int .i64 (k:Int)] 82 (0,0))):=J (heap_alloc_new wr _);have HOK:Hid ((wr.alloc (.cells #[.string nm,.bool true,.bool false,.int .i64 (k:Int)] 82)).ownsRow 0 82 4 (.slice A k c9) k ((stK fields k).names.flatMap nmC)):=J (aJ hown Y80 (fun j hj=>(ba |>.block _ (World.ownsRow.lt hown j hj).2)));have HLN:Hid ((stK fields k).names.length=k):=J (oO fields k (by rw [HL.out];omega));obtain ⟨i0,hi,hz0,hz1,hz2⟩:=cQ sI;clear hy hown hat hts hc hsz hnm hlt;go_wp2_with (first | (at_builtin;refine wpList_append_own_at _ rfl _ _ 78 rfl 0 82 i0 (.agg #[.string eB,.bool false,.bool false,.int .i64 0]) 4 32 Tryz.underlying78 hi hz0 hz1 hz2 rfl Y3 _ _ _ rfl HOK.out ⟨wr.heap.size,0,none⟩ 1 1 [.string nm,.bool true,.bool false,.int .i64 (k:Int)] rfl rfl (cY HGK.out) Y89 (by unfold maxLen;have:=HN8.out;omega) (by have:=HN8.out;omega) (Nat.zero_le _) ?_;intro v5 w5 hown hg _ hat4;have hat5:v5.ownBlock=(Value.slice A k c9).ownBlock∨v5.ownBlock=some (wr.alloc (.cells #[.string nm,.bool true,.bool false,.int .i64 (k:Int)] 82)).heap.size:=hat4;clear hat4;have hg6:(wr.alloc (.cells #[.string nm,.bool true,.bool false,.int .i64 (k:Int)] 82)).grownBy w5 (Value.slice A k c9).ownBlock:=hg;have hna:=HYA.out.named (w':=w5) (nv':=v5) ⟨nm,1,(k:Int)⟩ ⟨HSZ9.out,(by show (0:Int)≤(k:Int);omega),(by show (k:Int)≤1000;have:=HN8.out;have:=HLT.out;omega)⟩ (by rw [HLN.out];exact hown) hg6 hHAT.out (fun j hj=>by rcases hat5 with e | e;exact .inl (by rw [←e];exact hj);rw [e] at hj;cases hj;exact .inr aR);have HOW:Hid (w5.ownsRow 0 82 4 v5 (k+1) ((stK fields k).names.flatMap nmC++nmC ⟨nm,1,(k:Int)⟩)∧∀j,v5.ownBlock=some j→¬(fun k=>k<cb) j∧j≠cb):=J ⟨hown,fun j hj=>(by rcases hat5 with e | e;exact (hHAT.out j (by rw [←e];exact hj)).2;rw [e] at hj;cases hj;have h9:=aA HYA.out.box;exact ⟨fun z=>(by have z':wr.heap.size+1<cb:=(by simpa using z);rw [World.size_alloc] at h9;omega),fun z=>(by rw [World.size_alloc] at z h9;omega)⟩)⟩;obtain ⟨A5,n5,c5,hnv5⟩:=hna.sl;subst hnv5;have HNA:=J hna;have s5:w5.cell? ⟨cb,6,none⟩=some (.slice A k c9):=Y98;have sf5:w5.frozen? ⟨cb,6,none⟩=false:=Y101;clear hna hown hg hg6 hat5));go_roundw
     case rel=>
      have hcy:=HNA.out.cy;rw [HST.out] at hcy;refine ⟨k+1,_,_,_,_,_,by go_num,HLT.out,hcy,⟨?_,HOW.out.2⟩,(HTS.out.trans (Turns.of_below (ba))).trans HNA.out.ts⟩;rw [←HST.out]
      show World.ownsRow _ 0 82 4 _ (k+1) (((stK fields k).names++[_]).flatMap nmC)
      rw [List.flatMap_append];refine aJ HOW.out.1 Y12 (fun j hj=>Below.heap_setCell _ _ _ _ (fun e=>(HOW.out.2 j hj).2 e))
     case measure=>simp [intOf];have:=HLT.out;omega
    ·have hkn:k=n:=I;have d1:=aK hlt;have d3:=aF hlt;have hst:stK fields k=eU fields:=by unfold stK eU;rw [hkn,←HL.out,List.take_length]
     clear hlt;subst hkn;rw [hst] at hy;have hfl:(eU fields).names.length=k:=by rw [←hst];exact oO fields k (by rw [HL.out];exact Nat.le_refl _)
     have HX:Hid (CX w (fun k=>k<cb) wr cb (⟨x.text,x.names.length,x.num⟩) (eU fields)):=J ⟨_,_,_,_,_,hy,Nat.zero_le _,by rw [hfl];have:=HN8.out;show k≤8+0;omega⟩;clear hy hown hat hts hst hfl;have hxb:=(HTS.out.block w.heap.size (aA HXB.out.1) (fun z=>z (by have h9:=HXB.out.2.2;show w.heap.size<cb;omega))).trans HXB.out.1;obtain ⟨e0,e1,e2,e3,e4,e5⟩:=cc6 hxb;obtain ⟨S,hS⟩:=aE (fP (aL x.size) x value (eU fields));have hwc:∀W,Below wr.heap.size wr W→Calls Tryz.prog 31 #[.pointer (some ⟨cb,0,none⟩),ndV x q,.bool value] W fun e w'=>e= .returned (.tuple #[])∧CT w (fun k=>k<cb) wr w' cb (⟨x.text,x.names.length,x.num⟩) S:=fun W hb=>by
      have h2:=HX.out.ct.below hb;refine (xR (vspec x.size) h2.1 HN.out (Nat.le_succ _) (by have h9:=HSZ.out;show 0+8*x.size≤1000000;omega) (by have h9:=HSZ.out;show 0+x.size≤100000;omega) value).mono ?_;rw [hS];rintro e w' ⟨he,hc⟩;exact ⟨he,h2.go hc⟩
     unfold ndV at hwc;have HWC:=J hwc;have HRT:Hid (lY fields value x=if S.err≠0 then (noMet,S.ename,S.err)
 else if 60<S.lits.length then (noMet,eB,18)
 else if 400<S.code.length then (noMet,eB,12)
 else if S.code.all fD then (⟨x.text,x.names.length,S.temps,x.num,S.lits,S.code⟩,eB,0)
 else (noMet,eB,12)):=J (by unfold lY;rw [hS])
     clear hwc hS hxb
     go_upto_block 2 with (first | (go_at_call 31;(with_reducible refine (HWC.out _ bel).mono ?_);rintro e w9 ⟨rfl,HX9⟩;replace HX9:=J HX9))
     have HTS9:Hid (Turns (cP (fun k=>k<cb)) w3 w9):=J (HTS.out.trans HX9.out.2);have HTB:Hid (w9.heap[w.heap.size+1]? =some (.cells #[.string eB,.int .i64 0,.int .i64 0,.int .i64 0,.slice none 0 0,.slice none 0 0] 32 (0,0))):=J ((HTS9.out.block (w.heap.size+1) (aA HXB.out.2.1) (fun z=>z HXB.out.2.2)).trans HXB.out.2.1);have HBW:Hid (Below w.heap.size w w9):=J HX9.out.1.stat;obtain ⟨lv,cv,nv,D,ps,hy,hfw⟩:=HX9.out.1;obtain ⟨Al,cl,hlv,hll,_⟩:=aX hy.lits.own;obtain ⟨Ac,cc,hcv,hcl,_⟩:=aX hy.code;subst hlv;subst hcv;obtain ⟨nl,hnl⟩:=aE S.lits.length;obtain ⟨nc,hnc⟩:=aE S.code.length;have hpl:ps.length=nl:=by rw [←hnl,←hy.lps,List.length_map]
     rw [hpl] at hy;rw [hnc] at hy;have k0:w9.cell? ⟨cb,0,none⟩=some (.string x.text):=Y15;have k1:w9.cell? ⟨cb,1,none⟩=some (.int .i64 (x.names.length:Int)):=Y15;have k2:w9.cell? ⟨cb,2,none⟩=some (.int .i64 (S.temps:Int)):=Y15;have k3:w9.cell? ⟨cb,3,none⟩=some (.int .i64 x.num):=Y15;have k4:w9.cell? ⟨cb,4,none⟩=some (.slice Al nl cl):=Y15;have k5:w9.cell? ⟨cb,5,none⟩=some (.slice Ac nc cc):=Y15;have k7:w9.cell? ⟨cb,7,none⟩=some (.string S.ename):=Y15;have k8:w9.cell? ⟨cb,8,none⟩=some (.int .i64 S.err):=Y15;have t0:w9.cell? ⟨w.heap.size+1,0,none⟩=some (.string eB):=aC HTB.out rfl;have f0:w9.frozen? ⟨w.heap.size+1,0,none⟩=false:=Y25;have t1:w9.cell? ⟨w.heap.size+1,1,none⟩=some (.int .i64 0):=aC HTB.out rfl;have f1:w9.frozen? ⟨w.heap.size+1,1,none⟩=false:=Y25;have t2:w9.cell? ⟨w.heap.size+1,2,none⟩=some (.int .i64 0):=aC HTB.out rfl;have f2:w9.frozen? ⟨w.heap.size+1,2,none⟩=false:=Y25;have t3:w9.cell? ⟨w.heap.size+1,3,none⟩=some (.int .i64 0):=aC HTB.out rfl;have f3:w9.frozen? ⟨w.heap.size+1,3,none⟩=false:=Y25;have t4:w9.cell? ⟨w.heap.size+1,4,none⟩=some (.slice none 0 0):=aC HTB.out rfl;have f4:w9.frozen? ⟨w.heap.size+1,4,none⟩=false:=Y25;have t5:w9.cell? ⟨w.heap.size+1,5,none⟩=some (.slice none 0 0):=aC HTB.out rfl;have f5:w9.frozen? ⟨w.heap.size+1,5,none⟩=false:=Y25;have HY:=J hy;have HNL:=J hnl;have HNC:=J hnc;have HPL:=J hpl;clear e0 e1 e2 e3 e4 e5 hy hfw hll hcl hnl hnc hpl
     by_cases he:S.err=0
     ·rw [he] at k8;have HE:=J he;clear he;have y1:(0:Int)=0:=rfl
      by_cases h60:60<nl
      ·have v1:decide ((60:Int)<(nl:Int))=true:=aD I;have HR2:Hid (lY fields value x=(noMet,eB,18)):=J Y107;rw [HR2.out];clear h60;go_wp2_with fail;obtain ⟨W9,hW9⟩:∃W9,W9=((((((w9.setCell ⟨w.heap.size+1,0,none⟩ (.string eB)).setCell ⟨w.heap.size+1,1,none⟩ (.int .i64 0)).setCell ⟨w.heap.size+1,2,none⟩ (.int .i64 0)).setCell ⟨w.heap.size+1,3,none⟩ (.int .i64 0)).setCell ⟨w.heap.size+1,4,none⟩ (.slice none 0 0)).setCell ⟨w.heap.size+1,5,none⟩ (.slice none 0 0)):=⟨_,rfl⟩;have h9:W9.heap[w.heap.size+1]? =some (.cells #[.string eB,.int .i64 0,.int .i64 0,.int .i64 0,.slice none 0 0,.slice none 0 0] 32 (0,0)):=Y90;obtain ⟨z0,z1,z2,z3,z4,z5⟩:=cc6 h9;have HW9:Hid (Below w.heap.size w9 W9):=J Y14;rw [←hW9];clear hW9 h9;refine bodyPost_ret (v:=.tuple #[.agg #[.string eB,.int .i64 0,.int .i64 0,.int .i64 0,.slice none 0 0,.slice none 0 0],.string eB,.int .i64 18]) Y41 rfl ?_;exact ReadP.no rfl (HBW.out.trans HW9.out) Y3
      ·have v1:decide ((60:Int)<(nl:Int))=false:=aK I
       by_cases h400:400<nc
       ·have v2:decide ((400:Int)<(nc:Int))=true:=aD I;have HR2:Hid (lY fields value x=(noMet,eB,12)):=J Y57;rw [HR2.out];clear h60 h400;go_wp2_with fail;obtain ⟨W9,hW9⟩:∃W9,W9=((((((w9.setCell ⟨w.heap.size+1,0,none⟩ (.string eB)).setCell ⟨w.heap.size+1,1,none⟩ (.int .i64 0)).setCell ⟨w.heap.size+1,2,none⟩ (.int .i64 0)).setCell ⟨w.heap.size+1,3,none⟩ (.int .i64 0)).setCell ⟨w.heap.size+1,4,none⟩ (.slice none 0 0)).setCell ⟨w.heap.size+1,5,none⟩ (.slice none 0 0)):=⟨_,rfl⟩;have h9:W9.heap[w.heap.size+1]? =some (.cells #[.string eB,.int .i64 0,.int .i64 0,.int .i64 0,.slice none 0 0,.slice none 0 0] 32 (0,0)):=Y90;obtain ⟨z0,z1,z2,z3,z4,z5⟩:=cc6 h9;have HW9:Hid (Below w.heap.size w9 W9):=J Y14;rw [←hW9];clear hW9 h9;refine bodyPost_ret (v:=.tuple #[.agg #[.string eB,.int .i64 0,.int .i64 0,.int .i64 0,.slice none 0 0,.slice none 0 0],.string eB,.int .i64 12]) Y41 rfl ?_;exact ReadP.no rfl (HBW.out.trans HW9.out) Y3
       ·have v2:decide ((400:Int)<(nc:Int))=false:=aK I;have HRT2:Hid (lY fields value x=if S.code.all fD then (⟨x.text,x.names.length,S.temps,x.num,S.lits,S.code⟩,eB,0) else (noMet,eB,12)):=J Y58;have hnc4:nc≤400:=I;clear h60 h400;obtain ⟨curc,hcurc⟩:∃cur,∀kk,(Value.slice Ac nc cc).ownBlock=some kk→w9.heap[kk]? =some (.cells cur 42 (0,0)):=by
         rcases hA:(Value.slice Ac nc cc).ownBlock with _ | kk
         ·exact ⟨#[],fun kk e=>(by cases e)⟩
         ·obtain ⟨cur,hc⟩:=bN HY.out.code hA;exact ⟨cur,fun kk' e=>(by cases e;exact hc)⟩
        clear hcurc curc;go_wp2_with fail
        go_loopw [96] (fun i wr=>∃(k:Nat),i= .int .i64 k∧k≤nc∧(S.code.take k).all fD=true∧Below w9.heap.size w9 wr) (fun i _=>nc-(intOf i).toNat)
        case atStart=>exact ⟨0,rfl,Nat.zero_le _,rfl,Below.refl _ _⟩
        case round=>
         obtain ⟨j,rfl,hj,hall,hbr⟩:=hrel;have HBR:=J hbr;have HALL:=J hall;have hsz9:=hbr.size;clear t0 t1 t2 t3 t4 t5 f0 f1 f2 f3 f4 f5 k0 k1 k2 k3 k4 k5 k7 k8
         by_cases hlt:j<nc
         ·have d1:=aD hlt;have d2:=aT hlt;have hjl:j<S.code.length:=by rw [HNC.out];exact hlt
          obtain ⟨⟨yo,ya,yb⟩,hy9⟩:=aE (S.code[j]);obtain ⟨g,rfl⟩:∃g,Ac=some ⟨g,0,none⟩:=by
           rcases HY.out.code.2 with ⟨_,h0⟩ | ⟨g,cap,cur,hv,_⟩
           ·rw [HNC.out] at h0;omega
           ·simp only [Value.slice.injEq] at hv;exact ⟨g,hv.1⟩
          have hgl:=(World.ownsRow.lt HY.out.code g rfl).2;have hcl:∀jj,jj<3→wr.cell? ⟨g,j*3+jj,none⟩=(gF ⟨yo,ya,yb⟩)[jj]? :=fun jj hjj=>by
           rw [hbr.cell (p:=⟨g,j*3+jj,none⟩) hgl];have ho:=HY.out.code;rw [HNC.out] at ho;rw [World.ownsRow.cellAt ho (j*3+jj) I,eY jQ S.code j jj hjl hjj,hy9]
          have i0:wr.cell? ⟨g,j*3,none⟩=some (.int .i64 yo):=hcl 0 I;have i1:wr.cell? ⟨g,j*3+1,none⟩=some (.int .i64 ya):=hcl 1 I;have i2:wr.cell? ⟨g,j*3+2,none⟩=some (.int .i64 yb):=hcl 2 I;have HYJ:Hid (∃h:j<S.code.length,S.code[j]=⟨yo,ya,yb⟩):=J ⟨hjl,hy9⟩;have HLT:=J hlt;have g0:(0:Int)≤(j:Int):=I;have g1:(j:Int)<(nc:Int):=I;have hgw:g<wr.heap.size:=aN hgl hbr.size;obtain ⟨mv,hmv⟩:=aE (fD ⟨yo,ya,yb⟩);have HMV:=J hmv;have HMC:Hid (∀W,Calls Tryz.prog 32 #[.agg #[.int .i64 yo,.int .i64 ya,.int .i64 yb]] W fun e w'=>e= .returned (.bool mv)∧Below W.heap.size W w'):=J (fun W=>by rw [←hmv];exact Lv.may_any yo ya yb W);clear hcl hgl hy9 hjl hlt hall hmv hbr
          cases mv with
          | true=>
           go_wp2_with (first | (go_at_call 32;(with_reducible refine (HMC.out _).mono ?_);rintro e w10 ⟨rfl,HB10⟩;replace HB10:=J HB10));go_roundw
           case rel=>exact ⟨j+1,by go_num,HLT.out,by obtain ⟨hjl,hy9⟩:=HYJ.out;rw [List.take_succ_eq_append_getElem hjl,List.all_append,HALL.out,hy9];simp [HMV.out],HBR.out.trans ((ba).trans (HB10.out.mono Y86) |>.mono HBR.out.size)⟩
           case measure=>simp [intOf];have:=HLT.out;omega
          | false=>
           have HR2:Hid (lY fields value x=(noMet,eB,12)):=J (by rw [HRT2.out,if_neg (fun z=>by
            rw [List.all_eq_true] at z;obtain ⟨hjl,hy9⟩:=HYJ.out;have h9:=z _ (List.getElem_mem hjl);rw [hy9,HMV.out] at h9
            cases h9)])
           go_wp2_with (first | (go_at_call 32;(with_reducible refine (HMC.out _).mono ?_);rintro e w10 ⟨rfl,hb10⟩;have HB10:=J hb10;have HB11:Hid (Below w9.heap.size w9 w10):=J (HBR.out.trans (((ba).trans (hb10.mono Y86)).mono HBR.out.size));have HT10:Hid (w10.heap[w.heap.size+1]? =some (.cells #[.string eB,.int .i64 0,.int .i64 0,.int .i64 0,.slice none 0 0,.slice none 0 0] 32 (0,0))):=J ((HB11.out.block _ (aA HTB.out)).trans HTB.out);have t0:w10.cell? ⟨w.heap.size+1,0,none⟩=some (.string eB):=aC HT10.out rfl;have f0:w10.frozen? ⟨w.heap.size+1,0,none⟩=false:=Y9;have t1:w10.cell? ⟨w.heap.size+1,1,none⟩=some (.int .i64 0):=aC HT10.out rfl;have f1:w10.frozen? ⟨w.heap.size+1,1,none⟩=false:=Y9;have t2:w10.cell? ⟨w.heap.size+1,2,none⟩=some (.int .i64 0):=aC HT10.out rfl;have f2:w10.frozen? ⟨w.heap.size+1,2,none⟩=false:=Y9;have t3:w10.cell? ⟨w.heap.size+1,3,none⟩=some (.int .i64 0):=aC HT10.out rfl;have f3:w10.frozen? ⟨w.heap.size+1,3,none⟩=false:=Y9;have t4:w10.cell? ⟨w.heap.size+1,4,none⟩=some (.slice none 0 0):=aC HT10.out rfl;have f4:w10.frozen? ⟨w.heap.size+1,4,none⟩=false:=Y9;have t5:w10.cell? ⟨w.heap.size+1,5,none⟩=some (.slice none 0 0):=aC HT10.out rfl;have f5:w10.frozen? ⟨w.heap.size+1,5,none⟩=false:=Y9;clear hb10));obtain ⟨W9,hW9⟩:∃W9,W9=((((((w10.setCell ⟨w.heap.size+1,0,none⟩ (.string eB)).setCell ⟨w.heap.size+1,1,none⟩ (.int .i64 0)).setCell ⟨w.heap.size+1,2,none⟩ (.int .i64 0)).setCell ⟨w.heap.size+1,3,none⟩ (.int .i64 0)).setCell ⟨w.heap.size+1,4,none⟩ (.slice none 0 0)).setCell ⟨w.heap.size+1,5,none⟩ (.slice none 0 0)):=⟨_,rfl⟩;have h9:W9.heap[w.heap.size+1]? =some (.cells #[.string eB,.int .i64 0,.int .i64 0,.int .i64 0,.slice none 0 0,.slice none 0 0] 32 (0,0)):=Y138;obtain ⟨z0,z1,z2,z3,z4,z5⟩:=cc6 h9;have HW9:Hid (Below w.heap.size w10 W9):=J Y14;rw [←hW9];clear hW9 h9;refine bodyPost_ret (v:=.tuple #[.agg #[.string eB,.int .i64 0,.int .i64 0,.int .i64 0,.slice none 0 0,.slice none 0 0],.string eB,.int .i64 12]) Y41 rfl ?_;rw [HR2.out];exact ReadP.no rfl ((HBW.out.trans (HB11.out.mono HBW.out.size)).trans HW9.out) Y3
         ·have hjn:j=nc:=I;have d1:=aK hlt;have d2:=aF hlt;clear hlt;have HR2:Hid (lY fields value x=(⟨x.text,x.names.length,S.temps,x.num,S.lits,S.code⟩,eB,0)):=J (by
           have h9:=HALL.out;rw [hjn,←HNC.out,List.take_length] at h9;rw [HRT2.out,if_pos h9])
          subst hjn;have hcw:∀i,wr.cell? ⟨cb,i,none⟩=w9.cell? ⟨cb,i,none⟩:=fun i=>World.cell?_of_block (hbr.block cb (aA HY.out.box))
          have k0:wr.cell? ⟨cb,0,none⟩=some (.string x.text):=Y35;have k1:wr.cell? ⟨cb,1,none⟩=some (.int .i64 (x.names.length:Int)):=Y35;have k2:wr.cell? ⟨cb,2,none⟩=some (.int .i64 (S.temps:Int)):=Y35;have k3:wr.cell? ⟨cb,3,none⟩=some (.int .i64 x.num):=Y35;have k4:wr.cell? ⟨cb,4,none⟩=some (.slice Al nl cl):=Y35;have k5:wr.cell? ⟨cb,5,none⟩=some (.slice Ac j cc):=Y35;have HT10:Hid (wr.heap[w.heap.size+1]? =some (.cells #[.string eB,.int .i64 0,.int .i64 0,.int .i64 0,.slice none 0 0,.slice none 0 0] 32 (0,0))):=J ((hbr.block _ (aA HTB.out)).trans HTB.out);have t0:wr.cell? ⟨w.heap.size+1,0,none⟩=some (.string eB):=aC HT10.out rfl;have f0:wr.frozen? ⟨w.heap.size+1,0,none⟩=false:=Y9;have t1:wr.cell? ⟨w.heap.size+1,1,none⟩=some (.int .i64 0):=aC HT10.out rfl;have f1:wr.frozen? ⟨w.heap.size+1,1,none⟩=false:=Y9;have t2:wr.cell? ⟨w.heap.size+1,2,none⟩=some (.int .i64 0):=aC HT10.out rfl;have f2:wr.frozen? ⟨w.heap.size+1,2,none⟩=false:=Y9;have t3:wr.cell? ⟨w.heap.size+1,3,none⟩=some (.int .i64 0):=aC HT10.out rfl;have f3:wr.frozen? ⟨w.heap.size+1,3,none⟩=false:=Y9;have t4:wr.cell? ⟨w.heap.size+1,4,none⟩=some (.slice none 0 0):=aC HT10.out rfl;have f4:wr.frozen? ⟨w.heap.size+1,4,none⟩=false:=Y9;have t5:wr.cell? ⟨w.heap.size+1,5,none⟩=some (.slice none 0 0):=aC HT10.out rfl;have f5:wr.frozen? ⟨w.heap.size+1,5,none⟩=false:=Y9;have HFIN:Hid (∀W,Turns (fun k=>k=w.heap.size+1) w9 W→ReadP (⟨x.text,x.names.length,S.temps,x.num,S.lits,S.code⟩,eB,0) w (.returned (.tuple #[.agg #[.string x.text,.int .i64 (x.names.length:Int),.int .i64 (S.temps:Int),.int .i64 x.num,.slice Al nl cl,.slice Ac j cc],.string eB,.int .i64 0])) W):=J (fun W hT=>by
           have hcb9:=HXB.out.2.2;have hne:∀kk,¬(fun k=>k<cb) kk→¬kk=w.heap.size+1:=fun kk z e=>z (by show kk<cb;omega)
           refine ⟨.slice Al nl cl,.slice Ac j cc,D,ps,rfl,?_,HY.out.lps,?_,HBW.out.trans (hT.below (fun k e=>by omega) HBW.out.size),fun k hk=>⟨?_,(HY.out.lvP k hk).2⟩,fun k hk=>?_,fun k hk=>?_,Nat.zero_le _,fun k hk=>HY.out.dge k hk⟩
           ·have hl9:=HY.out.lits;exact hl9.same hT.size (fun k hk=>hT.block k (World.ownsRow.lt hl9.own k hk).2 (hne k (HY.out.lvP k hk).1)) (fun b hb hl=>hT.block b hl (fun e=>by
             obtain ⟨cur,hc⟩:=HY.out.dty b hb;rw [e,HTB.out] at hc;simp at hc)) (fun _ z=>z)
           ·exact aJ HY.out.code hT.size (fun k hk=>hT.block k (World.ownsRow.lt HY.out.code k hk).2 (hne k (HY.out.cvP k hk)))
           ·have h9:¬k<cb:=(HY.out.lvP k hk).1;omega
           ·have h9:¬k<cb:=HY.out.cvP k hk;omega
           ·obtain ⟨cur,hc⟩:=HY.out.dty k hk;exact ⟨cur,(hT.block k (aA hc) (fun e=>by rw [e,HTB.out] at hc;simp at hc)).trans hc⟩)
          clear hcw hbr hall;go_wp2_with fail;obtain ⟨W9,hW9⟩:∃W9,W9=((((((wr.setCell ⟨w.heap.size+1,0,none⟩ (.string x.text)).setCell ⟨w.heap.size+1,1,none⟩ (.int .i64 (x.names.length:Int))).setCell ⟨w.heap.size+1,2,none⟩ (.int .i64 (S.temps:Int))).setCell ⟨w.heap.size+1,3,none⟩ (.int .i64 x.num)).setCell ⟨w.heap.size+1,4,none⟩ (.slice Al nl cl)).setCell ⟨w.heap.size+1,5,none⟩ (.slice Ac j cc)):=⟨_,rfl⟩;have h9:W9.heap[w.heap.size+1]? =some (.cells #[.string x.text,.int .i64 (x.names.length:Int),.int .i64 (S.temps:Int),.int .i64 x.num,.slice Al nl cl,.slice Ac j cc] 32 (0,0)):=Y138;obtain ⟨z0,z1,z2,z3,z4,z5⟩:=cc6 h9;have HW9:Hid (Below w.heap.size wr W9):=J Y14;have HWT:Hid (Turns (fun k=>k=w.heap.size+1) w9 W9):=J Y73;rw [←hW9];clear hW9 h9;refine bodyPost_ret (v:=.tuple #[.agg #[.string x.text,.int .i64 (x.names.length:Int),.int .i64 (S.temps:Int),.int .i64 x.num,.slice Al nl cl,.slice Ac j cc],.string eB,.int .i64 0]) Y41 rfl ?_;rw [HR2.out];exact HFIN.out W9 HWT.out
     ·have HR2:Hid (lY fields value x=(noMet,S.ename,S.err)):=J (by rw [HRT.out,if_pos he]);have z1:(S.err==0)=false:=Y20;have z2:(S.err != 0)=true:=Y20;rw [HR2.out];clear he
      go_upto_region 11 with fail
      go_region
      all_goals
       go_wp2_with fail;obtain ⟨W9,hW9⟩:∃W9,W9=((((((w9.setCell ⟨w.heap.size+1,0,none⟩ (.string eB)).setCell ⟨w.heap.size+1,1,none⟩ (.int .i64 0)).setCell ⟨w.heap.size+1,2,none⟩ (.int .i64 0)).setCell ⟨w.heap.size+1,3,none⟩ (.int .i64 0)).setCell ⟨w.heap.size+1,4,none⟩ (.slice none 0 0)).setCell ⟨w.heap.size+1,5,none⟩ (.slice none 0 0)):=⟨_,rfl⟩;have h9:W9.heap[w.heap.size+1]? =some (.cells #[.string eB,.int .i64 0,.int .i64 0,.int .i64 0,.slice none 0 0,.slice none 0 0] 32 (0,0)):=Y90;obtain ⟨z0,z1,z2,z3,z4,z5⟩:=cc6 h9;have HW9:Hid (Below w.heap.size w9 W9):=J Y14;rw [←hW9];clear hW9 h9;refine bodyPost_ret (v:=.tuple #[.agg #[.string eB,.int .i64 0,.int .i64 0,.int .i64 0,.slice none 0 0,.slice none 0 0],.string S.ename,.int .i64 S.err]) Y41 rfl ?_;exact ReadP.no rfl (HBW.out.trans (by first | exact HW9.out | exact HW9.out.drew)) HY.out.enm
 ·have q1:(x.kind==11)=false:=Y149;have q2:(x.kind != 11)=true:=Y149;have HRD:Hid (eW x.size x fields value=(noMet,eB,1)):=J (by unfold eW;rw [if_pos (.inl hk)]);rw [HRD.out];clear hk;exact Z42
structure Told (r:MetT×ByteArray×Int) (B:Nat) (w':World) (lv cv:Value) (D:Nat→Prop) (ps:List LP):Prop where
 lits:LitRow w' D lv ps
 lps:ps.map Prod.fst=r.1.lits
 code:w'.ownsRow 0 42 3 cv r.1.code.length (r.1.code.flatMap gF)
 lvB:∀k,lv.ownBlock=some k→B≤k∧¬D k
 cvB:∀k,cv.ownBlock=some k→B≤k
 dty:∀k,D k→∃cur,w'.heap[k]? =some (.cells cur 44 (0,0))
 nmB:r.2.1.size≤bL
 dge:∀k,D k→B≤k
theorem Told.turns {r:MetT×ByteArray×Int} {B B':Nat} {w w':World} {lv cv:Value} {D:Nat→Prop} {ps:List LP} (h:Told r B w lv cv D ps) {T:Nat→Prop} (ht:Turns T w w') (hB:B'≤B) (hT:∀k,T k→k<B∧∀cur,w.heap[k]? ≠some (.cells cur 44 (0,0))):Told r B' w' lv cv D ps:=by
 have hne:∀k,B≤k→¬T k:=fun k hk z=>by have:=(hT k z).1;omega
 have hD:∀k,D k→¬T k:=fun k hk z=>by
  obtain ⟨cur,hc⟩:=h.dty k hk;exact (hT k z).2 cur hc
 refine ⟨h.lits.same ht.size (fun k hk=>ht.block k (World.ownsRow.lt h.lits.own k hk).2 (hne k (h.lvB k hk).1)) (fun b hb hl=>ht.block b hl (hD b hb)) (fun _ z=>z),h.lps,aJ h.code ht.size (fun k hk=>ht.block k (World.ownsRow.lt h.code k hk).2 (hne k (h.cvB k hk))),fun k hk=>⟨Nat.le_trans hB (h.lvB k hk).1,(h.lvB k hk).2⟩,fun k hk=>Nat.le_trans hB (h.cvB k hk),fun k hk=>?_,h.nmB,fun k hk=>Nat.le_trans hB (h.dge k hk)⟩;obtain ⟨cur,hc⟩:=h.dty k hk;exact ⟨cur,(ht.block k (aA hc) (hD k hk)).trans hc⟩
theorem ReadP.told {r:MetT×ByteArray×Int} {w w':World} {e:Ending} (h:ReadP r w e w'):∃lv cv D ps,e= .returned (.tuple #[.agg #[.string r.1.sel,.int .i64 (r.1.args:Int),.int .i64 (r.1.temps:Int),.int .i64 r.1.prim,lv,cv],.string r.2.1,.int .i64 r.2.2])∧Told r w.heap.size w' lv cv D ps∧Below w.heap.size w w':=by
 obtain ⟨lv,cv,D,ps,he,h1,h2,h3,h4,h5,h6,h7,h8,h9⟩:=h;exact ⟨lv,cv,D,ps,he,⟨h1,h2,h3,h5,h6,h7,h8,h9⟩,h4⟩
theorem Told.post {r:MetT×ByteArray×Int} {w w':World} {lv cv:Value} {D:Nat→Prop} {ps:List LP} (h:Told r w.heap.size w' lv cv D ps) (hb:Below w.heap.size w w'):ReadP r w (.returned (.tuple #[.agg #[.string r.1.sel,.int .i64 (r.1.args:Int),.int .i64 (r.1.temps:Int),.int .i64 r.1.prim,lv,cv],.string r.2.1,.int .i64 r.2.2])) w':=
 ⟨lv,cv,D,ps,rfl,h.lits,h.lps,h.code,hb,h.lvB,h.cvB,h.dty,h.nmB,h.dge⟩
theorem Z43 {P:Prop} (h:P:=by
 have h2:=heap_alloc_new (w.alloc (.cells #[.int .i64 x.kind,.string x.text,.int .i64 x.num,.slice q.pn x.names.length q.cn,.slice q.pt x.temps.length q.ct,.slice q.pk x.kids.length q.ck] 25)) (.cells #[.string eB,.int .i64 0,.int .i64 0,.int .i64 0,.slice none 0 0,.slice none 0 0] 32);rw [World.size_alloc] at h2;exact h2):P:=h
theorem Z44 {P:Prop} (h:P:=by
 have ht:=HTD.out.turns (B':=w.heap.size) HT9.out Y86 (fun k e=>⟨by subst e;go_size,fun cur=>by subst e;rw [HMZ5.out];simp⟩);exact ht.post ((HB2.out.trans (HB5.out.mono Y86)).trans (HT9.out.below (fun k e=>by subst e;omega) (Nat.le_trans HB2.out.size (by have:=HB5.out.size;exact this))))):P:=h
theorem pJ {w:World} {x:NodT} {q:NS} (hn:IsNd w (fun _=>True) x q) {D:Nat→Prop} {p:Option Addr} {n c:Nat} {fields:List ByteArray} (hs:Strs w D p fields) (hl:fields.length=n) (hle:n≤9223372036854775807) (hx:x.size≤100000):
  Calls Tryz.prog 8 #[ndV x q,.slice p n c] w (ReadP (eW x.size x fields false) w):=by
 have HN:=J hn;have HSZ:=J hx;obtain ⟨r,hr⟩:=aE (eW x.size x fields false);have hrc:∀W,Below (((w.alloc (.cells #[.int .i64 x.kind,.string x.text,.int .i64 x.num,.slice q.pn x.names.length q.cn,.slice q.pt x.temps.length q.ct,.slice q.pk x.kids.length q.ck] 25)).alloc (.cells #[.string eB,.int .i64 0,.int .i64 0,.int .i64 0,.slice none 0 0,.slice none 0 0] 32))).heap.size (((w.alloc (.cells #[.int .i64 x.kind,.string x.text,.int .i64 x.num,.slice q.pn x.names.length q.cn,.slice q.pt x.temps.length q.ct,.slice q.pk x.kids.length q.ck] 25)).alloc (.cells #[.string eB,.int .i64 0,.int .i64 0,.int .i64 0,.slice none 0 0,.slice none 0 0] 32))) W→Calls Tryz.prog 16 #[ndV x q,.slice p n c,.bool false] W (ReadP r W):=fun W hb=>by
  rw [←hr];have hb2:Below w.heap.size w W:=(show Below w.heap.size w (((w.alloc (.cells #[.int .i64 x.kind,.string x.text,.int .i64 x.num,.slice q.pn x.names.length q.cn,.slice q.pt x.temps.length q.ct,.slice q.pk x.kids.length q.ck] 25)).alloc (.cells #[.string eB,.int .i64 0,.int .i64 0,.int .i64 0,.slice none 0 0,.slice none 0 0] 32))) from bel).trans (hb.mono Y86);exact sY (hn.under hb2) (hs.same hb2.size (fun b _ hl=>hb2.block b hl) (fun _ z=>z)) hl hle hx false
 rw [hr];have HMZ:Hid ((((w.alloc (.cells #[.int .i64 x.kind,.string x.text,.int .i64 x.num,.slice q.pn x.names.length q.cn,.slice q.pt x.temps.length q.ct,.slice q.pk x.kids.length q.ck] 25)).alloc (.cells #[.string eB,.int .i64 0,.int .i64 0,.int .i64 0,.slice none 0 0,.slice none 0 0] 32))).heap[w.heap.size+1]? =some (.cells #[.string eB,.int .i64 0,.int .i64 0,.int .i64 0,.slice none 0 0,.slice none 0 0] 32 (0,0))):=J (by
  exact Z43)
 have HB2:Hid (Below w.heap.size w (((w.alloc (.cells #[.int .i64 x.kind,.string x.text,.int .i64 x.num,.slice q.pn x.names.length q.cn,.slice q.pt x.temps.length q.ct,.slice q.pk x.kids.length q.ck] 25)).alloc (.cells #[.string eB,.int .i64 0,.int .i64 0,.int .i64 0,.slice none 0 0,.slice none 0 0] 32)))):=J bel;unfold ndV at hrc ⊢;have HRC:=J hrc;clear hn hx hrc hr;go_enter Tryz.func8,Tryz.ntmps8;go_wp2_with (first | (go_at_call 16;(with_reducible refine (HRC.out _ bel).mono ?_);rintro e w5 hrp;obtain ⟨lv,cv,D,ps,rfl,htd,hb5⟩:=hrp.told;obtain ⟨Al,cl,hlv,_⟩:=aX htd.lits.own;obtain ⟨Ac,cc,hcv,_⟩:=aX htd.code;obtain ⟨nl,hnl⟩:=aE ps.length;obtain ⟨nc,hnc⟩:=aE r.1.code.length;rw [hnl] at hlv;rw [hnc] at hcv;subst hlv;subst hcv;have HTD:=J htd;have HB5:Hid (Below (((w.alloc (.cells #[.int .i64 x.kind,.string x.text,.int .i64 x.num,.slice q.pn x.names.length q.cn,.slice q.pt x.temps.length q.ct,.slice q.pk x.kids.length q.ck] 25)).alloc (.cells #[.string eB,.int .i64 0,.int .i64 0,.int .i64 0,.slice none 0 0,.slice none 0 0] 32))).heap.size (((w.alloc (.cells #[.int .i64 x.kind,.string x.text,.int .i64 x.num,.slice q.pn x.names.length q.cn,.slice q.pt x.temps.length q.ct,.slice q.pk x.kids.length q.ck] 25)).alloc (.cells #[.string eB,.int .i64 0,.int .i64 0,.int .i64 0,.slice none 0 0,.slice none 0 0] 32))) w5):=J ((show Below (((w.alloc (.cells #[.int .i64 x.kind,.string x.text,.int .i64 x.num,.slice q.pn x.names.length q.cn,.slice q.pt x.temps.length q.ct,.slice q.pk x.kids.length q.ck] 25)).alloc (.cells #[.string eB,.int .i64 0,.int .i64 0,.int .i64 0,.slice none 0 0,.slice none 0 0] 32))).heap.size (((w.alloc (.cells #[.int .i64 x.kind,.string x.text,.int .i64 x.num,.slice q.pn x.names.length q.cn,.slice q.pt x.temps.length q.ct,.slice q.pk x.kids.length q.ck] 25)).alloc (.cells #[.string eB,.int .i64 0,.int .i64 0,.int .i64 0,.slice none 0 0,.slice none 0 0] 32))) _ from bel).trans (hb5.mono Y86));have hmz:=(HB5.out.block _ (aA HMZ.out)).trans HMZ.out;have HMZ5:=J hmz;have t0:w5.cell? ⟨w.heap.size+1,0,none⟩=some (.string eB):=aC HMZ5.out rfl;have f0:w5.frozen? ⟨w.heap.size+1,0,none⟩=false:=Y22;have t1:w5.cell? ⟨w.heap.size+1,1,none⟩=some (.int .i64 0):=aC HMZ5.out rfl;have f1:w5.frozen? ⟨w.heap.size+1,1,none⟩=false:=Y22;have t2:w5.cell? ⟨w.heap.size+1,2,none⟩=some (.int .i64 0):=aC HMZ5.out rfl;have f2:w5.frozen? ⟨w.heap.size+1,2,none⟩=false:=Y22;have t3:w5.cell? ⟨w.heap.size+1,3,none⟩=some (.int .i64 0):=aC HMZ5.out rfl;have f3:w5.frozen? ⟨w.heap.size+1,3,none⟩=false:=Y22;have t4:w5.cell? ⟨w.heap.size+1,4,none⟩=some (.slice none 0 0):=aC HMZ5.out rfl;have f4:w5.frozen? ⟨w.heap.size+1,4,none⟩=false:=Y22;have t5:w5.cell? ⟨w.heap.size+1,5,none⟩=some (.slice none 0 0):=aC HMZ5.out rfl;have f5:w5.frozen? ⟨w.heap.size+1,5,none⟩=false:=Y22;clear hrp htd hb5 hmz hnl hnc));obtain ⟨W9,hW9⟩:∃W9,W9=((((((w5.setCell ⟨w.heap.size+1,0,none⟩ (.string r.1.sel)).setCell ⟨w.heap.size+1,1,none⟩ (.int .i64 (r.1.args:Int))).setCell ⟨w.heap.size+1,2,none⟩ (.int .i64 (r.1.temps:Int))).setCell ⟨w.heap.size+1,3,none⟩ (.int .i64 r.1.prim)).setCell ⟨w.heap.size+1,4,none⟩ (.slice Al nl cl)).setCell ⟨w.heap.size+1,5,none⟩ (.slice Ac nc cc)):=⟨_,rfl⟩;have h9:W9.heap[w.heap.size+1]? =some (.cells #[.string r.1.sel,.int .i64 (r.1.args:Int),.int .i64 (r.1.temps:Int),.int .i64 r.1.prim,.slice Al nl cl,.slice Ac nc cc] 32 (0,0)):=by rw [hW9];exact aV HMZ5.out
 obtain ⟨z0,z1,z2,z3,z4,z5⟩:=cc6 h9;have HT9:Hid (Turns (fun k=>k=w.heap.size+1) w5 W9):=J Y16;rw [←hW9];clear hW9 h9;refine bodyPost_ret (v:=.tuple #[.agg #[.string r.1.sel,.int .i64 (r.1.args:Int),.int .i64 (r.1.temps:Int),.int .i64 r.1.prim,.slice Al nl cl,.slice Ac nc cc],.string r.2.1,.int .i64 r.2.2]) (by simp [results,Tryz.results8,go_sem,z0,z1,z2,z3,z4,z5]) rfl ?_;exact Z44
theorem sZ {w:World} {x:NodT} {q:NS} (hn:IsNd w (fun _=>True) x q) (hx:x.size≤100000):
  Calls Tryz.prog 14 #[ndV x q] w (ReadP (eW x.size x [] true) w):=by
 have HN:=J hn;have HSZ:=J hx;obtain ⟨r,hr⟩:=aE (eW x.size x [] true);have hrc:∀W,Below (((w.alloc (.cells #[.int .i64 x.kind,.string x.text,.int .i64 x.num,.slice q.pn x.names.length q.cn,.slice q.pt x.temps.length q.ct,.slice q.pk x.kids.length q.ck] 25)).alloc (.cells #[.string eB,.int .i64 0,.int .i64 0,.int .i64 0,.slice none 0 0,.slice none 0 0] 32))).heap.size (((w.alloc (.cells #[.int .i64 x.kind,.string x.text,.int .i64 x.num,.slice q.pn x.names.length q.cn,.slice q.pt x.temps.length q.ct,.slice q.pk x.kids.length q.ck] 25)).alloc (.cells #[.string eB,.int .i64 0,.int .i64 0,.int .i64 0,.slice none 0 0,.slice none 0 0] 32))) W→Calls Tryz.prog 16 #[ndV x q,.slice none 0 0,.bool true] W (ReadP r W):=fun W hb=>by
  rw [←hr];have hb2:Below w.heap.size w W:=(show Below w.heap.size w (((w.alloc (.cells #[.int .i64 x.kind,.string x.text,.int .i64 x.num,.slice q.pn x.names.length q.cn,.slice q.pt x.temps.length q.ct,.slice q.pk x.kids.length q.ck] 25)).alloc (.cells #[.string eB,.int .i64 0,.int .i64 0,.int .i64 0,.slice none 0 0,.slice none 0 0] 32))) from bel).trans (hb.mono Y86);exact sY (hn.under hb2) (D:=fun _=>True) (p:=none) (n:=0) (c:=0) (fields:=[]) (fun i hi=>absurd hi Y12) rfl I hx true
 rw [hr];have HMZ:Hid ((((w.alloc (.cells #[.int .i64 x.kind,.string x.text,.int .i64 x.num,.slice q.pn x.names.length q.cn,.slice q.pt x.temps.length q.ct,.slice q.pk x.kids.length q.ck] 25)).alloc (.cells #[.string eB,.int .i64 0,.int .i64 0,.int .i64 0,.slice none 0 0,.slice none 0 0] 32))).heap[w.heap.size+1]? =some (.cells #[.string eB,.int .i64 0,.int .i64 0,.int .i64 0,.slice none 0 0,.slice none 0 0] 32 (0,0))):=J (by
  exact Z43)
 have HB2:Hid (Below w.heap.size w (((w.alloc (.cells #[.int .i64 x.kind,.string x.text,.int .i64 x.num,.slice q.pn x.names.length q.cn,.slice q.pt x.temps.length q.ct,.slice q.pk x.kids.length q.ck] 25)).alloc (.cells #[.string eB,.int .i64 0,.int .i64 0,.int .i64 0,.slice none 0 0,.slice none 0 0] 32)))):=J bel;unfold ndV at hrc ⊢;have HRC:=J hrc;clear hn hx hrc hr;go_enter Tryz.func14,Tryz.ntmps14;go_wp2_with (first | (go_at_call 16;(with_reducible refine (HRC.out _ bel).mono ?_);rintro e w5 hrp;obtain ⟨lv,cv,D,ps,rfl,htd,hb5⟩:=hrp.told;obtain ⟨Al,cl,hlv,_⟩:=aX htd.lits.own;obtain ⟨Ac,cc,hcv,_⟩:=aX htd.code;obtain ⟨nl,hnl⟩:=aE ps.length;obtain ⟨nc,hnc⟩:=aE r.1.code.length;rw [hnl] at hlv;rw [hnc] at hcv;subst hlv;subst hcv;have HTD:=J htd;have HB5:Hid (Below (((w.alloc (.cells #[.int .i64 x.kind,.string x.text,.int .i64 x.num,.slice q.pn x.names.length q.cn,.slice q.pt x.temps.length q.ct,.slice q.pk x.kids.length q.ck] 25)).alloc (.cells #[.string eB,.int .i64 0,.int .i64 0,.int .i64 0,.slice none 0 0,.slice none 0 0] 32))).heap.size (((w.alloc (.cells #[.int .i64 x.kind,.string x.text,.int .i64 x.num,.slice q.pn x.names.length q.cn,.slice q.pt x.temps.length q.ct,.slice q.pk x.kids.length q.ck] 25)).alloc (.cells #[.string eB,.int .i64 0,.int .i64 0,.int .i64 0,.slice none 0 0,.slice none 0 0] 32))) w5):=J ((show Below (((w.alloc (.cells #[.int .i64 x.kind,.string x.text,.int .i64 x.num,.slice q.pn x.names.length q.cn,.slice q.pt x.temps.length q.ct,.slice q.pk x.kids.length q.ck] 25)).alloc (.cells #[.string eB,.int .i64 0,.int .i64 0,.int .i64 0,.slice none 0 0,.slice none 0 0] 32))).heap.size (((w.alloc (.cells #[.int .i64 x.kind,.string x.text,.int .i64 x.num,.slice q.pn x.names.length q.cn,.slice q.pt x.temps.length q.ct,.slice q.pk x.kids.length q.ck] 25)).alloc (.cells #[.string eB,.int .i64 0,.int .i64 0,.int .i64 0,.slice none 0 0,.slice none 0 0] 32))) _ from bel).trans (hb5.mono Y86));have hmz:=(HB5.out.block _ (aA HMZ.out)).trans HMZ.out;have HMZ5:=J hmz;have t0:w5.cell? ⟨w.heap.size+1,0,none⟩=some (.string eB):=aC HMZ5.out rfl;have f0:w5.frozen? ⟨w.heap.size+1,0,none⟩=false:=Y22;have t1:w5.cell? ⟨w.heap.size+1,1,none⟩=some (.int .i64 0):=aC HMZ5.out rfl;have f1:w5.frozen? ⟨w.heap.size+1,1,none⟩=false:=Y22;have t2:w5.cell? ⟨w.heap.size+1,2,none⟩=some (.int .i64 0):=aC HMZ5.out rfl;have f2:w5.frozen? ⟨w.heap.size+1,2,none⟩=false:=Y22;have t3:w5.cell? ⟨w.heap.size+1,3,none⟩=some (.int .i64 0):=aC HMZ5.out rfl;have f3:w5.frozen? ⟨w.heap.size+1,3,none⟩=false:=Y22;have t4:w5.cell? ⟨w.heap.size+1,4,none⟩=some (.slice none 0 0):=aC HMZ5.out rfl;have f4:w5.frozen? ⟨w.heap.size+1,4,none⟩=false:=Y22;have t5:w5.cell? ⟨w.heap.size+1,5,none⟩=some (.slice none 0 0):=aC HMZ5.out rfl;have f5:w5.frozen? ⟨w.heap.size+1,5,none⟩=false:=Y22;clear hrp htd hb5 hmz hnl hnc));obtain ⟨W9,hW9⟩:∃W9,W9=((((((w5.setCell ⟨w.heap.size+1,0,none⟩ (.string r.1.sel)).setCell ⟨w.heap.size+1,1,none⟩ (.int .i64 (r.1.args:Int))).setCell ⟨w.heap.size+1,2,none⟩ (.int .i64 (r.1.temps:Int))).setCell ⟨w.heap.size+1,3,none⟩ (.int .i64 r.1.prim)).setCell ⟨w.heap.size+1,4,none⟩ (.slice Al nl cl)).setCell ⟨w.heap.size+1,5,none⟩ (.slice Ac nc cc)):=⟨_,rfl⟩;have h9:W9.heap[w.heap.size+1]? =some (.cells #[.string r.1.sel,.int .i64 (r.1.args:Int),.int .i64 (r.1.temps:Int),.int .i64 r.1.prim,.slice Al nl cl,.slice Ac nc cc] 32 (0,0)):=by rw [hW9];exact aV HMZ5.out
 obtain ⟨z0,z1,z2,z3,z4,z5⟩:=cc6 h9;have HT9:Hid (Turns (fun k=>k=w.heap.size+1) w5 W9):=J Y16;rw [←hW9];clear hW9 h9;refine bodyPost_ret (v:=.tuple #[.agg #[.string r.1.sel,.int .i64 (r.1.args:Int),.int .i64 (r.1.temps:Int),.int .i64 r.1.prim,.slice Al nl cl,.slice Ac nc cc],.string r.2.1,.int .i64 r.2.2]) (by simp [results,Tryz.results14,go_sem,z0,z1,z2,z3,z4,z5]) rfl ?_;exact Z44
end Go.Proofs.YtnojndgmgkgnpaaGreat
namespace Go.Proofs.YtnojndgmgkgnpaaGreat.Lx
open Go.ChangeShapes Go.WideShapes Go.ChangeAt Go.RowKit
def dX (c:UInt8):Int:=if dE c then 1 else if digB c then 2 else if fQ c then 5 else if cF c then 3 else if gD c then 4 else 0
theorem cI {k:IntKind} {a b:Int} (h:a=b):Ending.returned (.int k a)= .returned (.int k b):=by rw [h]
theorem kind_let (c:UInt8) (w:World) (hl:dE c=true):Calls Tryz.prog 63 #[.int .u8 c.toNat] w fun e w'=>e= .returned (.int .i64 (dX c))∧w'=w:=by
 have F:Hid (dX c=1):=by show _=_;unfold dX;rw [if_pos hl]
 have hd:=uK c;rw [hl] at hd;have hd':=hd.symm;simp only [Bool.or_eq_true,Bool.and_eq_true,decide_eq_true_eq] at hd';clear hd hl
 rcases hd' with ⟨h1,h2⟩ | ⟨h1,h2⟩
 ·go_enter Tryz.func63,Tryz.ntmps63;go_wp2;go_ret;exact ⟨cI F.out.symm,rfl⟩
 ·have h3:¬97≤(c.toNat:Int):=I;go_enter Tryz.func63,Tryz.ntmps63;go_wp2;go_ret;exact ⟨cI F.out.symm,rfl⟩
theorem kind_dig (c:UInt8) (w:World) (hl:dE c=false) (hg:digB c=true):Calls Tryz.prog 63 #[.int .u8 c.toNat] w fun e w'=>e= .returned (.int .i64 (dX c))∧w'=w:=by
 have F:Hid (dX c=2):=by show _=_;unfold dX;rw [if_neg (by simp [hl]),if_pos hg]
 have hd:=rK c;rw [hg] at hd;have hd':=hd.symm;simp only [Bool.and_eq_true,decide_eq_true_eq] at hd';obtain ⟨h1,h2⟩:=hd';have h3:¬97≤(c.toNat:Int):=I;have h4:¬65≤(c.toNat:Int):=I;clear hd hl hg;go_enter Tryz.func63,Tryz.ntmps63;go_wp2;go_ret;exact ⟨cI F.out.symm,rfl⟩
theorem kind_b9 (w:World):Calls Tryz.prog 63 #[.int .u8 9] w fun e w'=>e= .returned (.int .i64 5)∧w'=w:=by
 go_enter Tryz.func63,Tryz.ntmps63;go_wp2;go_ret;exact ⟨rfl,rfl⟩
theorem kind_b10 (w:World):Calls Tryz.prog 63 #[.int .u8 10] w fun e w'=>e= .returned (.int .i64 5)∧w'=w:=by
 go_enter Tryz.func63,Tryz.ntmps63;go_wp2;go_ret;exact ⟨rfl,rfl⟩
theorem kind_b13 (w:World):Calls Tryz.prog 63 #[.int .u8 13] w fun e w'=>e= .returned (.int .i64 5)∧w'=w:=by
 go_enter Tryz.func63,Tryz.ntmps63;go_wp2;go_ret;exact ⟨rfl,rfl⟩
theorem kind_b32 (w:World):Calls Tryz.prog 63 #[.int .u8 32] w fun e w'=>e= .returned (.int .i64 5)∧w'=w:=by
 go_enter Tryz.func63,Tryz.ntmps63;go_wp2;go_ret;exact ⟨rfl,rfl⟩
theorem kind_s43 (w:World):Calls Tryz.prog 63 #[.int .u8 43] w fun e w'=>e= .returned (.int .i64 3)∧w'=w:=by
 go_enter Tryz.func63,Tryz.ntmps63;go_wp2
 go_rounds 13
 go_ret;exact ⟨rfl,rfl⟩
theorem kind_s45 (w:World):Calls Tryz.prog 63 #[.int .u8 45] w fun e w'=>e= .returned (.int .i64 3)∧w'=w:=by
 go_enter Tryz.func63,Tryz.ntmps63;go_wp2
 go_rounds 13
 go_ret;exact ⟨rfl,rfl⟩
theorem kind_s42 (w:World):Calls Tryz.prog 63 #[.int .u8 42] w fun e w'=>e= .returned (.int .i64 3)∧w'=w:=by
 go_enter Tryz.func63,Tryz.ntmps63;go_wp2
 go_rounds 13
 go_ret;exact ⟨rfl,rfl⟩
theorem kind_s47 (w:World):Calls Tryz.prog 63 #[.int .u8 47] w fun e w'=>e= .returned (.int .i64 3)∧w'=w:=by
 go_enter Tryz.func63,Tryz.ntmps63;go_wp2
 go_rounds 13
 go_ret;exact ⟨rfl,rfl⟩
theorem kind_s60 (w:World):Calls Tryz.prog 63 #[.int .u8 60] w fun e w'=>e= .returned (.int .i64 3)∧w'=w:=by
 go_enter Tryz.func63,Tryz.ntmps63;go_wp2
 go_rounds 13
 go_ret;exact ⟨rfl,rfl⟩
theorem kind_s62 (w:World):Calls Tryz.prog 63 #[.int .u8 62] w fun e w'=>e= .returned (.int .i64 3)∧w'=w:=by
 go_enter Tryz.func63,Tryz.ntmps63;go_wp2
 go_rounds 13
 go_ret;exact ⟨rfl,rfl⟩
theorem kind_s61 (w:World):Calls Tryz.prog 63 #[.int .u8 61] w fun e w'=>e= .returned (.int .i64 3)∧w'=w:=by
 go_enter Tryz.func63,Tryz.ntmps63;go_wp2
 go_rounds 13
 go_ret;exact ⟨rfl,rfl⟩
theorem xS (w:World):Calls Tryz.prog 63 #[.int .u8 126] w fun e w'=>e= .returned (.int .i64 3)∧w'=w:=by
 go_enter Tryz.func63,Tryz.ntmps63;go_wp2
 go_rounds 13
 go_ret;exact ⟨rfl,rfl⟩
theorem kind_s44 (w:World):Calls Tryz.prog 63 #[.int .u8 44] w fun e w'=>e= .returned (.int .i64 3)∧w'=w:=by
 go_enter Tryz.func63,Tryz.ntmps63;go_wp2
 go_rounds 13
 go_ret;exact ⟨rfl,rfl⟩
theorem kind_s64 (w:World):Calls Tryz.prog 63 #[.int .u8 64] w fun e w'=>e= .returned (.int .i64 3)∧w'=w:=by
 go_enter Tryz.func63,Tryz.ntmps63;go_wp2
 go_rounds 13
 go_ret;exact ⟨rfl,rfl⟩
theorem kind_s38 (w:World):Calls Tryz.prog 63 #[.int .u8 38] w fun e w'=>e= .returned (.int .i64 3)∧w'=w:=by
 go_enter Tryz.func63,Tryz.ntmps63;go_wp2
 go_rounds 13
 go_ret;exact ⟨rfl,rfl⟩
theorem kind_s37 (w:World):Calls Tryz.prog 63 #[.int .u8 37] w fun e w'=>e= .returned (.int .i64 3)∧w'=w:=by
 go_enter Tryz.func63,Tryz.ntmps63;go_wp2
 go_rounds 13
 go_ret;exact ⟨rfl,rfl⟩
theorem Z45 {P:Prop} (h:P:=by
 go_enter Tryz.func63,Tryz.ntmps63;go_wp2
 go_rounds 13
 go_rounds 9
 go_ret;exact ⟨rfl,rfl⟩):P:=h
theorem kind_m94 (w:World):Calls Tryz.prog 63 #[.int .u8 94] w fun e w'=>e= .returned (.int .i64 4)∧w'=w:=by
 exact Z45
theorem kind_m46 (w:World):Calls Tryz.prog 63 #[.int .u8 46] w fun e w'=>e= .returned (.int .i64 4)∧w'=w:=by
 exact Z45
theorem kind_m59 (w:World):Calls Tryz.prog 63 #[.int .u8 59] w fun e w'=>e= .returned (.int .i64 4)∧w'=w:=by
 exact Z45
theorem kind_m40 (w:World):Calls Tryz.prog 63 #[.int .u8 40] w fun e w'=>e= .returned (.int .i64 4)∧w'=w:=by
 exact Z45
theorem kind_m41 (w:World):Calls Tryz.prog 63 #[.int .u8 41] w fun e w'=>e= .returned (.int .i64 4)∧w'=w:=by
 exact Z45
theorem kind_m91 (w:World):Calls Tryz.prog 63 #[.int .u8 91] w fun e w'=>e= .returned (.int .i64 4)∧w'=w:=by
 exact Z45
theorem kind_m93 (w:World):Calls Tryz.prog 63 #[.int .u8 93] w fun e w'=>e= .returned (.int .i64 4)∧w'=w:=by
 exact Z45
theorem xT (w:World):Calls Tryz.prog 63 #[.int .u8 124] w fun e w'=>e= .returned (.int .i64 4)∧w'=w:=by
 exact Z45
theorem no_sign (c:UInt8) (hn:(cF c || gD c)=false) (k:Nat) (hk:k<12):((((⟨#[43,45,42,47,60,62,61,126,44,64,38,37]⟩:ByteArray)[k]'hk).toNat:Int)==(c.toNat:Int))=false:=by
 have hall:∀k (h:k<12),cF ((⟨#[43,45,42,47,60,62,61,126,44,64,38,37]⟩:ByteArray)[k]'h)=true:=Y3;have h1:=hall k hk
 cases hh:((((⟨#[43,45,42,47,60,62,61,126,44,64,38,37]⟩:ByteArray)[k]'hk).toNat:Int)==(c.toNat:Int))
 ·rfl
 ·have h2:((⟨#[43,45,42,47,60,62,61,126,44,64,38,37]⟩:ByteArray)[k]'hk)=c:=by
   apply UInt8.toNat_inj.1
   have:=beq_iff_eq.1 hh;omega
  rw [h2] at h1;rw [h1] at hn;simp at hn
theorem no_mark (c:UInt8) (hn:(cF c || gD c)=false) (k:Nat) (hk:k<8):((((⟨#[94,46,59,40,41,91,93,124]⟩:ByteArray)[k]'hk).toNat:Int)==(c.toNat:Int))=false:=by
 have hall:∀k (h:k<8),gD ((⟨#[94,46,59,40,41,91,93,124]⟩:ByteArray)[k]'h)=true:=Y3;have h1:=hall k hk
 cases hh:((((⟨#[94,46,59,40,41,91,93,124]⟩:ByteArray)[k]'hk).toNat:Int)==(c.toNat:Int))
 ·rfl
 ·have h2:((⟨#[94,46,59,40,41,91,93,124]⟩:ByteArray)[k]'hk)=c:=by
   apply UInt8.toNat_inj.1
   have:=beq_iff_eq.1 hh;omega
  rw [h2] at h1;rw [h1] at hn;simp at hn
theorem Z46 {P:Prop} (h:P:=by
 go_wp2
 go_round
 case rel=>exact ⟨k+1,by omega,by go_num⟩
 case measure=>simp [intOf];omega):P:=h
theorem xU (c:UInt8) (w:World) (hl:dE c=false) (hg:digB c=false) (hb:fQ c=false) (hn:(cF c || gD c)=false):Calls Tryz.prog 63 #[.int .u8 c.toNat] w fun e w'=>e= .returned (.int .i64 0)∧w'=w:=by
 have HN:=J hn;have b9:((c.toNat:Int)==9)=false:=(fF c 9 I).trans (beq_false_of_ne (fun e=>by rw [e] at hb;revert hb;decide));have b10:((c.toNat:Int)==10)=false:=(fF c 10 I).trans (beq_false_of_ne (fun e=>by rw [e] at hb;revert hb;decide));have b13:((c.toNat:Int)==13)=false:=(fF c 13 I).trans (beq_false_of_ne (fun e=>by rw [e] at hb;revert hb;decide));have b32:((c.toNat:Int)==32)=false:=(fF c 32 I).trans (beq_false_of_ne (fun e=>by rw [e] at hb;revert hb;decide));have k1:=uK c;have k2:=rK c;rw [hl] at k1;rw [hg] at k2;have k1':=k1.symm;have k2':=k2.symm;simp only [Bool.or_eq_false_iff,Bool.and_eq_false_iff,decide_eq_false_iff_not] at k1' k2';have hr:(c.toNat:Int)<48∨(57<(c.toNat:Int)∧(c.toNat:Int)<65)∨(90<(c.toNat:Int)∧(c.toNat:Int)<97)∨122<(c.toNat:Int):=I;clear k1 k2 k1' k2' hl hg hb hn
 rcases hr with hr | ⟨hr,hr'⟩ | ⟨hr,hr'⟩ | hr
 all_goals
  go_enter Tryz.func63,Tryz.ntmps63;go_wp2
  go_loop [4] (fun i=>∃k:Nat,k≤12∧i= .int .i64 k) (fun i=>12-(intOf i).toNat)
  case atStart=>exact ⟨0,by omega,rfl⟩
  case round=>
   obtain ⟨k,hk,rfl⟩:=hrel
   by_cases hlt:k<12
   ·have d:=aD hlt;have b1:(0:Int)≤(k:Int):=I;have b2:(k:Int)<12:=I;have ht:=no_sign c HN.out k hlt;exact Z46
   ·have hkn:k=12:=I;subst hkn;go_wp2
    go_loop [6] (fun i=>∃k:Nat,k≤8∧i= .int .i64 k) (fun i=>8-(intOf i).toNat)
    case atStart=>exact ⟨0,by omega,rfl⟩
    case round=>
     obtain ⟨k,hk,rfl⟩:=hrel
     by_cases hlt:k<8
     ·have d:=aD hlt;have b1:(0:Int)≤(k:Int):=I;have b2:(k:Int)<8:=I;have ht:=no_mark c HN.out k hlt;exact Z46
     ·have hkn:k=8:=I;subst hkn;go_wp2;go_ret;exact ⟨rfl,rfl⟩
theorem nD (c:UInt8) (w:World):Calls Tryz.prog 63 #[.int .u8 c.toNat] w fun e w'=>e= .returned (.int .i64 (dX c))∧w'=w:=by
 cases hl:dE c
 ·cases hg:digB c
  ·cases hb:fQ c
   ·cases hs:cF c
    ·cases hm:gD c
     ·have:=xU c w hl hg hb (by rw [hs,hm];rfl);have F:dX c=0:=by simp [dX,hl,hg,hb,hs,hm]
      rw [F];exact this
     ·have F:dX c=4:=by simp [dX,hl,hg,hb,hs,hm]
      rw [F];simp [gD,marks] at hm
      rcases hm with rfl | rfl | rfl | rfl | rfl | rfl | rfl | rfl
      ·exact kind_m94 w
      ·exact kind_m46 w
      ·exact kind_m59 w
      ·exact kind_m40 w
      ·exact kind_m41 w
      ·exact kind_m91 w
      ·exact kind_m93 w
      ·exact xT w
    ·have F:dX c=3:=by simp [dX,hl,hg,hb,hs]
     rw [F];simp [cF,signs] at hs
     rcases hs with rfl | rfl | rfl | rfl | rfl | rfl | rfl | rfl | rfl | rfl | rfl | rfl
     ·exact kind_s43 w
     ·exact kind_s45 w
     ·exact kind_s42 w
     ·exact kind_s47 w
     ·exact kind_s60 w
     ·exact kind_s62 w
     ·exact kind_s61 w
     ·exact xS w
     ·exact kind_s44 w
     ·exact kind_s64 w
     ·exact kind_s38 w
     ·exact kind_s37 w
   ·have F:dX c=5:=by simp [dX,hl,hg,hb]
    rw [F];simp [fQ] at hb
    rcases hb with ((rfl | rfl) | rfl) | rfl
    ·exact kind_b9 w
    ·exact kind_b10 w
    ·exact kind_b13 w
    ·exact kind_b32 w
  ·exact kind_dig c w hl hg
 ·exact kind_let c w hl
def atV (s:ByteArray) (i:Nat):Int:=if h:i<s.size then dX s[i] else -1
theorem dF (s:ByteArray) (i:Nat) (w:World) (hs:s.size≤100000):Calls Tryz.prog 64 #[.string s,.int .i64 i] w fun e w'=>e= .returned (.int .i64 (atV s i))∧w'=w:=by
 by_cases h:i<s.size
 ·have F:Hid (atV s i=dX s[i]):=dif_pos h;have d:decide (s.size≤i)=false:=aK I;have d':decide ((s.size:Int)≤(i:Int))=false:=aK I;have b1:(0:Int)≤(i:Int):=I;have b2:(i:Int)<(s.size:Int):=I;go_enter Tryz.func64,Tryz.ntmps64;go_wp2_with (go_at_call 63;(with_reducible refine (nD _ _).mono ?_);rintro e w' ⟨rfl,rfl⟩);go_ret;exact ⟨cI F.out.symm,rfl⟩
 ·have F:Hid (atV s i= -1):=dif_neg h;have d:decide (s.size≤i)=true:=aD I;have d':decide ((s.size:Int)≤(i:Int))=true:=aD I;go_enter Tryz.func64,Tryz.ntmps64;go_wp2;go_ret;exact ⟨cI F.out.symm,rfl⟩
theorem kind_aln (c:UInt8):rI c=(dX c==1 || dX c==2):=by
 unfold rI dX
 cases dE c
 ·cases digB c
  ·cases fQ c
   ·cases cF c
    ·cases gD c <;> rfl
    ·rfl
   ·rfl
  ·rfl
 ·rfl
theorem at_aln (s:ByteArray) (i:Nat):hd rI (s.data.toList.drop i)=(atV s i==1 || atV s i==2):=by
 unfold atV
 by_cases h:i<s.size
 ·rw [dif_pos h,mS h,kind_aln]
 ·rw [dif_neg h,nO I];rfl
theorem Z47 {P:Prop} (h:P:=by
 clear h2;go_wp2_with (go_at_call 64;(with_reducible refine (dF _ _ _ hs).mono ?_);rw [HA.out];rintro e w' ⟨rfl,rfl⟩)
 go_round
 case rel=>exact ⟨k+1,by omega,by have:=HQ.out;subst this;rfl⟩
 case measure=>have:=HQ.out;simp [intOf];omega):P:=h
theorem lO (s:ByteArray) (i:Nat) (w:World) (hs:s.size≤100000) (hi:i≤s.size):Calls Tryz.prog 65 #[.string s,.int .i64 i] w fun e w'=>e= .returned (.int .i64 ((i+bA (s.data.toList.drop i):Nat):Int))∧w'=w:=by
 obtain ⟨n,hn⟩:=aE (bA (s.data.toList.drop i));have HN:=J hn;have hbn:=mT s i hi;rw [hn] at hbn ⊢;clear hn;go_enter Tryz.func65,Tryz.ntmps65;go_wp2
 go_loop [1] (fun x=>∃k:Nat,k≤n∧x= .int .i64 ((i+k:Nat):Int)) (fun x=>i+n-(intOf x).toNat)
 case atStart=>exact ⟨0,by omega,rfl⟩
 case round=>
  obtain ⟨k,hk,rfl⟩:=hrel;obtain ⟨q,hq⟩:∃q,q=i+k:=⟨_,rfl⟩;have hstep:=rl_succ (p:=rI) (l:=s.data.toList.drop i) (m:=s.size+1) (k:=k) (by unfold rl;have:=HN.out;unfold bA at this;rw [this];omega);have hrl:rl rI (s.data.toList.drop i) (s.size+1)=n:=by unfold rl;have:=HN.out;unfold bA at this;rw [this];omega
  rw [hrl,List.drop_drop,at_aln,←hq] at hstep;rw [←hq];have HQ:=J hq;obtain ⟨a,ha⟩:=aE (atV s q);rw [ha] at hstep;have HA:=J ha;clear hq hrl ha;have hqb:q≤100000:=by have:=HQ.out;omega
  by_cases hlt:k<n
  ·have h2:=(hstep.1 hlt).2;have hlt2:k+1≤n:=hlt;clear hstep hlt
   cases a1:a==1
   ·have a2:(a==2)=true:=by rw [a1] at h2;simpa using h2
    exact Z47
   ·exact Z47
  ·have hkn:k=n:=I;have h2:(a==1 || a==2)=false:=by
    cases hh:(a==1 || a==2)
    ·rfl
    ·exact absurd (hstep.2 ⟨by omega,hh⟩) hlt
   have HK:=J hkn;clear hstep hlt hkn;have a1:(a==1)=false:=(Bool.or_eq_false_iff.1 h2).1;have a2:(a==2)=false:=(Bool.or_eq_false_iff.1 h2).2;clear h2;go_wp2_with (go_at_call 64;(with_reducible refine (dF _ _ _ hs).mono ?_);rw [HA.out];rintro e w' ⟨rfl,rfl⟩);go_ret;exact ⟨by have:=HQ.out;have:=HK.out;subst_vars;rfl,rfl⟩
end Go.Proofs.YtnojndgmgkgnpaaGreat.Lx
