/- The law CompileOwns of chapter 10 holds for every input: it returns true, and its arguments stay. No conditions. -/
import Derived.Test.YtnojndgmgkgnpaaGreatRows
import Derived.Test.YtnojndgmgkgnpaaGreatQ30
import Derived.WalkKit
import Derived.ProofKit
import Derived.OpenShut
import Derived.ShutString
import Derived.ChangeOld
import Derived.ChangeMaps5
import Derived.LoopN
import Derived.WalkMore
import Derived.Deep.DeepCutAuto
import Derived.Deep.CutRange
import Derived.Deep.RegionLaw
import Derived.Deep.RegionHeld3
import Derived.Laws.IdiomStrings
import Derived.Below
namespace Go.Proofs.YtnojndgmgkgnpaaGreat.compileOwns
open Go.ChangeShapes Go.WideShapes Go.ChangeAt Go.RowKit Go.Deep Go.Joins
set_option linter.unusedVariables false
set_option linter.unusedSimpArgs false
theorem own:ownKnob Tryz.prog.godebug=none:=by kernel_rfl
theorem laidOut:laidOutB Tryz.prog=true:=by kernel_rfl
set_option maxRecDepth 100000 in
set_option maxHeartbeats 40000000 in
theorem walk (w:World) (s0:ByteArray) (z0:s0.size≤9223372036854775807) (p1:Option Addr) (l1:List ByteArray) (c1:Nat) (b1:l1.length≤c1∧c1≤maxLen) (t1:Strs w (fun _=>True) p1 l1):
  Calls Tryz.prog 4 #[.string s0,.slice p1 l1.length c1] w fun e w'=>e= .returned (.bool true)∧Below w.heap.size w w':=by
 have zf:=cut_le s0
 obtain ⟨s,hs⟩:=aE (cut5 s0)
 have HS:=J hs
 rw [hs] at zf
 obtain ⟨⟨x,a,er⟩,hr⟩:=aE (eC s true)
 have HRD:Hid (∀W,Calls Tryz.prog 11 #[.string s,.bool true] W fun e w'=>∃q,e= .returned (.tuple #[ndV x q,.int .i64 a,.int .i64 er])∧Below W.heap.size W w'∧IsNd w' (fun _=>True) x q):=J (fun W=>read_no hr (by omega) W)
 unfold ndV at HRD
 have HSZ:Hid (x.size≤100000):=J (by have h1:=vW s true zf;rw [hr] at h1;exact h1)
 have HW:Hid (Below w.heap.size w w):=J (Below.refl _ _)
 have HT1:=J t1
 have HL1':Hid (l1.length≤9223372036854775807):=J (by have:=b1;unfold maxLen at this;omega)
 clear t1 b1
 obtain ⟨ln,hln⟩:=aE l1.length
 rw [hln] at HL1' ⊢
 have HLN1:=J hln
 have HFW:Hid (∀W',Below w.heap.size w W'→Calls Tryz.prog 7 #[.slice p1 ln c1] W' fun e w'=>∃A m c',e= .returned (.slice A m c')∧(sB l1).length=m∧m≤c'∧c'≤maxLen∧Strs w' (fun b=>W'.heap.size≤b) A (sB l1)∧Below W'.heap.size W' w'):=J (fun W' h=>few_any (mQ HT1.out h) HLN1.out HL1'.out)
 obtain ⟨b5,hb5⟩:∃b,decide ((500:Int)<(s0.size:Int))=b:=⟨_,rfl⟩
 have hb6:decide (500<s0.size)=b5:=by rw [←hb5];congr 1;apply propext;omega
 clear hs hr hln
 go_enter Tryz.func4,Tryz.ntmps4
 go_upto_if 27 with fail
 go_cut [0] (fun v0 wx=>v0= .string s∧wx=w)
 case first=>
  cases b5 with
  | true=>
   have h5:500<s0.size:=of_decide_eq_true hb6
   have b1:(500:Int)≤(s0.size:Int):=by omega
   have b2:500≤s0.size:=by omega
   have e9:s0.extract 0 500=s:=by rw [←HS.out];unfold cut5;rw [if_pos h5]
   clear h5
   go_wp2_with fail
   go_meet
   exact ⟨by rw [←e9],rfl⟩
  | false=>
   have e9:s0=s:=by rw [←HS.out];unfold cut5;rw [if_neg (of_decide_eq_false hb6)]
   go_wp2_with fail
   go_meet
   exact ⟨by rw [←e9],rfl⟩
 case rest=>
  obtain ⟨rfl,hw'⟩:=hcut
  replace hw':=hw'.symm
  subst hw'
  clear hb5 hb6
  go_upto_if 34 with (first | (go_at_call 7;(with_reducible refine (HFW.out _ bel).mono ?_);rintro e w1 ⟨A,n,c,rfl,hn,h1,h2,hst,hb1⟩;have hs9:=(bz w).trans (hb1.mono (bz w).size);have HWn:=J (HW.out.trans (hs9.mono HW.out.size));clear HW hs9 hb1;have HW:=HWn;clear HWn;have HST:=J hst;have HLN:=J hn;have HCN:Hid (n≤c∧c≤maxLen):=J ⟨h1,h2⟩;clear hst hn h1 h2))
  obtain ⟨n8,hn8⟩:=aE (min n 8)
  have HN8:=J hn8
  obtain ⟨b8,hb8⟩:∃b,decide ((8:Int)<(n:Int))=b:=⟨_,rfl⟩
  have HB8:=J hb8
  rw [hb8]
  clear hb8
  go_cut [1] (fun v0 wx=>v0= .slice A n8 c∧wx=w1)
  case first=>
   have hcn:=HCN.out
   have hb8:=HB8.out
   cases b8 with
   | true=>
    have h8:8<n:=by have:=of_decide_eq_true hb8;omega
    have e9:n8=8:=by rw [←HN8.out];omega
    subst e9
    obtain ⟨b,off,rfl,zz1,zz2,zz3,zz4⟩:=HST.out 0 (by rw [HLN.out];omega)
    have b2:(8:Int)≤(c:Int):=by omega
    have b3:8≤c:=by omega
    clear zz1 zz2 zz3 zz4 h8 hcn hb8
    go_wp2_with fail
    go_meet
    exact ⟨rfl,rfl⟩
   | false=>
    have h8:¬8<n:=by have:=of_decide_eq_false hb8;omega
    have e9:n8=n:=by rw [←HN8.out];omega
    subst e9
    clear h8 hcn hb8
    go_wp2_with fail
    go_meet
    exact ⟨rfl,rfl⟩
  case rest=>
   obtain ⟨rfl,hw'⟩:=hcut
   replace hw':=hw'.symm
   subst hw'
   obtain ⟨fs,hfs⟩:=aE ((sB l1).take 8)
   have HFL:Hid (fs.length=n8∧n8≤9223372036854775807):=J (by rw [←hfs,List.length_take,HLN.out,←hn8];have:=HCN.out;unfold maxLen at this;omega)
   have HFS:Hid (Strs w1 (fun _=>True) A fs):=J (by rw [←hfs];exact (yZ HST.out 8).same aR (fun _ _ _=>rfl) (fun _ _=>trivial))
   clear hn8 hfs HN8 HST HLN HCN HFW HT1 HL1' HLN1
   by_cases he:er=0
   ·subst he
    go_upto_region 7 with (first | (go_at_call 11;(with_reducible refine (HRD.out _).mono ?_);rintro e w2 ⟨q,rfl,hb2,hn2⟩;have hs9:=(bz w1).trans (hb2.mono (bz w1).size);have HB2:=J hs9;have HWn:=J (HW.out.trans (hs9.mono HW.out.size));clear HW hs9 hb2;have HW:=HWn;clear HWn;have HX:=J hn2;clear hn2))
    have hal:=(Below.refl w2.heap.size w2).alloc aR (.cells #[.int .i64 x.kind,.string x.text,.int .i64 x.num,.slice q.pn x.names.length q.cn,.slice q.pt x.temps.length q.ct,.slice q.pk x.kids.length q.ck] 25)
    have hbm:=heap_alloc_new w2 (.cells #[.int .i64 x.kind,.string x.text,.int .i64 x.num,.slice q.pn x.names.length q.cn,.slice q.pt x.temps.length q.ct,.slice q.pk x.kids.length q.ck] 25)
    obtain ⟨w2b,hwe⟩:∃z,w2.alloc (.cells #[.int .i64 x.kind,.string x.text,.int .i64 x.num,.slice q.pn x.names.length q.cn,.slice q.pt x.temps.length q.ct,.slice q.pk x.kids.length q.ck] 25)=z:=⟨_,rfl⟩
    rw [hwe] at hal hbm ⊢
    have HLX:=J hal
    have HBBX:=J hbm
    have HWn:=J (HW.out.trans (hal.mono HW.out.size))
    clear HW hwe hal hbm
    have HW:=HWn
    clear HWn
    go_upto_region 10 with (first | (go_at_call 11;(with_reducible refine (HRD.out _).mono ?_);rintro e w3 ⟨q',rfl,hb3,hn3⟩;have hs9:=(bz w2b).trans (hb3.mono (bz w2b).size);have HB3:=J hs9;have HWn:=J (HW.out.trans (hs9.mono HW.out.size));clear HW hs9 hb3;have HW:=HWn;clear HWn;have HY:=J hn3;clear hn3))
    have hal:=(Below.refl w3.heap.size w3).alloc aR (.cells #[.int .i64 x.kind,.string x.text,.int .i64 x.num,.slice q'.pn x.names.length q'.cn,.slice q'.pt x.temps.length q'.ct,.slice q'.pk x.kids.length q'.ck] 25)
    have hbm:=heap_alloc_new w3 (.cells #[.int .i64 x.kind,.string x.text,.int .i64 x.num,.slice q'.pn x.names.length q'.cn,.slice q'.pt x.temps.length q'.ct,.slice q'.pk x.kids.length q'.ck] 25)
    obtain ⟨w3b,hwe⟩:∃z,w3.alloc (.cells #[.int .i64 x.kind,.string x.text,.int .i64 x.num,.slice q'.pn x.names.length q'.cn,.slice q'.pt x.temps.length q'.ct,.slice q'.pk x.kids.length q'.ck] 25)=z:=⟨_,rfl⟩
    rw [hwe] at hal hbm ⊢
    have HLY:=J hal
    have HBBY:=J hbm
    have HWn:=J (HW.out.trans (hal.mono HW.out.size))
    clear HW hwe hal hbm
    have HW:=HWn
    clear HWn
    have hbx:=((HB3.out.trans (HLY.out.mono HB3.out.size)).block _ (aA HBBX.out)).trans HBBX.out
    obtain ⟨a0,a1,a2,a3,a4,a5⟩:=cc6 (hbx)
    obtain ⟨⟨m,nm,fe⟩,hm⟩:=aE (eW x.size x fs false)
    have HM:=J hm
    have HCL:Hid (m.code.length≤400∧m.lits.length≤60):=J (yX hm)
    have HMT0:Hid (∀W',Below w3b.heap.size w3b W'→Calls Tryz.prog 8 #[.agg #[.int .i64 x.kind,.string x.text,.int .i64 x.num,.slice q.pn x.names.length q.cn,.slice q.pt x.temps.length q.ct,.slice q.pk x.kids.length q.ck],.slice A n8 c] W' (yP m nm fe W')):=J (fun W' h=>by
     have h3:Below w3.heap.size w3 W':=HLY.out.trans (h.mono HLY.out.size)
     have h2b:Below w2b.heap.size w2b W':=HB3.out.trans (h3.mono HB3.out.size)
     have h2:Below w2.heap.size w2 W':=HLX.out.trans (h2b.mono HLX.out.size)
     have h1:Below w1.heap.size w1 W':=HB2.out.trans (h2.mono HB2.out.size)
     exact (pJ (HX.out.under h2) (mQ HFS.out h1) HFL.out.1 HFL.out.2 HSZ.out).mono (fun e w' h=>by rw [HM.out] at h;exact h.met))
    have HMT:=HMT0
    have HW3:=HW
    have HXB3:=J hbx
    clear hm hbx
    go_upto_region 11 with (first | (go_at_call 8;(with_reducible refine (HMT.out _ bel).mono ?_);rintro e w4 ⟨Al,nl,cl,Ac,nc,cc,D,ps,rfl,hl1,hl2,hl3,hl4,hl5,hl6,htd,hb4⟩;have hs9:=(bz w3b).trans (hb4.mono (bz w3b).size);have HB4:=J hs9;have HWn:=J (HW.out.trans (hs9.mono HW.out.size));clear HW hs9 hb4;have HW:=HWn;clear HWn;have HL1:=J hl1;have HL2:=J hl2;have HTD:=J htd;clear hl1 hl2 hl3 hl4 hl5 hl6 htd))
    have hal:=(Below.refl w4.heap.size w4).alloc aR (.cells #[.string m.sel,.int .i64 (m.args:Int),.int .i64 (m.temps:Int),.int .i64 m.prim,.slice Al nl cl,.slice Ac nc cc] 32)
    have hbm:=heap_alloc_new w4 (.cells #[.string m.sel,.int .i64 (m.args:Int),.int .i64 (m.temps:Int),.int .i64 m.prim,.slice Al nl cl,.slice Ac nc cc] 32)
    obtain ⟨w4b,hwe⟩:∃z,w4.alloc (.cells #[.string m.sel,.int .i64 (m.args:Int),.int .i64 (m.temps:Int),.int .i64 m.prim,.slice Al nl cl,.slice Ac nc cc] 32)=z:=⟨_,rfl⟩
    rw [hwe] at hal hbm ⊢
    have HLA:=J hal
    have HBBA:=J hbm
    have HWn:=J (HW.out.trans (hal.mono HW.out.size))
    clear HW hwe hal hbm
    have HW:=HWn
    clear HWn
    have HHL1:=HL1.out
    have hn60:nl≤9223372036854775807:=by have:=HCL.out.2;omega
    have hn400:nc≤9223372036854775807:=by have:=HCL.out.1;have:=HL2.out;omega
    have HZ0:Hid (ZC w4b Ac nc cc w4b):=J (HTD.out.zc HL2.out HLA.out)
    have hmb:=HBBA.out
    obtain ⟨b0,b1,b2,b3,b4,b5⟩:=cc6 (hmb)
    clear hmb HHL1 a0 a1 a2 a3 a4 a5 HMT
    go_wp2_with fail
    go_loopw [14] (fun i wr=>∃k:Nat,i= .int .i64 k∧k≤nc∧ZC w4b Ac nc cc wr) (fun i _=>nc-(intOf i).toNat)
    case atStart=>exact ⟨0,rfl,Nat.zero_le _,HZ0.out⟩
    case round=>
     obtain ⟨k,rfl,hk,hz⟩:=hrel
     have HZ:=J hz
     have hmb:=HTD.out.keepC hz aR HBBA.out
     clear b0 b1 b2 b3 b4 b5
     obtain ⟨b0,b1,b2,b3,b4,b5⟩:=cc6 (hmb)
     clear hmb
     by_cases hlt:k<nc
     ·have d1:=aD hlt
      have d2:=aT hlt
      obtain ⟨g,hAc,⟨u0,u1,u2,e0,e1,e2⟩,⟨f0,f1,f2⟩,hgl⟩:=hz.at_ hlt
      have g0:(0:Int)≤(k:Int):=by omega
      have g1:(k:Int)<(nc:Int):=by omega
      have HLT:=J hlt
      have HAC:=J hAc
      rw [hAc] at b5
      clear hlt hz hAc
      go_wp2_with fail
      go_roundw
      case rel=>exact ⟨k+1,by go_num,HLT.out,HZ.out.next HLT.out HAC.out _ _ _⟩
      case measure=>simp [intOf];have:=HLT.out;omega
     ·have hkn:nc=k:=by omega
      have d1:=aK hlt
      have d2:=aF hlt
      clear hlt hk hz
      subst hkn
      rename World=>w5
      have HZC:=HZ
      have HZL0:Hid (ZL w5 Al nl cl D ps 0 w5):=J (HTD.out.zl HL1.out HLA.out HZC.out)
      clear HZ
      go_wp2_with fail
      go_loopw [15] (fun i wr=>∃k:Nat,i= .int .i64 k∧k≤nl∧ZL w5 Al nl cl D ps k wr) (fun i _=>nl-(intOf i).toNat)
      case atStart=>exact ⟨0,rfl,Nat.zero_le _,HZL0.out⟩
      case round=>
       obtain ⟨k,rfl,hk,hz⟩:=hrel
       rename World=>wo
       have HZ:=J hz
       have hmb:=HTD.out.keepL hz aR (HTD.out.keepC HZC.out aR HBBA.out)
       clear b0 b1 b2 b3 b4 b5
       obtain ⟨b0,b1,b2,b3,b4,b5⟩:=cc6 (hmb)
       clear hmb
       by_cases hlt:k<nl
       ·have d1:=aD hlt
        have d2:=aT hlt
        obtain ⟨g,hAl,z8,z9⟩:=hz.at_ hlt
        clear z8 z9
        have hkp:k<ps.length:=by rw [hz.len];exact hlt
        obtain ⟨p,hp⟩:=aE (ps[k])
        have HPM:Hid (p∈ps):=J (by rw [←hp];exact List.getElem_mem hkp)
        obtain ⟨nk,hnk⟩:=aE p.1.kids_.length
        have HNK:=J hnk
        have HLT:=J hlt
        have HAL:=J hAl
        have HAT:Hid (∀wq,ZL w5 Al nl cl D ps k wq→(wq.cell? ⟨g,k*4,none⟩=some (.int .i64 p.1.kind_)∧wq.cell? ⟨g,k*4+1,none⟩=some (.string p.1.text_)∧wq.cell? ⟨g,k*4+2,none⟩=some (.int .i64 p.1.num_)∧wq.cell? ⟨g,k*4+3,none⟩=some (.slice p.2.p nk p.2.c))∧Four wq g (k*4)):=J (fun wq hq=>by
         obtain ⟨g2,h2,hc,hf⟩:=hq.at_ hlt
         rw [hAl] at h2
         cases h2
         rw [hp] at hc
         exact ⟨⟨hc.c0,hc.c1,hc.c2,by rw [←hnk];exact hc.c3⟩,hf⟩)
        have hnkm:nk≤9223372036854775807:=by
         rw [←hnk,←hp]
         have h9:=(HTD.out.lits.lits _ (List.getElem_mem hkp)).ok.klen
         unfold maxLen at h9
         omega
        have g0:(0:Int)≤(k:Int):=by omega
        have g1:(k:Int)<(nl:Int):=by omega
        clear hlt hp hkp hnk hAl hz
        go_wp2_with fail
        clear b0 b1 b2 b3 b4 b5
        go_loopw [16] (fun j wr=>∃i:Nat,j= .int .i64 i∧i≤nk∧ZL w5 Al nl cl D ps k wr) (fun j _=>nk-(intOf j).toNat)
        case atStart=>exact ⟨0,rfl,Nat.zero_le _,HZ.out⟩
        case round=>
         obtain ⟨i,rfl,hi,hz⟩:=hrel
         have HZ2:=J hz
         have hmb:=HTD.out.keepL hz aR (HTD.out.keepC HZC.out aR HBBA.out)
         obtain ⟨b0,b1,b2,b3,b4,b5⟩:=cc6 (hmb)
         obtain ⟨⟨e0,e1,e2,e3⟩,hf4⟩:=HAT.out wr hz
         have hgl:=hf4.lt
         rw [HAL.out] at b4
         by_cases hit:i<nk
         ·have d3:=aD hit
          have d4:=aT hit
          have hik:i<p.1.kids_.length:=by rw [HNK.out];exact hit
          obtain ⟨b,cur,hpb,hbb,hDb,hsz⟩:=hz.kids p HPM.out i hik
          obtain ⟨_,⟨u0,u1,u2,u3,k0,k1,k2,k3⟩,⟨f0,f1,f2,f3⟩,hbl⟩:=(hz.kids p HPM.out).at_ hik hpb
          rw [hpb] at e3
          have g2:(0:Int)≤(i:Int):=by omega
          have g3:(i:Int)<(nk:Int):=by omega
          have HIT:=J hit
          have HIK:=J hik
          have HPB:=J hpb
          clear hit hik hpb hbb hDb hsz hmb hz hf4
          go_wp2_with fail
          go_roundw
          case rel=>exact ⟨i+1,by go_num,HIT.out,HZ2.out.kid HPM.out HIK.out HPB.out _ _ _ _⟩
          case measure=>simp [intOf];have:=HIT.out;omega
         ·have hik:i=nk:=by omega
          have d3:=aK hit
          have d4:=aF hit
          obtain ⟨⟨u0,u1,u2,u3,k0,k1,k2,k3⟩,⟨f0,f1,f2,f3⟩,hbl⟩:=hf4
          clear hit hik hmb hz k0 k1 k2 k3
          go_wp2_with fail
          go_roundw
          case rel=>exact ⟨k+1,by go_num,HLT.out,HZ2.out.next HLT.out HAL.out _ _ _ _⟩
          case measure=>simp [intOf];have:=HLT.out;omega
       ·have hkn:nl=k:=by omega
        have d1:=aK hlt
        have d2:=aF hlt
        clear hlt hk hz
        subst hkn
        rename World=>w6
        have h36:Below w3b.heap.size w3b w6:=(HB4.out.trans (HLA.out.mono HB4.out.size)).trans (HTD.out.keepB (Nat.le_trans HB4.out.size HLA.out.size) HZC.out HZ.out)
        have HP:=J h36
        clear HW
        have HW:=J (HW3.out.trans (h36.mono HW3.out.size))
        have HMT2:Hid (∀W',Below w6.heap.size w6 W'→Calls Tryz.prog 8 #[.agg #[.int .i64 x.kind,.string x.text,.int .i64 x.num,.slice q.pn x.names.length q.cn,.slice q.pt x.temps.length q.ct,.slice q.pk x.kids.length q.ck],.slice A n8 c] W' (yP m nm fe W')):=J (fun W' h=>HMT0.out W' (h36.trans (h.mono h36.size)))
        have hbx:=(h36.block _ (aA HXB3.out)).trans HXB3.out
        obtain ⟨a0,a1,a2,a3,a4,a5⟩:=cc6 (hbx)
        clear hbx h36 HTD HZ HZC HZL0 HZ0 HMT0
        go_upto_region 24 with (first | (go_at_call 8;(with_reducible refine (HMT2.out _ bel).mono ?_);rintro e w7 ⟨Al2,nl2,cl2,Ac2,nc2,cc2,D2,ps2,rfl,hl1,hl2,hl3,hl4,hl5,hl6,htd,hb7⟩;obtain rfl:nl=nl2:=HL1.out.symm.trans hl1;obtain rfl:nc=nc2:=HL2.out.symm.trans hl2;have hs9:=(bz w6).trans (hb7.mono (bz w6).size);have HWn:=J (HW.out.trans ((hs9).mono HW.out.size));clear HW;have HW:=HWn;clear HWn;have HPn:=J (HP.out.trans ((hs9).mono HP.out.size));clear HP;have HP:=HPn;clear HPn;clear hs9 hb7;have HL1b:=J hl1;have HL2b:=J hl2;have HTD2:=J htd;clear hl1 hl2 hl3 hl4 hl5 hl6 htd))
        clear HL1 HL2
        have hal:=(Below.refl w7.heap.size w7).alloc aR (.cells #[.string m.sel,.int .i64 (m.args:Int),.int .i64 (m.temps:Int),.int .i64 m.prim,.slice Al2 nl cl2,.slice Ac2 nc cc2] 32)
        have hbm:=heap_alloc_new w7 (.cells #[.string m.sel,.int .i64 (m.args:Int),.int .i64 (m.temps:Int),.int .i64 m.prim,.slice Al2 nl cl2,.slice Ac2 nc cc2] 32)
        obtain ⟨w7b,hwe⟩:∃z,w7.alloc (.cells #[.string m.sel,.int .i64 (m.args:Int),.int .i64 (m.temps:Int),.int .i64 m.prim,.slice Al2 nl cl2,.slice Ac2 nc cc2] 32)=z:=⟨_,rfl⟩
        rw [hwe] at hal hbm ⊢
        have HLB:=J hal
        have HBBB:=J hbm
        have HWn:=J (HW.out.trans ((hal).mono HW.out.size))
        clear HW
        have HW:=HWn
        clear HWn
        have HPn:=J (HP.out.trans ((hal).mono HP.out.size))
        clear HP
        have HP:=HPn
        clear HPn
        clear hwe hal hbm
        have hby:=(HP.out.block _ (aA HBBY.out)).trans HBBY.out
        obtain ⟨d0,d1,d2,d3,d4,d5⟩:=cc6 (hby)
        clear hby a0 a1 a2 a3 a4 a5
        have HRF:Hid (∀W',Below w7b.heap.size w7b W'→Calls Tryz.prog 9 #[.agg #[.int .i64 x.kind,.string x.text,.int .i64 x.num,.slice q'.pn x.names.length q'.cn,.slice q'.pt x.temps.length q'.ct,.slice q'.pk x.kids.length q'.ck],.slice A n8 c,.bool false] W' (RetP m nl nc nm fe W')):=J (fun W' h=>by
         have h3b:Below w3b.heap.size w3b W':=HP.out.trans (h.mono HP.out.size)
         have h3:Below w3.heap.size w3 W':=HLY.out.trans (h3b.mono HLY.out.size)
         have h2b:Below w2b.heap.size w2b W':=HB3.out.trans (h3.mono HB3.out.size)
         have h2:Below w2.heap.size w2 W':=HLX.out.trans (h2b.mono HLX.out.size)
         have h1:Below w1.heap.size w1 W':=HB2.out.trans (h2.mono HB2.out.size)
         exact (Rf.rread_any (HY.out.under h3) (mQ HFS.out h1) HFL.out.1 HFL.out.2 HSZ.out false).mono (fun e w' h=>by rw [HM.out] at h;exact retP HL1b.out HL2b.out h))
        go_upto_region 25 with (first | (go_at_call 9;(with_reducible refine (HRF.out _ bel).mono ?_);rintro e w8 ⟨Bl,dl,Bc,dc,D',ps',rfl,hlr,hps,hcd,hb8⟩;have hs9:=(bz w7b).trans (hb8.mono (bz w7b).size);have HB8:=J hs9;have HWn:=J (HW.out.trans ((hs9).mono HW.out.size));clear HW;have HW:=HWn;clear HWn;have HPn:=J (HP.out.trans ((hs9).mono HP.out.size));clear HP;have HP:=HPn;clear HPn;clear hs9 hb8;have HLR2:=J hlr;have HPS2:=J hps;have HCD2:=J hcd;clear hlr hps hcd))
        have hal:=(Below.refl w8.heap.size w8).alloc aR (.cells #[.string m.sel,.int .i64 (m.args:Int),.int .i64 (m.temps:Int),.int .i64 m.prim,.slice Bl nl dl,.slice Bc nc dc] 32)
        have hbm:=heap_alloc_new w8 (.cells #[.string m.sel,.int .i64 (m.args:Int),.int .i64 (m.temps:Int),.int .i64 m.prim,.slice Bl nl dl,.slice Bc nc dc] 32)
        obtain ⟨w8b,hwe⟩:∃z,w8.alloc (.cells #[.string m.sel,.int .i64 (m.args:Int),.int .i64 (m.temps:Int),.int .i64 m.prim,.slice Bl nl dl,.slice Bc nc dc] 32)=z:=⟨_,rfl⟩
        rw [hwe] at hal hbm ⊢
        have HLC:=J hal
        have HBBC:=J hbm
        have HWn:=J (HW.out.trans ((hal).mono HW.out.size))
        clear HW
        have HW:=HWn
        clear HWn
        have HPn:=J (HP.out.trans ((hal).mono HP.out.size))
        clear HP
        have HP:=HPn
        clear HPn
        clear hwe hal hbm
        have hmb:=((HB8.out.trans (HLC.out.mono HB8.out.size)).block _ (aA HBBB.out)).trans HBBB.out
        have hmc:=HBBC.out
        obtain ⟨b0,b1,b2,b3,b4,b5⟩:=cc6 (hmb)
        obtain ⟨k0,k1,k2,k3,k4,k5⟩:=cc6 (hmc)
        clear hmb hmc d0 d1 d2 d3 d4 d5
        have HSA:Hid (∀W',Below w8b.heap.size w8b W'→Calls Tryz.prog 10 #[.agg #[.string m.sel,.int .i64 (m.args:Int),.int .i64 (m.temps:Int),.int .i64 m.prim,.slice Al2 nl cl2,.slice Ac2 nc cc2],.agg #[.string m.sel,.int .i64 (m.args:Int),.int .i64 (m.temps:Int),.int .i64 m.prim,.slice Bl nl dl,.slice Bc nc dc]] W' fun e w'=>e= .returned (.bool true)∧Below W'.heap.size W' w'):=J (fun W' h=>by
         have h8:Below w8.heap.size w8 W':=HLC.out.trans (h.mono HLC.out.size)
         have h7b:Below w7b.heap.size w7b W':=HB8.out.trans (h8.mono HB8.out.size)
         have h7:Below w7.heap.size w7 W':=HLB.out.trans (h7b.mono HLB.out.size)
         have ht:=HTD2.out
         have hps:ps2.map Prod.fst=m.lits:=ht.lps
         refine yW (nN ht.lits h7) (nN HLR2.out h8) (by have:=congrArg List.length hps;rw [List.length_map] at this;exact this.trans HL1b.out) (hps.trans HPS2.out.symm) (Tx.code_kept (ht.codeOf HL2b.out) h7) (Tx.code_kept HCD2.out h8) (by have h8:=HCL.out.1;have h9:=HL2b.out;omega) (by have h8:=HCL.out.2;have h9:=HL1b.out;omega))
        go_upto_region 26 with (first | (go_at_call 10;(with_reducible refine (HSA.out _ bel).mono ?_);rintro e w9 ⟨rfl,hb9⟩;have hs9:=(bz w8b).trans (hb9.mono (bz w8b).size);have HWn:=J (HW.out.trans ((hs9).mono HW.out.size));clear HW;have HW:=HWn;clear HWn;have HPn:=J (HP.out.trans ((hs9).mono HP.out.size));clear HP;have HP:=HPn;clear HPn;clear hs9 hb9))
        have hbx:=(HP.out.block _ (aA HXB3.out)).trans HXB3.out
        have hby:=(HP.out.block _ (aA HBBY.out)).trans HBBY.out
        obtain ⟨a0,a1,a2,a3,a4,a5⟩:=cc6 (hbx)
        obtain ⟨d0,d1,d2,d3,d4,d5⟩:=cc6 (hby)
        clear hbx hby b0 b1 b2 b3 b4 b5 k0 k1 k2 k3 k4 k5
        have HNS:Hid (∀W',Below w9.heap.size w9 W'→Calls Tryz.prog 12 #[.agg #[.int .i64 x.kind,.string x.text,.int .i64 x.num,.slice q.pn x.names.length q.cn,.slice q.pt x.temps.length q.ct,.slice q.pk x.kids.length q.ck],.agg #[.int .i64 x.kind,.string x.text,.int .i64 x.num,.slice q'.pn x.names.length q'.cn,.slice q'.pt x.temps.length q'.ct,.slice q'.pk x.kids.length q'.ck]] W' fun e w'=>e= .returned (.bool true)∧Below W'.heap.size W' w'):=J (fun W' h=>by
         have h3b:Below w3b.heap.size w3b W':=HP.out.trans (h.mono HP.out.size)
         have h3:Below w3.heap.size w3 W':=HLY.out.trans (h3b.mono HLY.out.size)
         have h2b:Below w2b.heap.size w2b w3:=HB3.out
         have h23:Below w2.heap.size w2 w3:=HLX.out.trans (h2b.mono HLX.out.size)
         exact yY (HX.out.under h23) _ _ HY.out W' h3)
        go_wp2_with (first | (go_at_call 12;(with_reducible refine (HNS.out _ bel).mono ?_);rintro e w10 ⟨rfl,hb10⟩;have hs9:=(bz w9).trans (hb10.mono (bz w9).size);have HWn:=J (HW.out.trans ((hs9).mono HW.out.size));clear HW;have HW:=HWn;clear HWn;have HPn:=J (HP.out.trans ((hs9).mono HP.out.size));clear HP;have HP:=HPn;clear HPn;clear hs9 hb10) | (go_at_call 6;(with_reducible refine (rC _).mono ?_);rintro e w9 ⟨rfl,hb9⟩;have hs9:=(bz w10).trans (hb9.mono (bz w10).size);have HWn:=J (HW.out.trans (hs9.mono HW.out.size));clear HW hs9 hb9;have HW:=HWn;clear HWn))
        go_ret
        exact ⟨rfl,HW.out⟩
   ·have x1:(er != 0)=true:=by simpa using he
    have x2:(er==0)=false:=by simpa using he
    clear he
    go_wp2_with (first | (go_at_call 11;(with_reducible refine (HRD.out _).mono ?_);rintro e w2 ⟨q,rfl,hb2,hn2⟩;have hs9:=(bz w1).trans (hb2.mono (bz w1).size);have HB2:=J hs9;have HWn:=J (HW.out.trans (hs9.mono HW.out.size));clear HW hs9 hb2;have HW:=HWn;clear HWn;have HX:=J hn2;clear hn2) | (go_at_call 6;(with_reducible refine (rC _).mono ?_);rintro e w9 ⟨rfl,hb9⟩;have hs9:=(bz w2).trans (hb9.mono (bz w2).size);have HWn:=J (HW.out.trans (hs9.mono HW.out.size));clear HW hs9 hb9;have HW:=HWn;clear HWn))
    go_ret
    exact ⟨rfl,HW.out⟩
/-! ### the row's step -/
set_option maxRecDepth 100000 in
theorem lifted (os:Os) (started:os.Started) (H:Type) (enc:TypeId×Value→H):
  ReturnsInHanded {} Tryz.checked os 4 .any (Rows.compileOwnsSpec.pre6 enc Tryz.prog Tryz.f4 Rows.compileOwnsRow.domain false) (Rows.compileOwnsSpec.post enc Tryz.prog Tryz.f4 false true false false):=by
 refine returnsInHanded_of_change (C:=Tryz.checked) own started (by kernel_rfl) Tryz.func4
  (ChangeSpec.witness6 (enc:=enc) (C:=Tryz.checked) false ⟨#[],#[.string ⟨#[]⟩,.slice none 0 0],[]⟩ 8 (by kernel_rfl) (by kernel_rfl) (by kernel_rfl) (by kernel_rfl)) ?_
 intro W base args ds gs before hval0 hW hcnd _
 have hval:∀(j:Nat) t v,Tryz.f4.params[j]? =some t→args[j]? =some v→Value.okWide Tryz.prog W .any base t v:=hval0
 have hW':=hW
 obtain ⟨p,q,hA0,hV,rfl,hfz,hnd⟩:=hW
 have hA:DataW.TrodAll enc Tryz.prog W 0 (fun _=>true) true Tryz.f4.params.toList args.toList ds p:=hA0
 rw [Tryz.params4] at hA hval
 obtain ⟨v0,vs0,d0,ds0,p0,q0,hargs,rfl,rfl,h0,r0⟩:=trodAll_cons hA
 obtain ⟨v1,vs1,d1,ds1,p1,q1,rfl,rfl,rfl,h1,r1⟩:=trodAll_cons r0
 obtain ⟨rfl,rfl,rfl⟩:=trodAll_nil r1
 obtain rfl:args=#[v0,v1]:=by cases args;simp_all
 obtain ⟨rfl,rfl⟩:=trodVars_none hV
 obtain ⟨s0,rfl,rfl,rfl,z0⟩:=Go.ChangeMaps.open_string Tryz.underlying9 (hval 0 9 v0 rfl rfl) h0
 have k1:=h1
 have lt1:∀x∈p1,x.block<W.heap.size:=by obtain ⟨m,hm⟩:=k1;exact DataW.trod_lt m _ _ _ hm
 obtain ⟨A1,c1,l1,rfl,bl1,bm1,t1⟩:=uG (hval 1 22 v1 rfl rfl) h1
 clear hA0 hval0
 refine (walk W _ (by have:=z0;unfold maxLen at this;exact this) _ _ _ ⟨bl1,bm1⟩ t1).mono fun e W' ⟨he,bel⟩=>?_
 subst he
 exact ⟨_,rfl,_,_,_,[],_,[],hW',trodAll_mk1 (shut_bool Tryz.underlying4 _),(trodAll_cons_mk (Go.ChangeMaps.shut_string Tryz.underlying9 z0) (trodAll_cons_mk (Below.trod laidOut (by kernel_rfl) (of_decide_eq_true (by kernel_rfl)) k1 bel lt1) trodAll_mk0)),rfl,bel.frame _,fun h=>by cases h⟩
theorem over:Rows.compileOwnsRow.holds Tryz.pinned (OpenSpec.ofChange Rows.compileOwnsSpec):=
 OpenClaim.holds_of_wide 4 Tryz.f4 rfl rfl rfl rfl rfl rfl rfl ⟨rfl,rfl,rfl,rfl,rfl⟩ rfl rfl rfl rfl rfl (by kernel_rfl) Tryz.func4 (by kernel_rfl)
  (of_decide_eq_true (by kernel_rfl)) (by unfold Func.isWrapper;first | (rw [if_pos (by decide+kernel)];kernel_rfl) | (rw [if_neg (by decide+kernel)];exact ⟨rfl,rfl⟩))
  (fun os started H enc _=>lifted os started H enc)
theorem proved : Rows.CompileOwnsSaid := over
end Go.Proofs.YtnojndgmgkgnpaaGreat.compileOwns
