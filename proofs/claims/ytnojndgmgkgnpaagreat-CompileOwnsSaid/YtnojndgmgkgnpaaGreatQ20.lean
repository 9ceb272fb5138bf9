/- Chapter 10: words and contracts for the law. -/
import Derived.Test.YtnojndgmgkgnpaaGreatQ16
import Derived.Test.YtnojndgmgkgnpaaGreatQ17
import Derived.Test.YtnojndgmgkgnpaaGreatQ15
import Derived.Test.YtnojndgmgkgnpaaGreatQ18
import Derived.Test.YtnojndgmgkgnpaaGreatQ19
import Derived.Test.YtnojndgmgkgnpaaGreatQ12
import Derived.Test.YtnojndgmgkgnpaaGreatQ00
set_option maxRecDepth 100000
set_option maxHeartbeats 40000000
set_option linter.unusedVariables false
set_option linter.unusedSimpArgs false
namespace Go.Proofs.YtnojndgmgkgnpaaGreat
open Go.ChangeShapes Go.WideShapes Go.ChangeAt Go.RowKit Go.Deep Go.Joins Go.Maps
structure Sw (w W:World) (pb:Nat) (v:Value) (T:Tks) (s:PSt) (vr:Value) (ps:List NP):Prop where
 pt:PT pb v T w W s
 pl:pb<w.heap.size
 row:NdRow W w.heap.size (fun b=>w.heap.size≤b) vr ps
section
variable {w W W1 w':World} {pb:Nat} {v:Value} {T:Tks} {s s':PSt} {vr:Value} {ps:List NP}
theorem Sw.own (h:Sw w W pb v T s vr ps):∀k,vr.ownBlock=some k→w.heap.size≤k∧k<W.heap.size:=fun k hk=>World.ownsRow.lt h.row.own k hk
theorem Sw.fresh (h:Sw w W pb v T s vr ps):∀b,W.heap.size≤b→w.heap.size≤b∧vr.ownBlock≠some b:=fun b hb=>⟨Nat.le_trans h.pt.2.size hb,fun e=>by have:=(h.own b e).2;omega⟩
theorem Sw.below (h:Sw w W pb v T s vr ps) (hb:Below W.heap.size W w'):Sw w w' pb v T s vr ps:=⟨h.pt.below hb,h.pl,h.row.below hb⟩
theorem Sw.go (h:Sw w W pb v T s vr ps) (hb:Below W.heap.size W W1) (hx:PT pb v T W1 w' s'):Sw w w' pb v T s' vr ps:=
 ⟨(h.pt.below hb).go hx,h.pl,PT.keepR h.pt.1 hb hx h.row (fun b z=>by have:=h.pl;omega)⟩
theorem Sw.push (h:Sw w W pb v T s vr ps) {ps':List NP} {v':Value} (hb:Below W.heap.size W W1) (hr:NdRow w' w.heap.size (fun b=>w.heap.size≤b) v' ps') (ht:Turns (fun k=>vr.ownBlock=some k) W1 w') (hv:∀k,v.ownBlock=some k→k<w.heap.size):Sw w w' pb v T s v' ps':=
 ⟨(h.below hb).pt.turned ht (fun k e=>by have:=(h.own k e).1;exact ⟨this,by have:=h.pl;omega,fun q=>by have:=hv k q;omega⟩),h.pl,hr⟩
theorem Sw.told (h:Sw w W pb v T s vr ps):RowP pb v T (ps.map Prod.fst,s) w (.returned vr) W:=by
 obtain ⟨A,c,e,e2,e3⟩:=h.row.slice;refine ⟨A,c,by rw [e,List.length_map],by rw [List.length_map];exact e2,e3,h.pt,(fun i=>if h:i<ps.length then ps[i].2 else ⟨none,0,none,0,none,0⟩),fun i hi=>?_,fun i hi=>?_⟩
 ·have hl:i<ps.length:=Y106;obtain ⟨b,c2,f1,f2,f3,f4⟩:=h.row.at_ hl;rw [e] at f1
  cases f1
  refine ⟨b,0,rfl,f2,f3,?_⟩;dsimp only;rw [dif_pos hl,List.getElem_map,Nat.zero_add];exact f4
 ·have hl:i<ps.length:=Y106;dsimp only;rw [dif_pos hl,List.getElem_map];exact (h.row.nds _ (List.getElem_mem hl)).more (fun b z _=>z.1)
end
theorem pT {w W:World} {pb:Nat} {v:Value} {T:Tks} {s:PSt} {vr:Value} {ps:List NP} {p:NP} (h:Sw w W pb v T s vr (ps++[p])):RowP pb v T (ps.map Prod.fst++[p.1],s) w (.returned vr) W:=by
 have h9:=h.told;rw [List.map_append] at h9;exact h9
theorem stm_step {n g i j:Nat} (h:n<g+i) (h1:0<g) (h2:i≤j):n<(g-1)+(j+1):=I
theorem stmts_go {f:Nat} {w:World} {pb:Nat} {v:Value} {T:Tks} {s:PSt} (hp:PSpec T f) (h:PW w pb v T s) (hok:TokOk T) (hi:s.i≤T.length) (hfu:8*(T.length-s.i)+6<f+1):Calls Tryz.prog 26 #[.pointer (some ⟨pb,0,none⟩)] w (RowP pb v T (mE T (rcF T f) s) w):=by
 have HOK:=J hok;have HI:=J hi;have HFU:Hid (8*(T.length-s.i)+6<f+1):=J hfu;have HOG:Hid (∀k,v.ownBlock=some k→k<w.heap.size):=J (fun k e=>(World.ownsRow.lt h.row k e).2);have HM0:Hid (Sw w w pb v T s (.slice none 0 0) []):=J ⟨h.pt,aA h.box,NdRow.nil _ _ _⟩;clear h hok hi hfu;go_enter Tryz.func26,Tryz.ntmps26;go_wp2_with fail
 go_loopg [3] (T.length+1) (fun g v3 wr=>∃(A:Option Addr) (n c:Nat) (ps:List NP) (sk:PSt),v3= .slice A n c∧ps.length=n∧Sw w wr pb v T sk (.slice A n c) ps∧dY T (rcF T f) (T.length+1) [] s=dY T (rcF T f) g (ps.map Prod.fst) sk∧T.length<g+sk.i∧sk.i≤T.length∧ps.length≤sk.i∧s.i≤sk.i)
 case atStart=>exact ⟨none,0,0,[],s,rfl,rfl,HM0.out,rfl,by omega,HI.out,Nat.zero_le _,Nat.le_refl _⟩
 case round=>
  obtain ⟨A,n,c,ps,sk,rfl,hln,hm9,hul,hg,hil,hpl,hmo⟩:=hrel;clear HM0;have HM:=J hm9;have HLN:=J hln;have HUL:=J hul;have HG:=J hg;have HIL:=J hil;have HPL:=J hpl;have HMO:=J hmo;have HPB:Hid (ps.length≤1000000):=J Y146;obtain ⟨t,ht⟩:=aE (ahd T sk 0);have HT:=J ht;obtain ⟨bE,hbE⟩:=aE (isT T sk 0 eB);have HBE:=J hbE;obtain ⟨bK,hbK⟩:=aE (isT T sk 10 jN);have HBK:=J hbK;obtain ⟨bH,hbH⟩:=aE (isT T sk 10 bHat);have HBH:=J hbH;have k3:wr.cell? ⟨pb,3,none⟩=some (.int .i64 sk.e):=hm9.pt.1.cell rfl;clear hm9 hln hul hg hil hpl hmo ht hbE hbK hbH
  by_cases he:sk.e=0
  ·have HS0:=J he;rw [he] at k3;clear he
   cases bE with
   | true=>
    have HE:Hid (mE T (rcF T f) s=(ps.map Prod.fst,sk)):=J (by
     show dY T (rcF T f) (T.length+1) [] s=_
     rw [HUL.out]
     cases gk with
     | zero=>rfl
     | succ g=>rw [dY,if_neg (by rw [HS0.out,HBE.out];simp)])
    go_wp2_with (first | (go_at_call 48;(with_reducible refine (bD HM.out.pt.1.pt bel HOK.out 0 eB).mono ?_);rw [HBE.out];rintro e wa ⟨rfl,hx⟩;have hm9:=HM.out.go bel hx;clear HM;have HM:=J hm9;clear hm9 hx));go_ret;rw [HE.out];exact HM.out.told
   | false=>
    cases bK with
    | true=>
     have HE:Hid (mE T (rcF T f) s=(ps.map Prod.fst,sk)):=J (by
      show dY T (rcF T f) (T.length+1) [] s=_
      rw [HUL.out]
      cases gk with
      | zero=>rfl
      | succ g=>rw [dY,if_neg (by rw [HS0.out,HBE.out,HBK.out];simp)])
     go_wp2_with (first | (go_at_call 48;(with_reducible refine (bD HM.out.pt.1.pt bel HOK.out 0 eB).mono ?_);rw [HBE.out];rintro e wa ⟨rfl,hx⟩;have hm9:=HM.out.go bel hx;clear HM;have HM:=J hm9;clear hm9 hx) | (go_at_call 48;(with_reducible refine (bD HM.out.pt.1.pt bel HOK.out 10 jN).mono ?_);rw [HBK.out];rintro e wb ⟨rfl,hx⟩;have hm9:=HM.out.go bel hx;clear HM;have HM:=J hm9;clear hm9 hx));go_ret;rw [HE.out];exact HM.out.told
    | false=>
     cases bH with
     | true=>
      have HLT:=J (eL HBH.out HOK.out Y3);have HI1:Hid ((aI sk).i≤T.length):=J HLT.out;have HF5:Hid (8*(T.length-(aI sk).i)+5<f):=J (by have:=HFU.out;have:=HMO.out;have:=HLT.out;show 8*(T.length-(sk.i+1))+5<f;omega);obtain ⟨⟨y,s6⟩,hr0⟩:=aE ((rcF T f).expr (aI sk));have HR0:=J hr0;have hgp:=(fY HOK.out.at0 f).expr (aI sk);rw [hr0] at hgp;have HI6:Hid (s6.i≤T.length):=J (hgp.go.top HI1.out);obtain ⟨t6,ht6⟩:=aE (ahd T s6 0);have HT6:=J ht6;obtain ⟨bd,hbd⟩:=aE (isT T s6 10 rM);have HBD:=J hbd;have HE:Hid (mE T (rcF T f) s=(ps.map Prod.fst++[.node 10 eB 0 [] [] [y]],if bd then aI s6 else s6)):=J (by
       show dY T (rcF T f) (T.length+1) [] s=_
       have h9:gk=(gk-1)+1:=Y45;rw [HUL.out,h9,dY,if_pos (by rw [HS0.out,HBE.out,HBK.out];rfl),if_pos HBH.out,hr0];dsimp only;rw [hbd])
      clear hr0 hgp ht6 hbd
      go_upto_region 5 with (first | (go_at_call 48;(with_reducible refine (bD HM.out.pt.1.pt bel HOK.out 0 eB).mono ?_);rw [HBE.out];rintro e wa ⟨rfl,hx⟩;have hm9:=HM.out.go bel hx;clear HM;have HM:=J hm9;clear hm9 hx) | (go_at_call 48;(with_reducible refine (bD HM.out.pt.1.pt bel HOK.out 10 jN).mono ?_);rw [HBK.out];rintro e wb ⟨rfl,hx⟩;have hm9:=HM.out.go bel hx;clear HM;have HM:=J hm9;clear hm9 hx) | (go_at_call 48;(with_reducible refine (bD HM.out.pt.1.pt bel HOK.out 10 bHat).mono ?_);rw [HBH.out];rintro e wd ⟨rfl,hx⟩;have hm9:=HM.out.go bel hx;clear HM;have HM:=J hm9;clear hm9 hx) | (go_at_call 49;(with_reducible refine (dI (HM.out.pt.1.below bel) HOK.out HIL.out HT.out).mono ?_);rintro e wt ⟨rfl,hx⟩;have hm9:=HM.out.go bel hx;clear HM;have HM:=J hm9;clear hm9 hx))
      have HFR:=J HM.out.fresh
      go_upto_region 6 with (first | (go_at_call 52;(with_reducible refine (hp.expr (HM.out.pt.1.below bel) HI1.out HF5.out).mono ?_);rw [HR0.out];rintro e w6 ⟨qy,rfl,hx,hny⟩;unfold ndV;have HNY:=J (hny.more (D':=fun b=>wt.heap.size≤b) (fun b z _=>z.elim False.elim (fun z=>Nat.le_trans (bz wt).size z)));have HNW:=J (Nat.le_trans (bz wt).size hx.2.size);clear hny;have hm9:=HM.out.go bel hx;clear HM;have HM:=J hm9;clear hm9 hx))
      have hal:=(Below.refl w6.heap.size w6).alloc aR (.cells #[.int .i64 y.kind,.string y.text,.int .i64 y.num,.slice qy.pn y.names.length qy.cn,.slice qy.pt y.temps.length qy.ct,.slice qy.pk y.kids.length qy.ck] 25);have h7:=heap_alloc_new w6 (.cells #[.int .i64 y.kind,.string y.text,.int .i64 y.num,.slice qy.pn y.names.length qy.cn,.slice qy.pt y.temps.length qy.ct,.slice qy.pk y.kids.length qy.ck] 25);have hm9:=HM.out.below hal;have hny:=HNY.out.under hal;obtain ⟨w7,hw7⟩:∃w7,w6.alloc (.cells #[.int .i64 y.kind,.string y.text,.int .i64 y.num,.slice qy.pn y.names.length qy.cn,.slice qy.pt y.temps.length qy.ct,.slice qy.pk y.kids.length qy.ck] 25)=w7:=⟨_,rfl⟩;rw [hw7] at h7 hm9 hny ⊢;clear HM HNY hal hw7;have HM:=J hm9;have hb9:Below w7.heap.size w7 ((w7.alloc (.cells #[.int .i64 y.kind,.string y.text,.int .i64 y.num,.slice qy.pn y.names.length qy.cn,.slice qy.pt y.temps.length qy.ct,.slice qy.pk y.kids.length qy.ck] 25)).alloc (.cells #[.int .i64 10,.string eB,.int .i64 0,.slice none 0 0,.slice none 0 0,.slice (some ⟨w7.heap.size,0,none⟩) 1 1] 25)):=bel;have HRW:=J (hm9.below hb9).row;have hnew:=heap_alloc_new w7 (.cells #[.int .i64 y.kind,.string y.text,.int .i64 y.num,.slice qy.pn y.names.length qy.cn,.slice qy.pt y.temps.length qy.ct,.slice qy.pk y.kids.length qy.ck] 25);have hny9:=(hny.under hb9).more (D':=fun b=>(fun b=>w.heap.size≤b) b∧Value.ownBlock (.slice A n c)≠some b) (fun b z _=>HFR.out b z);have hlw:wt.heap.size≤w7.heap.size:=Nat.le_trans HNW.out (by have:=aA h7;omega);have HN9:Hid (IsNd ((w7.alloc (.cells #[.int .i64 y.kind,.string y.text,.int .i64 y.num,.slice qy.pn y.names.length qy.cn,.slice qy.pt y.temps.length qy.ct,.slice qy.pk y.kids.length qy.ck] 25)).alloc (.cells #[.int .i64 10,.string eB,.int .i64 0,.slice none 0 0,.slice none 0 0,.slice (some ⟨w7.heap.size,0,none⟩) 1 1] 25)) (fun b=>(fun b=>w.heap.size≤b) b∧Value.ownBlock (.slice A n c)≠some b) (.node 10 eB 0 [] [] [y]) ⟨none,0,none,0,some ⟨w7.heap.size,0,none⟩,1⟩):=J (IsNd.one ⟨by decide,by decide⟩ ⟨by decide,by decide⟩ Y3 ((ba |>.block _ (aA hnew)).trans hnew) (HFR.out _ hlw) hny9);have HC:Hid (((w7.alloc (.cells #[.int .i64 y.kind,.string y.text,.int .i64 y.num,.slice qy.pn y.names.length qy.cn,.slice qy.pt y.temps.length qy.ct,.slice qy.pk y.kids.length qy.ck] 25)).alloc (.cells #[.int .i64 10,.string eB,.int .i64 0,.slice none 0 0,.slice none 0 0,.slice (some ⟨w7.heap.size,0,none⟩) 1 1] 25)).heap[w7.heap.size+1]? =some (.cells #[.int .i64 (NodT.node 10 eB 0 [] [] [y]).kind,.string (NodT.node 10 eB 0 [] [] [y]).text,.int .i64 (NodT.node 10 eB 0 [] [] [y]).num,.slice (⟨none,0,none,0,some ⟨w7.heap.size,0,none⟩,1⟩:NS).pn (NodT.node 10 eB 0 [] [] [y]).names.length (⟨none,0,none,0,some ⟨w7.heap.size,0,none⟩,1⟩:NS).cn,.slice (⟨none,0,none,0,some ⟨w7.heap.size,0,none⟩,1⟩:NS).pt (NodT.node 10 eB 0 [] [] [y]).temps.length (⟨none,0,none,0,some ⟨w7.heap.size,0,none⟩,1⟩:NS).ct,.slice (⟨none,0,none,0,some ⟨w7.heap.size,0,none⟩,1⟩:NS).pk (NodT.node 10 eB 0 [] [] [y]).kids.length (⟨none,0,none,0,some ⟨w7.heap.size,0,none⟩,1⟩:NS).ck] 25 (0,0))):=J (by have h8:=heap_alloc_new (w7.alloc (.cells #[.int .i64 y.kind,.string y.text,.int .i64 y.num,.slice qy.pn y.names.length qy.cn,.slice qy.pt y.temps.length qy.ct,.slice qy.pk y.kids.length qy.ck] 25)) (.cells #[.int .i64 10,.string eB,.int .i64 0,.slice none 0 0,.slice none 0 0,.slice (some ⟨w7.heap.size,0,none⟩) 1 1] 25);rw [World.size_alloc] at h8;exact h8);have HBS:Hid (w.heap.size≤((w7.alloc (.cells #[.int .i64 y.kind,.string y.text,.int .i64 y.num,.slice qy.pn y.names.length qy.cn,.slice qy.pt y.temps.length qy.ct,.slice qy.pk y.kids.length qy.ck] 25)).alloc (.cells #[.int .i64 10,.string eB,.int .i64 0,.slice none 0 0,.slice none 0 0,.slice (some ⟨w7.heap.size,0,none⟩) 1 1] 25)).heap.size):=J (Nat.le_trans hm9.pt.2.size hb9.size);obtain ⟨m0,m1,m2,m3,m4,m5⟩:=cc6 (h7);clear hb9 hnew hny9 hlw hm9 hny h7
      go_upto_region 7 with (first | (at_builtin;refine mN rfl _ _ rfl rfl HRW.out rfl HC.out HN9.out HPB.out HBS.out ?_;intro v9 w11 hown ht9 _;have hm9:=HM.out.push bel hown ht9 HOG.out;have HM9:=J hm9;obtain ⟨A9,c9,hv9,_⟩:=hown.slice;subst hv9;clear hown ht9 hm9))
      have hm9:=HM9.out;rw [List.length_append] at hm9;clear HM;have HM:=J hm9;clear hm9
      cases bd with
      | true=>
       have HLD:=J (eL HBD.out HOK.out Y3);go_wp2_with (first | (go_at_call 48;(with_reducible refine (bD HM.out.pt.1.pt bel HOK.out 10 rM).mono ?_);rw [HBD.out];rintro e wf ⟨rfl,hx⟩;have hm9:=HM.out.go bel hx;clear HM;have HM:=J hm9;clear hm9 hx) | (go_at_call 49;(with_reducible refine (dI (HM.out.pt.1.below bel) HOK.out HI6.out HT6.out).mono ?_);rintro e wg ⟨rfl,hx⟩;have hm9:=HM.out.go bel hx;clear HM;have HM:=J hm9;clear hm9 hx));go_ret;rw [HE.out]
       first | rw [if_pos rfl] | rw [if_pos trivial]
       exact pT HM.out
      | false=>
       go_wp2_with (first | (go_at_call 48;(with_reducible refine (bD HM.out.pt.1.pt bel HOK.out 10 rM).mono ?_);rw [HBD.out];rintro e wf ⟨rfl,hx⟩;have hm9:=HM.out.go bel hx;clear HM;have HM:=J hm9;clear hm9 hx));go_ret;rw [HE.out,if_neg Y3];exact pT HM.out
     | false=>
      have HF5:Hid (8*(T.length-sk.i)+5<f):=J (by have:=HFU.out;have:=HMO.out;omega);obtain ⟨⟨y,s6⟩,hr0⟩:=aE ((rcF T f).expr sk);have HR0:=J hr0;have hgp:=(fY HOK.out.at0 f).expr sk;rw [hr0] at hgp;have HI6:Hid (s6.i≤T.length∧sk.i≤s6.i):=J ⟨hgp.go.top HIL.out,hgp.go.le⟩;have HI7:Hid (s6.i≤T.length):=J (hgp.go.top HIL.out);obtain ⟨t6,ht6⟩:=aE (ahd T s6 0);have HT6:=J ht6;obtain ⟨bd,hbd⟩:=aE (isT T s6 10 rM);have HBD:=J hbd;have HE0:Hid (0<gk→mE T (rcF T f) s=if bd then dY T (rcF T f) (gk-1) (ps.map Prod.fst++[y]) (aI s6) else (ps.map Prod.fst++[y],s6)):=J (by
       intro hgk
       show dY T (rcF T f) (T.length+1) [] s=_
       have h9:gk=(gk-1)+1:=I;rw [HUL.out,h9,dY,if_pos (by rw [HS0.out,HBE.out,HBK.out];rfl),if_neg (by rw [HBH.out];decide),hr0];dsimp only;rw [hbd,Nat.add_sub_cancel])
      have HGK:Hid (0<gk):=J (by have:=HG.out;have:=HIL.out;omega);clear hr0 hgp ht6 hbd
      go_upto_region 9 with (first | (go_at_call 48;(with_reducible refine (bD HM.out.pt.1.pt bel HOK.out 0 eB).mono ?_);rw [HBE.out];rintro e wa ⟨rfl,hx⟩;have hm9:=HM.out.go bel hx;clear HM;have HM:=J hm9;clear hm9 hx) | (go_at_call 48;(with_reducible refine (bD HM.out.pt.1.pt bel HOK.out 10 jN).mono ?_);rw [HBK.out];rintro e wb ⟨rfl,hx⟩;have hm9:=HM.out.go bel hx;clear HM;have HM:=J hm9;clear hm9 hx) | (go_at_call 48;(with_reducible refine (bD HM.out.pt.1.pt bel HOK.out 10 bHat).mono ?_);rw [HBH.out];rintro e wt ⟨rfl,hx⟩;have hm9:=HM.out.go bel hx;clear HM;have HM:=J hm9;clear hm9 hx))
      have HFR:=J HM.out.fresh
      go_upto_region 10 with (first | (go_at_call 52;(with_reducible refine (hp.expr (HM.out.pt.1.below bel) HIL.out HF5.out).mono ?_);rw [HR0.out];rintro e w6 ⟨qy,rfl,hx,hny⟩;unfold ndV;have hm9:=HM.out.go bel hx;have hb9:Below w6.heap.size w6 (w6.alloc (.cells #[.int .i64 y.kind,.string y.text,.int .i64 y.num,.slice qy.pn y.names.length qy.cn,.slice qy.pt y.temps.length qy.ct,.slice qy.pk y.kids.length qy.ck] 25)):=ba;have HRW:=J (hm9.below hb9).row;have HN9:=J ((hny.under hb9).more (D':=fun b=>(fun b=>w.heap.size≤b) b∧Value.ownBlock (.slice A n c)≠some b) (fun b z _=>z.elim False.elim (fun z=>HFR.out b (Nat.le_trans (bz wt).size z))));have HBS:Hid (w.heap.size≤(w6.alloc (.cells #[.int .i64 y.kind,.string y.text,.int .i64 y.num,.slice qy.pn y.names.length qy.cn,.slice qy.pt y.temps.length qy.ct,.slice qy.pk y.kids.length qy.ck] 25)).heap.size):=J (Nat.le_trans hm9.pt.2.size hb9.size);clear HM;have HM:=J hm9;clear hny hx hb9 hm9) | (at_builtin;refine mN rfl _ _ rfl rfl HRW.out rfl (heap_alloc_new _ _) HN9.out HPB.out HBS.out ?_;intro v9 w11 hown ht9 _;have hm9:=HM.out.push bel hown ht9 HOG.out;have HM9:=J hm9;obtain ⟨A9,c9,hv9,_⟩:=hown.slice;subst hv9;clear hown ht9 hm9))
      have hm9:=HM9.out;rw [List.length_append] at hm9;clear HM;have HM:=J hm9;clear hm9
      cases bd with
      | true=>
       have HLD:=J (eL HBD.out HOK.out Y3);go_wp2_with (first | (go_at_call 48;(with_reducible refine (bD HM.out.pt.1.pt bel HOK.out 10 rM).mono ?_);rw [HBD.out];rintro e wf ⟨rfl,hx⟩;have hm9:=HM.out.go bel hx;clear HM;have HM:=J hm9;clear hm9 hx) | (go_at_call 49;(with_reducible refine (dI (HM.out.pt.1.below bel) HOK.out HI7.out HT6.out).mono ?_);rintro e wg ⟨rfl,hx⟩;have hm9:=HM.out.go bel hx;clear HM;have HM:=J hm9;clear hm9 hx))
       go_roundg (gk-1)
       case measure=>have:=HGK.out;omega
       case rel=>
        have hm9:=HM.out;have hl9:(ps++[(y,qy)]).length=ps.length+1:=Y132;have hul:dY T (rcF T f) (T.length+1) [] s=dY T (rcF T f) (gk-1) ((ps++[(y,qy)]).map Prod.fst) (aI s6):=by
         have h9:=HE0.out HGK.out;rw [List.map_append];exact h9
        have hp2:(ps++[(y,qy)]).length≤(aI s6).i:=by rw [List.length_append];exact Nat.succ_le_succ (Nat.le_trans HPL.out HI6.out.2)
        have hg2:T.length<(gk-1)+(aI s6).i:=stm_step HG.out HGK.out HI6.out.2;have hm2:s.i≤(aI s6).i:=Nat.le_trans HMO.out (Nat.le_trans HI6.out.2 (Nat.le_succ _));exact ⟨A9,ps.length+1,c9,ps++[(y,qy)],aI s6,rfl,hl9,hm9,hul,hg2,HLD.out,hp2,hm2⟩
      | false=>
       go_wp2_with (first | (go_at_call 48;(with_reducible refine (bD HM.out.pt.1.pt bel HOK.out 10 rM).mono ?_);rw [HBD.out];rintro e wf ⟨rfl,hx⟩;have hm9:=HM.out.go bel hx;clear HM;have HM:=J hm9;clear hm9 hx));go_ret;rw [HE0.out HGK.out,if_neg Y3];exact pT HM.out
  ·have y1:(sk.e==0)=false:=Y20;have HY1:=J y1;have HE:Hid (mE T (rcF T f) s=(ps.map Prod.fst,sk)):=J (by
    show dY T (rcF T f) (T.length+1) [] s=_
    rw [HUL.out]
    cases gk with
    | zero=>rfl
    | succ g=>rw [dY,if_neg (by rw [HY1.out];simp)])
   clear he;go_wp2_with (fail);go_ret;rw [HE.out];exact HM.out.told
theorem pspec {T:Tks} (hok:TokOk T):∀f,PSpec T f
 | 0=>⟨fun _ _ hf=>absurd hf (Nat.not_lt_zero _),fun _ _ _ _ hf=>absurd hf (Nat.not_lt_zero _),fun _ _ hf=>absurd hf (Nat.not_lt_zero _),fun _ _ _ _ hf=>absurd hf (Nat.not_lt_zero _),fun _ _ hf=>absurd hf (Nat.not_lt_zero _),fun _ _ hf=>absurd hf (Nat.not_lt_zero _),fun _ _ hf=>absurd hf (Nat.not_lt_zero _),fun _ _ hf=>absurd hf (Nat.not_lt_zero _)⟩
 | f+1=>by
  have hp:=pspec hok f;exact ⟨fun h hi hf=>prim_go hp h hok hi hf,fun h hi hD hx hf=>bin_go hp h hok hi hD hx hf,fun h hi hf=>msg_go hp h hok hi hf,fun h hi hD hx hf=>kw_go hp h hok hi hD hx hf,fun h hi hf=>expr_go hp h hok hi hf,fun h hi hf=>lits_go hp h hok hi hf,fun h hi hf=>blk_go hp h hok hi hf,fun h hi hf=>stmts_go hp h hok hi hf⟩
def HeadP (pb:Nat) (v:Value) (T:Tks) (r:ByteArray×List ByteArray×Int×PSt) (w:World) (e:Ending) (w':World):Prop:=∃A c,e= .returned (.agg #[.int .i64 11,.string r.1,.int .i64 r.2.2.1,.slice A r.2.1.length c,.slice none 0 0,.slice none 0 0])∧PT pb v T w w' r.2.2.2∧SRow w' w.heap.size (.slice A r.2.1.length c) r.2.1
theorem qY {T:Tks} {s:PSt} {k:Int} {l:List ByteArray} (hl:l.length≤4):(cV T k l s).1.length=l.length+1∧((cV T k l s).2.e=0→(cV T k l s).1.length≤4):=by
 unfold cV;dsimp only;refine ⟨by rw [List.length_append];rfl,fun z=>?_⟩;rw [List.length_append]
 show l.length+1≤4
 split at z
 ·exact absurd z (jJ _ _ _ Y3)
 ·rename_i hq;have:l.length≠4:=fun q=>hq ⟨z,q⟩
  omega
theorem tK {T:Tks} (hok:TokPos T):∀(g:Nat) (t:ByteArray) (l:List ByteArray) (s:PSt),Go7 T s (iJ T g t l s).2.2
 | 0,t,l,s=>Go7.refl s
 | g+1,t,l,s=>by
  unfold iJ
  split
  ·rename_i h;exact ((Go7.take (eT h hok Y3)).trans (jW hok _ _ _ Y3)).trans (tK hok g _ _ _)
  ·exact Go7.refl s
theorem pat_go {T:Tks} (hok:TokPos T) (s:PSt):Go7 T s (kB T s).2.2:=by
 unfold kB
 split
 ·rename_i h;exact Go7.take (eT h hok Y3)
 ·split
  ·rename_i h;exact (Go7.take (eT h hok Y3)).trans (jW hok _ _ _ Y3)
  ·exact ((fU hok _ _ _ Y3).trans (jW hok _ _ _ Y3)).trans (tK hok _ _ _ _)
theorem tL {T:Tks} (hok:TokOk T):∀(g:Nat) (t:ByteArray) (l:List ByteArray) (s:PSt),(∀x,x∈l→x.size≤100000)→(∀x,x∈(iJ T g t l s).2.1→x.size≤100000)∧(iJ T g t l s).1.size≤t.size+100000*g
 | 0,t,l,s,h=>⟨h,Nat.le_refl _⟩
 | g+1,t,l,s,h=>by
  unfold iJ
  split
  ·obtain ⟨h1,h2⟩:=tL hok g (t++tx (ahd T s 0)) _ (cV T 1 l (aI s)).2 (nJ hok 1 l (aI s) h);have h3:(t++tx (ahd T s 0)).size=t.size+(tx (ahd T s 0)).size:=ByteArray.size_append;have h4:=hok.text _ (gK hok (s:=s) (k:=0));exact ⟨h1,by omega⟩
  ·exact ⟨h,Nat.le_add_right _ _⟩
theorem pat_tx {T:Tks} (hok:TokOk T) (s:PSt):(∀x,x∈(kB T s).2.1→x.size≤100000)∧(kB T s).1.size≤100000+100000*(T.length+1):=by
 have h0:∀x,x∈([]:List ByteArray)→x.size≤100000:=fun x hx=>absurd hx Y12
 have h5:=hok.text _ (gK hok (s:=s) (k:=0));obtain ⟨h1,h2⟩:=tL hok (T.length+1) (tx (bT T s 2 eB).1) _ (cV T 1 [] (bT T s 2 eB).2).2 (nJ hok 1 [] (bT T s 2 eB).2 h0);have h3:=rV hok s 2 eB;obtain ⟨B,hB⟩:=aE (100000+100000*(T.length+1));have h7:(tx (ahd T s 0)).size≤B:=I;have h8:(iJ T (T.length+1) (tx (bT T s 2 eB).1) (cV T 1 [] (bT T s 2 eB).2).1 (cV T 1 [] (bT T s 2 eB).2).2).1.size≤B:=I;rw [hB];unfold kB
 split
 ·exact ⟨h0,h7⟩
 ·split
  ·exact ⟨nJ hok _ _ _ h0,h7⟩
  ·exact ⟨h1,h8⟩
theorem yM {n g i j:Nat} (h:n<g+i) (h1:i<n) (h2:i+1≤j):n<(g-1)+j:=I
theorem yN {a b:ByteArray} {i j:Nat} (h:a.size≤100000*(i+1)) (h1:b.size≤100000) (h2:i+1≤j):(a++b).size≤100000*(j+1):=by
 have h4:(a++b).size=a.size+b.size:=ByteArray.size_append;omega
theorem Z76 {P:Prop} (h:P:=by
 have hm9:=HM.out.setI tb.num;obtain ⟨w12,hw9⟩:=aE (w11.setCell ⟨w.heap.size+1,2,none⟩ (.int .i64 tb.num));rw [hw9] at hm9 ⊢;clear HM hw9;have HM:=J hm9
 (try clear n0 nr0 n1 nr1 n2 nr2 n3 nr3 n4 nr4 n5 nr5)
 (try clear o0 or0 o1 or1 o2 or2 o3 or3 o4 or4 o5 or5)
 obtain ⟨n0,n1,n2,n3,n4,n5,nr0,nr1,nr2,nr3,nr4,nr5⟩:=cf6 (hm9.res);obtain ⟨o0,o1,o2,o3,o4,o5,or0,or1,or2,or3,or4,or5⟩:=cf6 (hm9.out);clear hm9 HTB c0 c1 c2 c3;go_wp2_with fail;obtain ⟨W9,hW9⟩:∃W9,W9=((((((w12.setCell ⟨w.heap.size,0,none⟩ (.int .i64 11)).setCell ⟨w.heap.size,1,none⟩ (.string pt)).setCell ⟨w.heap.size,2,none⟩ (.int .i64 tb.num)).setCell ⟨w.heap.size,3,none⟩ (.slice A n c)).setCell ⟨w.heap.size,4,none⟩ (.slice none 0 0)).setCell ⟨w.heap.size,5,none⟩ (.slice none 0 0)):=⟨_,rfl⟩;have h9:W9.heap[w.heap.size]? =some (.cells #[.int .i64 11,.string pt,.int .i64 tb.num,.slice A n c,.slice none 0 0,.slice none 0 0] 25 (0,0)):=Y19;obtain ⟨z0,z1,z2,z3,z4,z5⟩:=cc6 h9;have HT9:Hid (Turns (fun k=>k=w.heap.size) w12 W9):=J Y2;rw [←hW9];clear hW9 h9;refine bodyPost_ret (v:=.agg #[.int .i64 11,.string pt,.int .i64 tb.num,.slice A n c,.slice none 0 0,.slice none 0 0]) (by simp [results,Tryz.results24,go_sem,z0,z1,z2,z3,z4,z5]) rfl ?_;rw [HPO.out,HE.out];have hl9:=HM.out.len.1;refine ⟨A,c,?_,HM.out.pt.turned HT9.out (fun k e=>by have e9:k=w.heap.size:=e;exact ⟨by omega,by have:=HPL.out;omega,by rw [e9];exact HOLD.out⟩),?_⟩
 ·show Ending.returned (.agg #[.int .i64 11,.string pt,.int .i64 tb.num,.slice A n c,.slice none 0 0,.slice none 0 0])=Ending.returned (.agg #[.int .i64 11,.string pt,.int .i64 tb.num,.slice A pn.length c,.slice none 0 0,.slice none 0 0])
  rw [hl9]
 ·show SRow _ _ (.slice A pn.length c) pn
  rw [←hl9];exact bR (SRow.turned HM.out.nam HT9.out (fun b e=>by have e9:b=w.heap.size:=e;omega)) I):P:=h
theorem head_any {w:World} {pb:Nat} {v:Value} {T:Tks} {s:PSt} (h:PW w pb v T s) (hok:TokOk T) (hi:s.i≤T.length):Calls Tryz.prog 24 #[.pointer (some ⟨pb,0,none⟩)] w (HeadP pb v T (kQ T s) w):=by
 obtain ⟨PO,hPO⟩:∃PO,PO=HeadP pb v T (kQ T s) w:=⟨_,rfl⟩;rw [←hPO];have HPO:=J hPO;clear hPO;have HOK:=J hok;have HI:=J hi;have HOLD:=J h.old;have HPL:=J (aA h.box);have H0:Hid (Bw w ((w.alloc (.cells #[.int .i64 0,.string eB,.int .i64 0,.slice none 0 0,.slice none 0 0,.slice none 0 0] 25)).alloc (.cells #[.int .i64 11,.string eB,.int .i64 0,.slice none 0 0,.slice none 0 0,.slice none 0 0] 25)) (w.heap.size) (w.heap.size+1) pb v T s 11 eB 0 (.slice none 0 0) (.slice none 0 0) (.slice none 0 0) [] []):=J (by
  have hb:Below w.heap.size w ((w.alloc (.cells #[.int .i64 0,.string eB,.int .i64 0,.slice none 0 0,.slice none 0 0,.slice none 0 0] 25)).alloc (.cells #[.int .i64 11,.string eB,.int .i64 0,.slice none 0 0,.slice none 0 0,.slice none 0 0] 25)):=bel;have h1:=heap_alloc_new w (.cells #[.int .i64 0,.string eB,.int .i64 0,.slice none 0 0,.slice none 0 0,.slice none 0 0] 25);have h2:=heap_alloc_new (w.alloc (.cells #[.int .i64 0,.string eB,.int .i64 0,.slice none 0 0,.slice none 0 0,.slice none 0 0] 25)) (.cells #[.int .i64 11,.string eB,.int .i64 0,.slice none 0 0,.slice none 0 0,.slice none 0 0] 25);rw [World.size_alloc] at h2;have h3:=aA h.box;exact ⟨⟨h.below hb,Turns.of_below hb⟩,Nat.le_succ _,Nat.lt_succ_self _,by omega,by omega,fun k e=>by have:=(World.ownsRow.lt h.row k e).2;omega,(ba |>.block _ (aA h1)).trans h1,h2,SRow.nil _ _,SRow.nil _ _⟩)
 obtain ⟨⟨pt,pn,ps⟩,hp⟩:=aE (kB T s);have HP:=J hp;have hpg:=pat_go hok.at0 s;rw [hp] at hpg;have HIP:Hid (ps.i≤T.length):=J (hpg.top hi);obtain ⟨t,ht⟩:=aE (ahd T s 0);have HT:=J ht;obtain ⟨b1,hb1⟩:=aE (isT T s 1 eB);have HB1:=J hb1;obtain ⟨b3,hb3⟩:=aE (isT T s 3 eB);have HB3:=J hb3;have hf1:=nF;clear h hok hi hp hpg ht hb1 hb3;go_enter Tryz.func24,Tryz.ntmps24
 go_upto_region 2 with fail
 have hm9:=H0.out;obtain ⟨w1,hw1⟩:∃w1,((w.alloc (.cells #[.int .i64 0,.string eB,.int .i64 0,.slice none 0 0,.slice none 0 0,.slice none 0 0] 25)).alloc (.cells #[.int .i64 11,.string eB,.int .i64 0,.slice none 0 0,.slice none 0 0,.slice none 0 0] 25))=w1:=⟨_,rfl⟩;rw [hw1] at hm9 ⊢;have HM:=J hm9;obtain ⟨n0,n1,n2,n3,n4,n5,nr0,nr1,nr2,nr3,nr4,nr5⟩:=cf6 (hm9.res);obtain ⟨o0,o1,o2,o3,o4,o5,or0,or1,or2,or3,or4,or5⟩:=cf6 (hm9.out);clear hw1 H0 hm9
 go_upto_if 7 with (first | (go_at_call 48;(with_reducible refine (bD HM.out.pt.1.pt bel HOK.out 1 eB).mono ?_);rw [HB1.out];rintro e w3 ⟨rfl,hx⟩;have hm9:=HM.out.go bel hx;clear HM;have HM:=J hm9;(try clear n0 nr0 n1 nr1 n2 nr2 n3 nr3 n4 nr4 n5 nr5);(try clear o0 or0 o1 or1 o2 or2 o3 or3 o4 or4 o5 or5);obtain ⟨n0,n1,n2,n3,n4,n5,nr0,nr1,nr2,nr3,nr4,nr5⟩:=cf6 (hm9.res);obtain ⟨o0,o1,o2,o3,o4,o5,or0,or1,or2,or3,or4,or5⟩:=cf6 (hm9.out);clear hm9 hx))
 go_cut [] (fun wx=>∃A n c,Bw w wx (w.heap.size) (w.heap.size+1) pb v T ps 11 pt 0 (.slice A n c) (.slice none 0 0) (.slice none 0 0) pn [])
 case first=>
  cases b1 with
  | true=>
   have e9:pt=tx t∧pn=[]∧ps=aI s:=by
    have h9:=HP.out;unfold kB at h9;rw [if_pos HB1.out,HT.out] at h9;exact ⟨(congrArg Prod.fst h9).symm,(congrArg (fun r=>r.2.1) h9).symm,(congrArg (fun r=>r.2.2) h9).symm⟩
   go_wp2_with (first | (go_at_call 49;(with_reducible refine (dI (HM.out.pt.1.below bel) HOK.out HI.out HT.out).mono ?_);rintro e w4 ⟨rfl,hx⟩;have hm9:=HM.out.go bel hx;clear HM;have HM:=J hm9;(try clear n0 nr0 n1 nr1 n2 nr2 n3 nr3 n4 nr4 n5 nr5);(try clear o0 or0 o1 or1 o2 or2 o3 or3 o4 or4 o5 or5);obtain ⟨n0,n1,n2,n3,n4,n5,nr0,nr1,nr2,nr3,nr4,nr5⟩:=cf6 (hm9.res);obtain ⟨o0,o1,o2,o3,o4,o5,or0,or1,or2,or3,or4,or5⟩:=cf6 (hm9.out);clear hm9 hx));go_meet;rw [e9.1,e9.2.1,e9.2.2];exact ⟨none,0,0,HM.out.setX (tx t)⟩
  | false=>
   cases b3 with
   | true=>
    have HI1:Hid ((aI s).i≤T.length):=J (eL HB3.out HOK.out Y3);obtain ⟨⟨l9,s9⟩,hnm⟩:=aE (cV T 1 [] (aI s));have HNM:=J hnm;have HL1:Hid (([]:List ByteArray).length≤1000):=J (Nat.zero_le _);have HE9:Hid (pt=tx t∧pn=l9∧ps=s9):=J (by
     have h9:=HP.out;unfold kB at h9;rw [if_neg (by rw [HB1.out];decide),if_pos HB3.out,HT.out,hnm] at h9;exact ⟨(congrArg Prod.fst h9).symm,(congrArg (fun r=>r.2.1) h9).symm,(congrArg (fun r=>r.2.2) h9).symm⟩)
    clear hnm
    go_upto_region 6 with (first | (go_at_call 48;(with_reducible refine (bD HM.out.pt.1.pt bel HOK.out 3 eB).mono ?_);rw [HB3.out];rintro e w3 ⟨rfl,hx⟩;have hm9:=HM.out.go bel hx;clear HM;have HM:=J hm9;(try clear n0 nr0 n1 nr1 n2 nr2 n3 nr3 n4 nr4 n5 nr5);(try clear o0 or0 o1 or1 o2 or2 o3 or3 o4 or4 o5 or5);obtain ⟨n0,n1,n2,n3,n4,n5,nr0,nr1,nr2,nr3,nr4,nr5⟩:=cf6 (hm9.res);obtain ⟨o0,o1,o2,o3,o4,o5,or0,or1,or2,or3,or4,or5⟩:=cf6 (hm9.out);clear hm9 hx) | (go_at_call 49;(with_reducible refine (dI (HM.out.pt.1.below bel) HOK.out HI.out HT.out).mono ?_);rintro e w4 ⟨rfl,hx⟩;have hm9:=HM.out.go bel hx;clear HM;have HM:=J hm9;(try clear n0 nr0 n1 nr1 n2 nr2 n3 nr3 n4 nr4 n5 nr5);(try clear o0 or0 o1 or1 o2 or2 o3 or3 o4 or4 o5 or5);obtain ⟨n0,n1,n2,n3,n4,n5,nr0,nr1,nr2,nr3,nr4,nr5⟩:=cf6 (hm9.res);obtain ⟨o0,o1,o2,o3,o4,o5,or0,or1,or2,or3,or4,or5⟩:=cf6 (hm9.out);clear hm9 hx))
    have hm9:=HM.out.setX (tx t);obtain ⟨w5,hw9⟩:=aE (w4.setCell ⟨w.heap.size+1,1,none⟩ (.string (tx t)));rw [hw9] at hm9 ⊢;clear HM hw9;have HM:=J hm9
    (try clear n0 nr0 n1 nr1 n2 nr2 n3 nr3 n4 nr4 n5 nr5)
    (try clear o0 or0 o1 or1 o2 or2 o3 or3 o4 or4 o5 or5)
    obtain ⟨n0,n1,n2,n3,n4,n5,nr0,nr1,nr2,nr3,nr4,nr5⟩:=cf6 (hm9.res);obtain ⟨o0,o1,o2,o3,o4,o5,or0,or1,or2,or3,or4,or5⟩:=cf6 (hm9.out);clear hm9;go_wp2_with (first | (go_at_call 50;(with_reducible refine (lS (l:=[]) (HM.out.pt.1.below bel) HOK.out HI1.out 1 (SRow.nil w5 0) HL1.out).mono ?_);rw [HNM.out];rintro e w6 ⟨vr9,rfl,hx,hr9⟩;obtain ⟨A1,c1,hvr,_⟩:=SRow.slice hr9;subst hvr;have HSR:=J (bR hr9 (HM.out.base bel));clear hr9;have hm9:=HM.out.go bel hx;clear HM;have HM:=J hm9;(try clear n0 nr0 n1 nr1 n2 nr2 n3 nr3 n4 nr4 n5 nr5);(try clear o0 or0 o1 or1 o2 or2 o3 or3 o4 or4 o5 or5);obtain ⟨n0,n1,n2,n3,n4,n5,nr0,nr1,nr2,nr3,nr4,nr5⟩:=cf6 (hm9.res);obtain ⟨o0,o1,o2,o3,o4,o5,or0,or1,or2,or3,or4,or5⟩:=cf6 (hm9.out);clear hm9 hx));go_meet;rw [HE9.out.1,HE9.out.2.1,HE9.out.2.2];exact ⟨A1,l9.length,c1,HM.out.setN HSR.out aR⟩
   | false=>
    obtain ⟨⟨t9,s1⟩,hnd⟩:=aE (bT T s 2 eB);have HND:=J hnd;have hng:=fU HOK.out.at0 s 2 eB Y3;rw [hnd] at hng;have HI1:Hid (s1.i≤T.length):=J (hng.top HI.out);have htx:=rV HOK.out s 2 eB;rw [hnd] at htx;have HTX9:Hid ((tx t9).size≤100000):=J htx;obtain ⟨⟨l9,s9⟩,hnm⟩:=aE (cV T 1 [] s1);have HNM:=J hnm;have hng2:=jW HOK.out.at0 s1 1 [] Y3;rw [hnm] at hng2;have HI9:Hid (s9.i≤T.length):=J (hng2.top HI1.out);have hnl:=qY (T:=T) (s:=s1) (k:=1) (l:=[]) (Nat.zero_le _);rw [hnm] at hnl;have HNL0:=J hnl;have HL1:Hid (([]:List ByteArray).length≤1000):=J (Nat.zero_le _);have HP9:Hid ((pt,pn,ps)=iJ T (T.length+1) (tx t9) l9 s9):=J (by
     rw [←HP.out];unfold kB;rw [if_neg (by rw [HB1.out];decide),if_neg (by rw [HB3.out];decide),hnd];dsimp only;rw [hnm])
    clear hnd hng htx hnm hng2 hnl
    go_upto_region 8 with (first | (go_at_call 48;(with_reducible refine (bD HM.out.pt.1.pt bel HOK.out 3 eB).mono ?_);rw [HB3.out];rintro e w3 ⟨rfl,hx⟩;have hm9:=HM.out.go bel hx;clear HM;have HM:=J hm9;(try clear n0 nr0 n1 nr1 n2 nr2 n3 nr3 n4 nr4 n5 nr5);(try clear o0 or0 o1 or1 o2 or2 o3 or3 o4 or4 o5 or5);obtain ⟨n0,n1,n2,n3,n4,n5,nr0,nr1,nr2,nr3,nr4,nr5⟩:=cf6 (hm9.res);obtain ⟨o0,o1,o2,o3,o4,o5,or0,or1,or2,or3,or4,or5⟩:=cf6 (hm9.out);clear hm9 hx) | (go_at_call 27;(with_reducible refine (gI (HM.out.pt.1.below bel) HOK.out HI.out 2 eB HND.out).mono ?_);rintro e w4 ⟨rfl,hx⟩;have hm9:=HM.out.go bel hx;clear HM;have HM:=J hm9;(try clear n0 nr0 n1 nr1 n2 nr2 n3 nr3 n4 nr4 n5 nr5);(try clear o0 or0 o1 or1 o2 or2 o3 or3 o4 or4 o5 or5);obtain ⟨n0,n1,n2,n3,n4,n5,nr0,nr1,nr2,nr3,nr4,nr5⟩:=cf6 (hm9.res);obtain ⟨o0,o1,o2,o3,o4,o5,or0,or1,or2,or3,or4,or5⟩:=cf6 (hm9.out);clear hm9 hx))
    have hm9:=HM.out.setX (tx t9);obtain ⟨w5,hw9⟩:=aE (w4.setCell ⟨w.heap.size+1,1,none⟩ (.string (tx t9)));rw [hw9] at hm9 ⊢;clear HM hw9;have HM:=J hm9
    (try clear n0 nr0 n1 nr1 n2 nr2 n3 nr3 n4 nr4 n5 nr5)
    (try clear o0 or0 o1 or1 o2 or2 o3 or3 o4 or4 o5 or5)
    obtain ⟨n0,n1,n2,n3,n4,n5,nr0,nr1,nr2,nr3,nr4,nr5⟩:=cf6 (hm9.res);obtain ⟨o0,o1,o2,o3,o4,o5,or0,or1,or2,or3,or4,or5⟩:=cf6 (hm9.out);clear hm9;go_wp2_with (first | (go_at_call 50;(with_reducible refine (lS (l:=[]) (HM.out.pt.1.below bel) HOK.out HI1.out 1 (SRow.nil w5 0) HL1.out).mono ?_);rw [HNM.out];rintro e w6 ⟨vr9,rfl,hx,hr9⟩;obtain ⟨A1,c1,hvr,_⟩:=SRow.slice hr9;subst hvr;have HSR:=J (bR hr9 (HM.out.base bel));clear hr9;have hm9:=HM.out.go bel hx;clear HM;have HM:=J hm9;(try clear n0 nr0 n1 nr1 n2 nr2 n3 nr3 n4 nr4 n5 nr5);(try clear o0 or0 o1 or1 o2 or2 o3 or3 o4 or4 o5 or5);obtain ⟨n0,n1,n2,n3,n4,n5,nr0,nr1,nr2,nr3,nr4,nr5⟩:=cf6 (hm9.res);obtain ⟨o0,o1,o2,o3,o4,o5,or0,or1,or2,or3,or4,or5⟩:=cf6 (hm9.out);clear hm9 hx))
    go_loopg [] (T.length+1) (fun g wr=>∃(tv:ByteArray) (A:Option Addr) (n c:Nat) (l:List ByteArray) (sk:PSt),Bw w wr (w.heap.size) (w.heap.size+1) pb v T sk 11 tv 0 (.slice A n c) (.slice none 0 0) (.slice none 0 0) l []∧iJ T (T.length+1) (tx t9) l9 s9=iJ T g tv l sk∧T.length<g+sk.i∧sk.i≤T.length∧(sk.e=0→l.length≤4)∧tv.size≤100000*(sk.i+1))
    case atStart=>exact ⟨tx t9,A1,l9.length,c1,l9,s9,HM.out.setN HSR.out aR,rfl,by omega,HI9.out,HNL0.out.2,Nat.le_trans HTX9.out I⟩
    case round=>
     obtain ⟨tv,A,n,c,l,sk,hm9,hul,hg,hil,hl4,htv⟩:=hrel;clear HM HT
     (try clear n0 nr0 n1 nr1 n2 nr2 n3 nr3 n4 nr4 n5 nr5)
     (try clear o0 or0 o1 or1 o2 or2 o3 or3 o4 or4 o5 or5)
     have HM:=J hm9;have HUL:=J hul;have HG:=J hg;have HIL:=J hil;have HL4:=J hl4;have HTV:=J htv;have HTZ:Hid (tv.size≤20000000000):=J Y146;obtain ⟨t,ht⟩:=aE (ahd T sk 0);have HT:=J ht;obtain ⟨b,hb⟩:=aE (isT T sk 2 eB);have HB:=J hb;obtain ⟨n0,n1,n2,n3,n4,n5,nr0,nr1,nr2,nr3,nr4,nr5⟩:=cf6 (hm9.res);obtain ⟨o0,o1,o2,o3,o4,o5,or0,or1,or2,or3,or4,or5⟩:=cf6 (hm9.out);clear hm9 hul hg hil hl4 htv ht hb
     cases b with
     | true=>
      have HLT:=J (eL HB.out HOK.out Y3);have HI1:Hid ((aI sk).i≤T.length):=J HLT.out;obtain ⟨⟨l7,s7⟩,hnm⟩:=aE (cV T 1 l (aI sk));have HNM7:=J hnm;have hl4:=HL4.out (is_e HB.out);have HL1:Hid (l.length≤1000):=J I;have hnl:=qY (T:=T) (s:=aI sk) (k:=1) hl4;rw [hnm] at hnl;have HNL:=J hnl;have hng:=jW HOK.out.at0 (aI sk) 1 l Y3;rw [hnm] at hng;have HI7:Hid (s7.i≤T.length∧sk.i+1≤s7.i):=J ⟨hng.top HI1.out,hng.le⟩;have hcat:¬9223372036854775807<tv.size+(tx t).size:=by have h1:=HOK.out.text t Y125;have:=HTZ.out;omega
      have HBI:=HB;clear hnm hl4 hnl hng
      go_upto_region 10 with (first | (go_at_call 48;(with_reducible refine (bD HM.out.pt.1.pt bel HOK.out 2 eB).mono ?_);rw [HB.out];rintro e w7 ⟨rfl,hx⟩;have hm9:=HM.out.go bel hx;clear HM;have HM:=J hm9;(try clear n0 nr0 n1 nr1 n2 nr2 n3 nr3 n4 nr4 n5 nr5);(try clear o0 or0 o1 or1 o2 or2 o3 or3 o4 or4 o5 or5);obtain ⟨n0,n1,n2,n3,n4,n5,nr0,nr1,nr2,nr3,nr4,nr5⟩:=cf6 (hm9.res);obtain ⟨o0,o1,o2,o3,o4,o5,or0,or1,or2,or3,or4,or5⟩:=cf6 (hm9.out);clear hm9 hx))
      go_cut [] from 30 to 41 (fun wx=>Bw w wx (w.heap.size) (w.heap.size+1) pb v T (aI sk) 11 (tv++tx t) 0 (.slice A n c) (.slice none 0 0) (.slice none 0 0) l [])
      case first=>
       go_region_law (first | (go_simp;go_at_call 49;(with_reducible refine (dI (HM.out.pt.1.below bel) HOK.out HIL.out HT.out).mono ?_);rintro e w8 ⟨rfl,hx⟩;have hm9:=HM.out.go bel hx;have HM5:=J hm9;obtain ⟨o0,o1,o2,o3,o4,o5,or0,or1,or2,or3,or4,or5⟩:=cf6 (hm9.out);clear hm9 hx))
       all_goals
        go_wp2_with fail;go_meet;exact HM5.out.setX (tv++tx t)
      case rest=>
       clear HM
       (try clear n0 nr0 n1 nr1 n2 nr2 n3 nr3 n4 nr4 n5 nr5)
       (try clear o0 or0 o1 or1 o2 or2 o3 or3 o4 or4 o5 or5)
       rename World=>wt
       have hm9:=hcut;have HM:=J hm9;obtain ⟨n0,n1,n2,n3,n4,n5,nr0,nr1,nr2,nr3,nr4,nr5⟩:=cf6 (hm9.res);obtain ⟨o0,o1,o2,o3,o4,o5,or0,or1,or2,or3,or4,or5⟩:=cf6 (hm9.out);clear hm9 hcut;go_wp2_with (first | (go_at_call 50;(with_reducible refine (lS (l:=l) (HM.out.pt.1.below bel) HOK.out HI1.out 1 (HM.out.nam.below bel) HL1.out).mono ?_);rw [HNM7.out];rintro e w9 ⟨vr9,rfl,hx,hr9⟩;obtain ⟨A7,c7,hvr,_⟩:=SRow.slice hr9;subst hvr;have HSR7:=J (bR hr9 (HM.out.base bel));clear hr9;have hm9:=HM.out.go bel hx;clear HM;have HM:=J hm9;(try clear n0 nr0 n1 nr1 n2 nr2 n3 nr3 n4 nr4 n5 nr5);(try clear o0 or0 o1 or1 o2 or2 o3 or3 o4 or4 o5 or5);obtain ⟨n0,n1,n2,n3,n4,n5,nr0,nr1,nr2,nr3,nr4,nr5⟩:=cf6 (hm9.res);obtain ⟨o0,o1,o2,o3,o4,o5,or0,or1,or2,or3,or4,or5⟩:=cf6 (hm9.out);clear hm9 hx))
       go_roundg (gk-1)
       case measure=>have:=HG.out;have:=HLT.out;omega
       case rel=>
        have hm9:=HM.out.setN HSR7.out aR;have hul:iJ T (T.length+1) (tx t9) l9 s9=iJ T (gk-1) (tv++tx t) l7 s7:=by
         have h9:gk=(gk-1)+1:=Y45;rw [HUL.out,h9,iJ,if_pos HBI.out,HT.out,HNM7.out,Nat.add_sub_cancel]
        exact ⟨(tv++tx t),A7,l7.length,c7,l7,s7,hm9,hul,yM HG.out HLT.out HI7.out.2,HI7.out.1,HNL.out.2,yN HTV.out (HOK.out.text t Y125) HI7.out.2⟩
     | false=>
      have hq:iJ T (T.length+1) (tx t9) l9 s9=(tv,l,sk):=by
       rw [HUL.out]
       cases gk with
       | zero=>rfl
       | succ g=>rw [iJ,if_neg Y91]
      have HE9:Hid (pt=tv∧pn=l∧ps=sk):=J (by
       have h9:=HP9.out;rw [hq] at h9;exact ⟨congrArg Prod.fst h9,congrArg (fun r=>r.2.1) h9,congrArg (fun r=>r.2.2) h9⟩)
      clear hq;go_wp2_with (first | (go_at_call 48;(with_reducible refine (bD HM.out.pt.1.pt bel HOK.out 2 eB).mono ?_);rw [HB.out];rintro e w7 ⟨rfl,hx⟩;have hm9:=HM.out.go bel hx;clear HM;have HM:=J hm9;(try clear n0 nr0 n1 nr1 n2 nr2 n3 nr3 n4 nr4 n5 nr5);(try clear o0 or0 o1 or1 o2 or2 o3 or3 o4 or4 o5 or5);obtain ⟨n0,n1,n2,n3,n4,n5,nr0,nr1,nr2,nr3,nr4,nr5⟩:=cf6 (hm9.res);obtain ⟨o0,o1,o2,o3,o4,o5,or0,or1,or2,or3,or4,or5⟩:=cf6 (hm9.out);clear hm9 hx));go_meet;rw [HE9.out.1,HE9.out.2.1,HE9.out.2.2];exact ⟨A,n,c,HM.out⟩
 case rest=>
  obtain ⟨A,n,c,hm9⟩:=hcut;clear HM HT
  (try clear n0 nr0 n1 nr1 n2 nr2 n3 nr3 n4 nr4 n5 nr5)
  (try clear o0 or0 o1 or1 o2 or2 o3 or3 o4 or4 o5 or5)
  have HM:=J hm9
  rename World=>wa
  obtain ⟨n0,n1,n2,n3,n4,n5,nr0,nr1,nr2,nr3,nr4,nr5⟩:=cf6 (hm9.res);obtain ⟨o0,o1,o2,o3,o4,o5,or0,or1,or2,or3,or4,or5⟩:=cf6 (hm9.out);clear hm9;obtain ⟨b5,hb5⟩:=aE (isT T ps 3 wH);have HB5:=J hb5;clear hb5
  cases b5 with
  | true=>
   have HI0:=J (eL HB5.out HOK.out Y3);obtain ⟨t5,ht5⟩:=aE (ahd T ps 0);have HT5:=J ht5;obtain ⟨⟨ta,s1⟩,hna⟩:=aE (bT T (aI ps) 2 kT);have HNA:=J hna;have hg1:=fU HOK.out.at0 (aI ps) 2 kT Y3;rw [hna] at hg1;have HI1:Hid ((aI ps).i≤T.length):=J HI0.out;have HI2:Hid (s1.i≤T.length):=J (hg1.top HI1.out);obtain ⟨⟨tb,s2⟩,hnb⟩:=aE (bT T s1 4 eB);have HNB:=J hnb;have hg2:=fU HOK.out.at0 s1 4 eB Y3;rw [hnb] at hg2;have HI2b:=J (hg2.top HI2.out);obtain ⟨s3,hs3⟩:=aE ((if 255<tb.num then cH s2 tb 2 else s2));have HS3:=J hs3;obtain ⟨⟨tc,s4⟩,hnc⟩:=aE (bT T s3 3 sG);have HNC:=J hnc;have HI3:Hid (s3.i≤T.length):=J (by rw [←hs3];split;rw [kK];exact HI2b.out;exact HI2b.out);have HE:Hid (kQ T s=(pt,pn,tb.num,s4)):=J (by
    unfold kQ;rw [HP.out];dsimp only;rw [if_pos HB5.out,hna];dsimp only;rw [hnb];dsimp only;rw [hs3,hnc])
   clear ht5 hna hg1 hnb hg2 hs3 hnc
   go_upto_region 16 with (first | (go_at_call 48;(with_reducible refine (bD HM.out.pt.1.pt bel HOK.out 3 wH).mono ?_);rw [HB5.out];rintro e wB ⟨rfl,hx⟩;have hm9:=HM.out.go bel hx;clear HM;have HM:=J hm9;(try clear n0 nr0 n1 nr1 n2 nr2 n3 nr3 n4 nr4 n5 nr5);(try clear o0 or0 o1 or1 o2 or2 o3 or3 o4 or4 o5 or5);obtain ⟨n0,n1,n2,n3,n4,n5,nr0,nr1,nr2,nr3,nr4,nr5⟩:=cf6 (hm9.res);obtain ⟨o0,o1,o2,o3,o4,o5,or0,or1,or2,or3,or4,or5⟩:=cf6 (hm9.out);clear hm9 hx) | (go_at_call 49;(with_reducible refine (dI (HM.out.pt.1.below bel) HOK.out HIP.out HT5.out).mono ?_);rintro e wC ⟨rfl,hx⟩;have hm9:=HM.out.go bel hx;clear HM;have HM:=J hm9;(try clear n0 nr0 n1 nr1 n2 nr2 n3 nr3 n4 nr4 n5 nr5);(try clear o0 or0 o1 or1 o2 or2 o3 or3 o4 or4 o5 or5);obtain ⟨n0,n1,n2,n3,n4,n5,nr0,nr1,nr2,nr3,nr4,nr5⟩:=cf6 (hm9.res);obtain ⟨o0,o1,o2,o3,o4,o5,or0,or1,or2,or3,or4,or5⟩:=cf6 (hm9.out);clear hm9 hx) | (go_at_call 27;(with_reducible refine (gI (HM.out.pt.1.below bel) HOK.out HI1.out 2 kT HNA.out).mono ?_);rintro e wD ⟨rfl,hx⟩;have hm9:=HM.out.go bel hx;clear HM;have HM:=J hm9;(try clear n0 nr0 n1 nr1 n2 nr2 n3 nr3 n4 nr4 n5 nr5);(try clear o0 or0 o1 or1 o2 or2 o3 or3 o4 or4 o5 or5);obtain ⟨n0,n1,n2,n3,n4,n5,nr0,nr1,nr2,nr3,nr4,nr5⟩:=cf6 (hm9.res);obtain ⟨o0,o1,o2,o3,o4,o5,or0,or1,or2,or3,or4,or5⟩:=cf6 (hm9.out);clear hm9 hx) | (go_at_call 27;(with_reducible refine (gI (HM.out.pt.1.below bel) HOK.out HI2.out 4 eB HNB.out).mono ?_);rintro e w8 ⟨rfl,hx⟩;have hm9:=HM.out.go bel hx;clear HM;have HM:=J hm9;(try clear n0 nr0 n1 nr1 n2 nr2 n3 nr3 n4 nr4 n5 nr5);(try clear o0 or0 o1 or1 o2 or2 o3 or3 o4 or4 o5 or5);obtain ⟨n0,n1,n2,n3,n4,n5,nr0,nr1,nr2,nr3,nr4,nr5⟩:=cf6 (hm9.res);obtain ⟨o0,o1,o2,o3,o4,o5,or0,or1,or2,or3,or4,or5⟩:=cf6 (hm9.out);clear hm9 hx))
   have hal:=(Below.refl w8.heap.size w8).alloc aR (.cells #[.int .i64 tb.kind,.string (tx tb),.int .i64 tb.num,.int .i64 (tb.at_:Int)] 72);have htb:=heap_alloc_new w8 (.cells #[.int .i64 tb.kind,.string (tx tb),.int .i64 tb.num,.int .i64 (tb.at_:Int)] 72);have HNE:Hid (w8.heap.size≠pb):=J (by have:=HM.out.pl;have:=aA HM.out.out;omega);have hm9:=HM.out.below hal;obtain ⟨w9,hw9⟩:∃wt,w8.alloc (.cells #[.int .i64 tb.kind,.string (tx tb),.int .i64 tb.num,.int .i64 (tb.at_:Int)] 72)=wt:=⟨_,rfl⟩;rw [hw9] at hm9 htb ⊢;clear HM hw9;have HM:=J hm9
   (try clear n0 nr0 n1 nr1 n2 nr2 n3 nr3 n4 nr4 n5 nr5)
   (try clear o0 or0 o1 or1 o2 or2 o3 or3 o4 or4 o5 or5)
   obtain ⟨n0,n1,n2,n3,n4,n5,nr0,nr1,nr2,nr3,nr4,nr5⟩:=cf6 (hm9.res);obtain ⟨o0,o1,o2,o3,o4,o5,or0,or1,or2,or3,or4,or5⟩:=cf6 (hm9.out);have HTB:=J htb;obtain ⟨c0,c1,c2,c3⟩:=cc4 (htb);clear hm9 htb hal
   by_cases h255:255<tb.num
   ·have e9:s3=cH s2 tb 2:=by have h9:=HS3.out;rw [if_pos h255] at h9;exact h9.symm
    have d1:decide ((255:Int)<tb.num)=true:=aD h255;subst e9;clear h255
    go_upto_region 20 with (first | (go_at_call 51;(with_reducible refine (iR (HM.out.pt.1.below bel) tb 2).mono ?_);rintro e w10 ⟨rfl,hx⟩;have tb9:=PT.keepB bel hx HTB.out HNE.out;clear HTB;have HTB:=J tb9;(try clear c0 c1 c2 c3);obtain ⟨c0,c1,c2,c3⟩:=cc4 (tb9);clear tb9;have hm9:=HM.out.go bel hx;clear HM;have HM:=J hm9;(try clear n0 nr0 n1 nr1 n2 nr2 n3 nr3 n4 nr4 n5 nr5);(try clear o0 or0 o1 or1 o2 or2 o3 or3 o4 or4 o5 or5);obtain ⟨n0,n1,n2,n3,n4,n5,nr0,nr1,nr2,nr3,nr4,nr5⟩:=cf6 (hm9.res);obtain ⟨o0,o1,o2,o3,o4,o5,or0,or1,or2,or3,or4,or5⟩:=cf6 (hm9.out);clear hm9 hx) | (go_at_call 27;(with_reducible refine (gI (HM.out.pt.1.below bel) HOK.out HI3.out 3 sG HNC.out).mono ?_);rintro e w11 ⟨rfl,hx⟩;have tb9:=PT.keepB bel hx HTB.out HNE.out;clear HTB;have HTB:=J tb9;(try clear c0 c1 c2 c3);obtain ⟨c0,c1,c2,c3⟩:=cc4 (tb9);clear tb9;have hm9:=HM.out.go bel hx;clear HM;have HM:=J hm9;(try clear n0 nr0 n1 nr1 n2 nr2 n3 nr3 n4 nr4 n5 nr5);(try clear o0 or0 o1 or1 o2 or2 o3 or3 o4 or4 o5 or5);obtain ⟨n0,n1,n2,n3,n4,n5,nr0,nr1,nr2,nr3,nr4,nr5⟩:=cf6 (hm9.res);obtain ⟨o0,o1,o2,o3,o4,o5,or0,or1,or2,or3,or4,or5⟩:=cf6 (hm9.out);clear hm9 hx))
    exact Z76
   ·have e9:s3=s2:=by have h9:=HS3.out;rw [if_neg h255] at h9;exact h9.symm
    have d1:decide ((255:Int)<tb.num)=false:=aK h255;subst e9;clear h255
    go_upto_region 20 with (first | (go_at_call 27;(with_reducible refine (gI (HM.out.pt.1.below bel) HOK.out HI3.out 3 sG HNC.out).mono ?_);rintro e w11 ⟨rfl,hx⟩;have tb9:=PT.keepB bel hx HTB.out HNE.out;clear HTB;have HTB:=J tb9;(try clear c0 c1 c2 c3);obtain ⟨c0,c1,c2,c3⟩:=cc4 (tb9);clear tb9;have hm9:=HM.out.go bel hx;clear HM;have HM:=J hm9;(try clear n0 nr0 n1 nr1 n2 nr2 n3 nr3 n4 nr4 n5 nr5);(try clear o0 or0 o1 or1 o2 or2 o3 or3 o4 or4 o5 or5);obtain ⟨n0,n1,n2,n3,n4,n5,nr0,nr1,nr2,nr3,nr4,nr5⟩:=cf6 (hm9.res);obtain ⟨o0,o1,o2,o3,o4,o5,or0,or1,or2,or3,or4,or5⟩:=cf6 (hm9.out);clear hm9 hx))
    exact Z76
  | false=>
   have HE:Hid (kQ T s=(pt,pn,0,ps)):=J (by
    unfold kQ;rw [HP.out];dsimp only;rw [if_neg (by rw [HB5.out];decide)])
   go_wp2_with (first | (go_at_call 48;(with_reducible refine (bD HM.out.pt.1.pt bel HOK.out 3 wH).mono ?_);rw [HB5.out];rintro e wB ⟨rfl,hx⟩;have hm9:=HM.out.go bel hx;clear HM;have HM:=J hm9;(try clear n0 nr0 n1 nr1 n2 nr2 n3 nr3 n4 nr4 n5 nr5);(try clear o0 or0 o1 or1 o2 or2 o3 or3 o4 or4 o5 or5);obtain ⟨n0,n1,n2,n3,n4,n5,nr0,nr1,nr2,nr3,nr4,nr5⟩:=cf6 (hm9.res);obtain ⟨o0,o1,o2,o3,o4,o5,or0,or1,or2,or3,or4,or5⟩:=cf6 (hm9.out);clear hm9 hx));obtain ⟨W9,hW9⟩:∃W9,W9=((((((wB.setCell ⟨w.heap.size,0,none⟩ (.int .i64 11)).setCell ⟨w.heap.size,1,none⟩ (.string pt)).setCell ⟨w.heap.size,2,none⟩ (.int .i64 0)).setCell ⟨w.heap.size,3,none⟩ (.slice A n c)).setCell ⟨w.heap.size,4,none⟩ (.slice none 0 0)).setCell ⟨w.heap.size,5,none⟩ (.slice none 0 0)):=⟨_,rfl⟩;have h9:W9.heap[w.heap.size]? =some (.cells #[.int .i64 11,.string pt,.int .i64 0,.slice A n c,.slice none 0 0,.slice none 0 0] 25 (0,0)):=Y19;obtain ⟨z0,z1,z2,z3,z4,z5⟩:=cc6 h9;have HT9:Hid (Turns (fun k=>k=w.heap.size) wB W9):=J Y2;rw [←hW9];clear hW9 h9;refine bodyPost_ret (v:=.agg #[.int .i64 11,.string pt,.int .i64 0,.slice A n c,.slice none 0 0,.slice none 0 0]) (by simp [results,Tryz.results24,go_sem,z0,z1,z2,z3,z4,z5]) rfl ?_;rw [HPO.out,HE.out];have hl9:=HM.out.len.1;refine ⟨A,c,?_,HM.out.pt.turned HT9.out (fun k e=>by have e9:k=w.heap.size:=e;exact ⟨by omega,by have:=HPL.out;omega,by rw [e9];exact HOLD.out⟩),?_⟩
   ·show Ending.returned (.agg #[.int .i64 11,.string pt,.int .i64 0,.slice A n c,.slice none 0 0,.slice none 0 0])=Ending.returned (.agg #[.int .i64 11,.string pt,.int .i64 0,.slice A pn.length c,.slice none 0 0,.slice none 0 0])
    rw [hl9]
   ·show SRow _ _ (.slice A pn.length c) pn
    rw [←hl9];exact bR (SRow.turned HM.out.nam HT9.out (fun b e=>by have e9:b=w.heap.size:=e;omega)) I
end Go.Proofs.YtnojndgmgkgnpaaGreat
namespace Go.Proofs.YtnojndgmgkgnpaaGreat
theorem rW:∀(l t:Lx.Bs) (n:Nat),Lx.txt l=some (t,n)→t.length≤l.length
 | [],t,n,h=>by simp [Lx.txt] at h
 | [c],t,n,h=>by
  unfold Lx.txt at h
  split at h
  ·simp at h;obtain ⟨rfl,_⟩:=h;simp
  ·cases h
 | c :: d :: r,t,n,h=>by
  unfold Lx.txt at h
  split at h
  ·split at h
   ·cases hx:Lx.txt r with
    | none=>rw [hx] at h;cases h
    | some x=>rw [hx] at h;simp at h;obtain ⟨rfl,_⟩:=h;have:=rW r x.1 x.2 hx;simp;omega
   ·simp at h;obtain ⟨rfl,_⟩:=h;simp
  ·cases hx:Lx.txt (d :: r) with
   | none=>rw [hx] at h;cases h
   | some x=>rw [hx] at h;simp at h;obtain ⟨rfl,_⟩:=h;have:=rW (d :: r) x.1 x.2 hx;simp at this ⊢;omega
theorem dig_ge {c:UInt8} (h:Lx.digB c=true):48≤c.toNat:=by
 simp only [Lx.digB,Bool.and_eq_true,decide_eq_true_eq] at h;exact UInt8.le_iff_toNat_le.1 h.1
theorem num_in:∀(l:Lx.Bs) (n v:Int),0≤n→n≤Lx.big→Lx.numV l n=some v→0≤v∧v≤Lx.big
 | [],n,v,h0,h1,h=>by simp [Lx.numV] at h;subst h;exact ⟨h0,h1⟩
 | c :: r,n,v,h0,h1,h=>by
  unfold Lx.numV at h
  split at h
  ·rename_i hd
   split at h
   ·cases h
   ·rename_i hb;have h48:=dig_ge hd;exact num_in r _ v I I h
  ·simp at h;subst h;exact ⟨h0,h1⟩
theorem sym_len {l t:Lx.Bs} {n:Nat} (h:Lx.symV l= .ok t n):t.length≤l.length:=by
 unfold Lx.symV at h
 repeat' split at h
 all_goals (cases h;try (simp only [List.length_take];omega))
theorem wrd_len {l:Lx.Bs} {t:Lx.Tok} {n:Nat} (h:Lx.wrdV l= .ok t n):t.num=0∧t.text.length≤l.length:=by
 unfold Lx.wrdV at h
 repeat' split at h
 all_goals (cases h;try exact ⟨rfl,by simp only [List.length_take];omega⟩)
theorem tok_len {l:Lx.Bs} {t:Lx.Tok} {n:Nat} (h:Lx.tokV l= .ok t n):(0≤t.num∧t.num≤Lx.big)∧t.text.length≤l.length:=by
 have hz:(0:Int)≤0∧(0:Int)≤Lx.big:=Y3
 cases l with
 | nil=>simp [Lx.tokV] at h
 | cons c r=>
  simp only [Lx.tokV] at h
  split at h
  ·have h9:=wrd_len h;exact ⟨by rw [h9.1];exact hz,h9.2⟩
  split at h
  ·cases hn:Lx.numV (c :: r) 0 with
   | none=>rw [hn] at h;cases h
   | some v=>
    rw [hn] at h
    cases h
    exact ⟨num_in _ _ _ hz.1 hz.2 hn,Nat.zero_le _⟩
  split at h
  ·cases ht:Lx.txt r with
   | none=>rw [ht] at h;cases h
   | some z=>
    obtain ⟨t9,n9⟩:=z;rw [ht] at h
    cases h
    have:=rW _ _ _ ht;exact ⟨hz,Nat.le_succ_of_le this⟩
  split at h
  ·split at h
   ·cases h;exact ⟨hz,Nat.zero_le _⟩
   ·cases hs:Lx.symV r with
    | err e=>rw [hs] at h;cases h
    | ok t9 n9=>
     rw [hs] at h
     cases h
     have:=sym_len hs;exact ⟨hz,Nat.le_succ_of_le this⟩
  split at h
  ·cases h;exact ⟨hz,Nat.zero_le _⟩
  split at h
  ·split at h
   ·cases h
   ·cases h;exact ⟨hz,by simp only [List.length_take,List.length_cons];omega⟩
  split at h
  ·cases h;exact ⟨hz,by simp only [List.length_take];omega⟩
  split at h
  ·cases h;exact ⟨hz,by simp⟩
  ·cases h
theorem tM:∀(f at_:Nat) (l:Lx.Bs) (A:Tks),Lx.toksF f at_ l= .ok A→0<A.length∧A.length≤l.length+1∧(A.getD (A.length-1) fG).kind=0∧∀t,t∈A→(0≤t.num∧t.num≤Lx.big)∧t.text.length≤l.length
 | 0,_,_,_,h=>by simp [Lx.toksF] at h
 | f+1,at_,l,A,h=>by
  unfold Lx.toksF at h
  split at h
  ·cases h
  split at h
  ·cases h
   refine ⟨by simp,by simp,rfl,fun t ht=>?_⟩;rw [List.mem_singleton] at ht;subst ht;exact ⟨show (0:Int)≤0∧(0:Int)≤Lx.big by decide,Nat.zero_le _⟩
  ·split at h
   ·cases h
   ·rename_i t n ht
    cases hr:Lx.toksF f (at_+(Lx.skipV l).1+n) (l.drop ((Lx.skipV l).1+n)) with
    | err a e=>rw [hr] at h;cases h
    | ok B=>
     rw [hr] at h;have e9:A=⟨t.kind,t.text,t.num,at_+(Lx.skipV l).1⟩ :: B:=by cases h;rfl
     obtain ⟨b1,b2,b3,b4⟩:=tM f _ _ B hr;obtain ⟨n1,n2,_⟩:=Lx.tok_pos ht;obtain ⟨m1,m2⟩:=tok_len ht;rw [List.length_drop] at b2 n2 m2;subst e9;refine ⟨by simp,by rw [List.length_cons];omega,?_,fun x hx=>?_⟩
     ·obtain ⟨k,hk⟩:∃k,B.length=k+1:=⟨B.length-1,by omega⟩;rw [List.length_cons,hk];rw [hk] at b3;exact b3
     ·rcases List.mem_cons.1 hx with z | z
      ·subst z;exact ⟨m1,by show t.text.length≤_;omega⟩
      ·obtain ⟨c1,c2⟩:=b4 x z;rw [List.length_drop] at c2;exact ⟨c1,by omega⟩
theorem tx_len (t:Lx.ATok):(tx t).size=t.text.length:=by
 unfold tx Lx.strB;simp [ByteArray.size]
theorem TokOk.of {s:ByteArray} (hs:s.size≤2000) {T:Tks} (h:Lx.toksV s.data.toList= .ok T):TokOk T∧T.length≤s.size+1:=by
 obtain ⟨h1,h2,h3,h4⟩:=tM _ _ _ _ h;have hl:s.data.toList.length=s.size:=by rw [Array.length_toList];rfl
 rw [hl] at h2;have hb:Lx.big=1152921504606846976:=rfl;refine ⟨⟨h1,by omega,h3,fun t ht=>?_,fun t ht=>?_⟩,h2⟩
 ·have:=(h4 t ht).1;rw [hb] at this;unfold InI;omega
 ·have:=(h4 t ht).2;rw [tx_len];omega
end Go.Proofs.YtnojndgmgkgnpaaGreat
