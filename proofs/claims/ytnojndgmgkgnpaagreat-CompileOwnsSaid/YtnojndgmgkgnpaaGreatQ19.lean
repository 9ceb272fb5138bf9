/- Chapter 10: words and contracts for the law. -/
import Derived.Test.YtnojndgmgkgnpaaGreatQ16
set_option maxRecDepth 100000
set_option maxHeartbeats 40000000
set_option linter.unusedVariables false
set_option linter.unusedSimpArgs false
namespace Go.Proofs.YtnojndgmgkgnpaaGreat
open Go.ChangeShapes Go.WideShapes Go.ChangeAt Go.RowKit Go.Deep Go.Joins Go.Maps
theorem lit_step {n g i j k l:Nat} (h:n<g+i) (h0:0<g) (h1:i<j) (h2:k≤i) (h3:l=k+1):n<(g-1)+j∧l≤j:=I
theorem tI {T:Tks} (hok:TokOk T) (s:PSt):(∀(W:World) (D:Nat→Prop),IsNd W D (bV T s).1 ⟨none,0,none,0,none,0⟩)∧(Obj.cells #[.int .i64 (bV T s).1.kind,.string (bV T s).1.text,.int .i64 (bV T s).1.num,.slice none 0 0,.slice none 0 0,.slice none 0 0] 25 (0,0))=Obj.cells #[.int .i64 (bV T s).1.kind,.string (bV T s).1.text,.int .i64 (bV T s).1.num,.slice (⟨none,0,none,0,none,0⟩:NS).pn (bV T s).1.names.length (⟨none,0,none,0,none,0⟩:NS).cn,.slice (⟨none,0,none,0,none,0⟩:NS).pt (bV T s).1.temps.length (⟨none,0,none,0,none,0⟩:NS).ct,.slice (⟨none,0,none,0,none,0⟩:NS).pk (bV T s).1.kids.length (⟨none,0,none,0,none,0⟩:NS).ck] 25 (0,0):=by
 have key:∀(k n:Int) (t:ByteArray),InI k→InI n→t.size≤bL→∀r:NodT×Bool×PSt,r.1= .node k t n [] [] []→(∀(W:World) (D:Nat→Prop),IsNd W D r.1 ⟨none,0,none,0,none,0⟩)∧(Obj.cells #[.int .i64 r.1.kind,.string r.1.text,.int .i64 r.1.num,.slice none 0 0,.slice none 0 0,.slice none 0 0] 25 (0,0))=Obj.cells #[.int .i64 r.1.kind,.string r.1.text,.int .i64 r.1.num,.slice (⟨none,0,none,0,none,0⟩:NS).pn r.1.names.length (⟨none,0,none,0,none,0⟩:NS).cn,.slice (⟨none,0,none,0,none,0⟩:NS).pt r.1.temps.length (⟨none,0,none,0,none,0⟩:NS).ct,.slice (⟨none,0,none,0,none,0⟩:NS).pk r.1.kids.length (⟨none,0,none,0,none,0⟩:NS).ck] 25 (0,0):=fun k n t h1 h2 h3 r e=>by
  rw [e];exact ⟨fun W D=>IsNd.leaf W D h1 h2 h3,rfl⟩
 have hnum:∀(s:PSt) (k:Nat),InI (ahd T s k).num:=fun s k=>hok.num _ (gK hok)
 have htx:(tx (ahd T s 0)).size≤bL:=iN hok rfl;have h0:InI 0:=⟨by decide,by decide⟩;have he:eB.size≤bL:=Y3;have hw:∀x:Int,InI (wrp x):=fun x=>by unfold InI wrp Go.RowKit.wrap64;omega
 unfold bV
 split
 ·exact key _ _ _ ⟨by decide,by decide⟩ (hw _) he _ rfl
 ·split
  ·exact key _ _ _ ⟨by decide,by decide⟩ (hnum _ _) he _ rfl
  ·split
   ·exact key _ _ _ ⟨by decide,by decide⟩ h0 htx _ rfl
   ·split
    ·exact key _ _ _ ⟨by decide,by decide⟩ h0 htx _ rfl
    ·exact key _ _ _ h0 h0 he _ rfl
theorem Z73 {P:Prop} (h:P:=by
 go_wp2_with fail;obtain ⟨W9,hW9⟩:∃W9,W9=((((((wr.setCell ⟨w.heap.size,0,none⟩ (.int .i64 4)).setCell ⟨w.heap.size,1,none⟩ (.string eB)).setCell ⟨w.heap.size,2,none⟩ (.int .i64 0)).setCell ⟨w.heap.size,3,none⟩ (.slice none 0 0)).setCell ⟨w.heap.size,4,none⟩ (.slice none 0 0)).setCell ⟨w.heap.size,5,none⟩ (.slice A n c)):=⟨_,rfl⟩;have h9:W9.heap[w.heap.size]? =some (.cells #[.int .i64 4,.string eB,.int .i64 0,.slice none 0 0,.slice none 0 0,.slice A n c] 25 (0,0)):=Y19;obtain ⟨z0,z1,z2,z3,z4,z5⟩:=cc6 h9;have HT9:Hid (Turns (fun k=>k=w.heap.size) wr W9):=J Y2;rw [←hW9];clear hW9 h9;refine bodyPost_ret (v:=.agg #[.int .i64 4,.string eB,.int .i64 0,.slice none 0 0,.slice none 0 0,.slice A n c]) (by simp [results,Tryz.results87,go_sem,z0,z1,z2,z3,z4,z5]) rfl ?_;rw [HE.out];refine ⟨⟨none,0,none,0,A,c⟩,?_,HM.out.fin HT9.out,(HM.out.node HT9.out ⟨by decide,by decide⟩ ⟨by decide,by decide⟩ Y3).more (fun b z _=>.inr z)⟩
 show Ending.returned (.agg #[.int .i64 4,.string eB,.int .i64 0,.slice none 0 0,.slice none 0 0,.slice A n c])=Ending.returned (.agg #[.int .i64 4,.string eB,.int .i64 0,.slice none 0 0,.slice none 0 0,.slice A (ps.map Prod.fst).length c])
 rw [List.length_map,HM.out.len.1]):P:=h
theorem Z74 {P:Prop} (h:P:=by
 go_meet;have hT9:Turns (fun k=>k=nx) wl ((((((wl.setCell ⟨nx,0,none⟩ (.int .i64 y.kind)).setCell ⟨nx,1,none⟩ (.string y.text)).setCell ⟨nx,2,none⟩ (.int .i64 y.num)).setCell ⟨nx,3,none⟩ (.slice qy.pn y.names.length qy.cn)).setCell ⟨nx,4,none⟩ (.slice qy.pt y.temps.length qy.ct)).setCell ⟨nx,5,none⟩ (.slice qy.pk y.kids.length qy.ck)):=aU (T:=fun k=>k=nx) (Turns.refl _ _) nx rfl;have hm9:=HM.out.turned hT9 (fun k e=>by have e9:k=nx:=e;have h7:=HFR.out k I;exact ⟨h7.1,h7.2,fun z=>z.2 e9⟩);exact ⟨qy,hm9,aV HXB.out,HNY.out.turns hT9 (fun b z _ e=>z.1.2 e) (fun _ z=>z)⟩):P:=h
theorem Z75 {P:Prop} (h:P:=by
 rw [ey,es];exact ⟨⟨none,0,none,0,none,0⟩,HM.out,by rw [←HLF2.out];exact HXB.out,HLF.out _ _⟩):P:=h
theorem lits_go {f:Nat} {w:World} {pb:Nat} {v:Value} {T:Tks} {s:PSt} (hp:PSpec T f) (h:PW w pb v T s) (hok:TokOk T) (hi:s.i<T.length) (hfu:8*(T.length-s.i)+0<f+1):Calls Tryz.prog 87 #[.pointer (some ⟨pb,0,none⟩)] w (NdP (fun _=>False) pb v T (jP T (rcF T f) s) w):=by
 have HOK:=J hok;have HI:Hid (s.i≤T.length):=J (Nat.le_of_lt hi);have HFU:Hid (8*(T.length-s.i)+0<f+1∧s.i<T.length):=J ⟨hfu,hi⟩;have H0:Hid (Mw w ((w.alloc (.cells #[.int .i64 0,.string eB,.int .i64 0,.slice none 0 0,.slice none 0 0,.slice none 0 0] 25)).alloc (.cells #[.int .i64 4,.string eB,.int .i64 0,.slice none 0 0,.slice none 0 0,.slice none 0 0] 25)) (iG w (w.heap.size+1)) (w.heap.size+1) pb v T s 4 eB (.slice none 0 0) []):=J (by
  have hb:Below w.heap.size w ((w.alloc (.cells #[.int .i64 0,.string eB,.int .i64 0,.slice none 0 0,.slice none 0 0,.slice none 0 0] 25)).alloc (.cells #[.int .i64 4,.string eB,.int .i64 0,.slice none 0 0,.slice none 0 0,.slice none 0 0] 25)):=bel;have h1:=heap_alloc_new w (.cells #[.int .i64 0,.string eB,.int .i64 0,.slice none 0 0,.slice none 0 0,.slice none 0 0] 25);have h2:=heap_alloc_new (w.alloc (.cells #[.int .i64 0,.string eB,.int .i64 0,.slice none 0 0,.slice none 0 0,.slice none 0 0] 25)) (.cells #[.int .i64 4,.string eB,.int .i64 0,.slice none 0 0,.slice none 0 0,.slice none 0 0] 25);rw [World.size_alloc] at h2;exact ⟨⟨h.below hb,Turns.of_below hb⟩,Nat.lt_succ_self _,aA h.box,fun k e=>(World.ownsRow.lt h.row k e).2,(ba |>.block _ (aA h1)).trans h1,h2,NdRow.nil _ _ _,fun _ z=>z⟩)
 obtain ⟨⟨bo,so⟩,ho⟩:=aE (dW T s);have HO:=J ho;have hog:=lT (T:=T) hi;rw [ho] at hog;have HOP:Hid (so.i=s.i+1∧(bo=false→so.e≠0)):=J hog.2;obtain ⟨RR,hrr⟩:=aE ((if bo then fS T (rcF T f) (T.length+1) [] so else ([],so)));have HRR:=J hrr;have HE0:Hid (jP T (rcF T f) s=(.node 4 eB 0 [] [] RR.1,if RR.2.e=0 then hE (aI RR.2) else RR.2)):=J (by
  unfold jP;rw [ho];dsimp only;rw [hrr])
 clear h hok hi hfu ho hog hrr;go_enter Tryz.func87,Tryz.ntmps87
 go_upto_region 2 with fail
 have hm9:=H0.out;obtain ⟨w1,hw1⟩:∃w1,((w.alloc (.cells #[.int .i64 0,.string eB,.int .i64 0,.slice none 0 0,.slice none 0 0,.slice none 0 0] 25)).alloc (.cells #[.int .i64 4,.string eB,.int .i64 0,.slice none 0 0,.slice none 0 0,.slice none 0 0] 25))=w1:=⟨_,rfl⟩;rw [hw1] at hm9 ⊢;have HM:=J hm9;clear hw1 H0 hm9
 go_upto_region 3 with (first | (go_at_call 88;(with_reducible refine (lA (HM.out.pt.1.below bel) HOK.out HI.out).mono ?_);rw [HO.out];rintro e w3 ⟨rfl,hx⟩;have hm9:=HM.out.go bel hx;clear HM;have HM:=J hm9;(try clear n0 nr0 n1 nr1 n2 nr2 n3 nr3 n4 nr4 n5 nr5);(try clear o0 or0 o1 or1 o2 or2 o3 or3 o4 or4 o5 or5);obtain ⟨n0,n1,n2,n3,n4,n5,nr0,nr1,nr2,nr3,nr4,nr5⟩:=cf6 (hm9.res);obtain ⟨o0,o1,o2,o3,o4,o5,or0,or1,or2,or3,or4,or5⟩:=cf6 (hm9.out);clear hm9 hx))
 go_wp2_with fail
 go_loopg [] (T.length+1) (fun g wr=>∃(A:Option Addr) (n c:Nat) (ps:List NP) (sk:PSt),Mw w wr (iG w (w.heap.size+1)) (w.heap.size+1) pb v T sk 4 eB (.slice A n c) ps∧sk.i≤T.length∧(bo=true→RR=fS T (rcF T f) g (ps.map Prod.fst) sk)∧(bo=false→RR=(ps.map Prod.fst,sk)∧sk.e≠0)∧(bo=true→sk.e=0→T.length<g+sk.i∧ps.length≤sk.i)∧s.i+1≤sk.i)
 case atStart=>exact ⟨none,0,0,[],so,HM.out,by have:=HOP.out.1;have:=HFU.out.2;omega,fun z=>by have h9:=HRR.out;rw [if_pos z] at h9;exact h9.symm,fun z=>⟨by have h9:=HRR.out;rw [if_neg (by rw [z];decide)] at h9;exact h9.symm,HOP.out.2 z⟩,fun _ _=>⟨by omega,Nat.zero_le _⟩,by rw [HOP.out.1];exact Nat.le_refl _⟩
 case round=>
  obtain ⟨A,n,c,ps,sk,hm9,hil,hrt,hrf,hgp,hmo⟩:=hrel;clear HM
  (try clear n0 nr0 n1 nr1 n2 nr2 n3 nr3 n4 nr4 n5 nr5)
  (try clear o0 or0 o1 or1 o2 or2 o3 or3 o4 or4 o5 or5)
  have HM:=J hm9;have HIL:=J hil;have HRT:=J hrt;have HRF:=J hrf;have HGP:=J hgp;have HMO:=J hmo;obtain ⟨t,ht⟩:=aE (ahd T sk 0);have HT:=J ht;obtain ⟨br,hbr⟩:=aE (isT T sk 10 mC);have HBR:=J hbr;have k3:wr.cell? ⟨pb,3,none⟩=some (.int .i64 sk.e):=hm9.pt.1.cell rfl;obtain ⟨n0,n1,n2,n3,n4,n5,nr0,nr1,nr2,nr3,nr4,nr5⟩:=cf6 (hm9.res);obtain ⟨o0,o1,o2,o3,o4,o5,or0,or1,or2,or3,or4,or5⟩:=cf6 (hm9.out);clear hm9 hil hrt hrf hgp hmo ht hbr
  cases bo with
  | false=>
   have HR9:=J (HRF.out rfl);have HE:Hid (jP T (rcF T f) s=(.node 4 eB 0 [] [] (ps.map Prod.fst),sk)):=J (by
    rw [HE0.out,HR9.out.1];dsimp only;rw [if_neg HR9.out.2])
   have y1:(sk.e==0)=false:=by have h:=HR9.out.2;simpa using h
   exact Z73
  | true=>
   have HGP2:=J (HGP.out rfl);have HRT2:=J (HRT.out rfl);clear HGP HRT HRF
   by_cases he:sk.e=0
   ·have HS0:=J he;rw [he] at k3;clear he;have HB0:Hid (0<gk):=J (by have:=(HGP2.out HS0.out).1;have:=HIL.out;omega)
    cases br with
    | true=>
     have HR9:Hid (RR=(ps.map Prod.fst,sk)):=J (by
      rw [HRT2.out]
      cases gk with
      | zero=>rfl
      | succ g=>rw [fS,if_neg (by rw [HS0.out,HBR.out];simp)])
     have HE:Hid (jP T (rcF T f) s=(.node 4 eB 0 [] [] (ps.map Prod.fst),hE (aI sk))):=J (by
      rw [HE0.out,HR9.out];dsimp only;rw [if_pos HS0.out])
     have HLT:=J (eL HBR.out HOK.out Y3)
     go_upto_region 10 with (first | (go_at_call 48;(with_reducible refine (bD HM.out.pt.1.pt bel HOK.out 10 mC).mono ?_);rw [HBR.out];rintro e w4 ⟨rfl,hx⟩;have hm9:=HM.out.go bel hx;clear HM;have HM:=J hm9;(try clear n0 nr0 n1 nr1 n2 nr2 n3 nr3 n4 nr4 n5 nr5);(try clear o0 or0 o1 or1 o2 or2 o3 or3 o4 or4 o5 or5);obtain ⟨n0,n1,n2,n3,n4,n5,nr0,nr1,nr2,nr3,nr4,nr5⟩:=cf6 (hm9.res);obtain ⟨o0,o1,o2,o3,o4,o5,or0,or1,or2,or3,or4,or5⟩:=cf6 (hm9.out);clear hm9 hx))
     have k3:w4.cell? ⟨pb,3,none⟩=some (.int .i64 0):=by have h9:=HM.out.pt.1.cell (k:=3) rfl;rw [HS0.out] at h9;exact h9
     go_upto_region 12 with (first | (go_at_call 49;(with_reducible refine (dI (HM.out.pt.1.below bel) HOK.out HIL.out HT.out).mono ?_);rintro e w5 ⟨rfl,hx⟩;have hm9:=HM.out.go bel hx;clear HM;have HM:=J hm9;(try clear n0 nr0 n1 nr1 n2 nr2 n3 nr3 n4 nr4 n5 nr5);(try clear o0 or0 o1 or1 o2 or2 o3 or3 o4 or4 o5 or5);obtain ⟨n0,n1,n2,n3,n4,n5,nr0,nr1,nr2,nr3,nr4,nr5⟩:=cf6 (hm9.res);obtain ⟨o0,o1,o2,o3,o4,o5,or0,or1,or2,or3,or4,or5⟩:=cf6 (hm9.out);clear hm9 hx))
     have k2:w5.cell? ⟨pb,2,none⟩=some (.int .i64 (aI sk).deep):=HM.out.pt.1.cell rfl;have f2:=HM.out.pt.1.free 2
     go_upto_region 13 with fail
     have hm9:=HM.out.go (Below.refl _ _) (HM.out.pt.1.put (s':=hE (aI sk)) 2 (.int .i64 (Go.RowKit.wrap64 ((aI sk).deep-1))) rfl HM.out.pt.1.le);obtain ⟨w6,hw9⟩:=aE (w5.setCell ⟨pb,2,none⟩ (.int .i64 (Go.RowKit.wrap64 ((aI sk).deep-1))));rw [hw9] at hm9 ⊢;clear HM hw9;have HM:=J hm9
     (try clear n0 nr0 n1 nr1 n2 nr2 n3 nr3 n4 nr4 n5 nr5)
     (try clear o0 or0 o1 or1 o2 or2 o3 or3 o4 or4 o5 or5)
     obtain ⟨n0,n1,n2,n3,n4,n5,nr0,nr1,nr2,nr3,nr4,nr5⟩:=cf6 (hm9.res);obtain ⟨o0,o1,o2,o3,o4,o5,or0,or1,or2,or3,or4,or5⟩:=cf6 (hm9.out);clear hm9;go_wp2_with fail;obtain ⟨W9,hW9⟩:∃W9,W9=((((((w6.setCell ⟨w.heap.size,0,none⟩ (.int .i64 4)).setCell ⟨w.heap.size,1,none⟩ (.string eB)).setCell ⟨w.heap.size,2,none⟩ (.int .i64 0)).setCell ⟨w.heap.size,3,none⟩ (.slice none 0 0)).setCell ⟨w.heap.size,4,none⟩ (.slice none 0 0)).setCell ⟨w.heap.size,5,none⟩ (.slice A n c)):=⟨_,rfl⟩;have h9:W9.heap[w.heap.size]? =some (.cells #[.int .i64 4,.string eB,.int .i64 0,.slice none 0 0,.slice none 0 0,.slice A n c] 25 (0,0)):=Y19;obtain ⟨z0,z1,z2,z3,z4,z5⟩:=cc6 h9;have HT9:Hid (Turns (fun k=>k=w.heap.size) w6 W9):=J Y2;rw [←hW9];clear hW9 h9;refine bodyPost_ret (v:=.agg #[.int .i64 4,.string eB,.int .i64 0,.slice none 0 0,.slice none 0 0,.slice A n c]) (by simp [results,Tryz.results87,go_sem,z0,z1,z2,z3,z4,z5]) rfl ?_;rw [HE.out];refine ⟨⟨none,0,none,0,A,c⟩,?_,HM.out.fin HT9.out,(HM.out.node HT9.out ⟨by decide,by decide⟩ ⟨by decide,by decide⟩ Y3).more (fun b z _=>.inr z)⟩
     show Ending.returned (.agg #[.int .i64 4,.string eB,.int .i64 0,.slice none 0 0,.slice none 0 0,.slice A n c])=Ending.returned (.agg #[.int .i64 4,.string eB,.int .i64 0,.slice none 0 0,.slice none 0 0,.slice A (ps.map Prod.fst).length c])
     rw [List.length_map,HM.out.len.1]
    | false=>
     have HPB:Hid (ps.length≤1000000):=J (by have:=(HGP2.out HS0.out).2;have:=HIL.out;have:=HOK.out.len;omega);obtain ⟨⟨x,b,s3⟩,hpn⟩:=aE (bV T sk);have HPN:=J hpn;have hlf:=tI HOK.out sk;rw [hpn] at hlf;have HLF:Hid (∀(W:World) (D:Nat→Prop),IsNd W D x ⟨none,0,none,0,none,0⟩):=J hlf.1;have HLF2:Hid (Obj.cells #[.int .i64 x.kind,.string x.text,.int .i64 x.num,.slice none 0 0,.slice none 0 0,.slice none 0 0] 25 (0,0)=Obj.cells #[.int .i64 x.kind,.string x.text,.int .i64 x.num,.slice (⟨none,0,none,0,none,0⟩:NS).pn x.names.length (⟨none,0,none,0,none,0⟩:NS).cn,.slice (⟨none,0,none,0,none,0⟩:NS).pt x.temps.length (⟨none,0,none,0,none,0⟩:NS).ct,.slice (⟨none,0,none,0,none,0⟩:NS).pk x.kids.length (⟨none,0,none,0,none,0⟩:NS).ck] 25 (0,0)):=J hlf.2;obtain ⟨⟨y,s2⟩,hyy⟩:=aE (fK T (rcF T f) sk);have HLY:=J hyy;have hgp:=nW HOK.out.at0 (fY HOK.out.at0 f) sk;rw [hyy] at hgp;have HGY:Hid (s2.i≤T.length∧sk.i≤s2.i∧(s2.e=0→sk.i<s2.i)):=J ⟨hgp.1.go.top HIL.out,hgp.1.go.le,fun z=>(hgp.2 z).1⟩;clear hpn hlf hyy hgp;have HSI:=J ((nH HOK.out.at0 sk).2.2.1)
     go_upto_region 5 with (first | (go_at_call 48;(with_reducible refine (bD HM.out.pt.1.pt bel HOK.out 10 mC).mono ?_);rw [HBR.out];rintro e w4 ⟨rfl,hx⟩;have hm9:=HM.out.go bel hx;clear HM;have HM:=J hm9;(try clear n0 nr0 n1 nr1 n2 nr2 n3 nr3 n4 nr4 n5 nr5);(try clear o0 or0 o1 or1 o2 or2 o3 or3 o4 or4 o5 or5);obtain ⟨n0,n1,n2,n3,n4,n5,nr0,nr1,nr2,nr3,nr4,nr5⟩:=cf6 (hm9.res);obtain ⟨o0,o1,o2,o3,o4,o5,or0,or1,or2,or3,or4,or5⟩:=cf6 (hm9.out);clear hm9 hx) | (go_at_call 86;(with_reducible refine (pO (HM.out.pt.1.below bel) HOK.out HIL.out).mono ?_);rw [HPN.out];rintro e wp ⟨rfl,hx⟩;have hm9:=HM.out.go bel hx;clear HM;have HM:=J hm9;(try clear n0 nr0 n1 nr1 n2 nr2 n3 nr3 n4 nr4 n5 nr5);(try clear o0 or0 o1 or1 o2 or2 o3 or3 o4 or4 o5 or5);obtain ⟨n0,n1,n2,n3,n4,n5,nr0,nr1,nr2,nr3,nr4,nr5⟩:=cf6 (hm9.res);obtain ⟨o0,o1,o2,o3,o4,o5,or0,or1,or2,or3,or4,or5⟩:=cf6 (hm9.out);clear hm9 hx))
     have hal:=(Below.refl wp.heap.size wp).alloc aR (.cells #[.int .i64 x.kind,.string x.text,.int .i64 x.num,.slice none 0 0,.slice none 0 0,.slice none 0 0] 25);have h7:=heap_alloc_new wp (.cells #[.int .i64 x.kind,.string x.text,.int .i64 x.num,.slice none 0 0,.slice none 0 0,.slice none 0 0] 25);have hfr:=HM.out.fresh;have hm9:=(HM.out.apart wp.heap.size aR).below hal;have hnx:pb<wp.heap.size:=by have h9:=HM.out.pl;have h8:=aA HM.out.res;omega
     have hs7:(wp.alloc (.cells #[.int .i64 x.kind,.string x.text,.int .i64 x.num,.slice none 0 0,.slice none 0 0,.slice none 0 0] 25)).heap.size=wp.heap.size+1:=World.size_alloc _ _;obtain ⟨nx,hnxe⟩:=aE wp.heap.size;rw [hnxe] at h7 hm9 hfr hnx hs7 ⊢;obtain ⟨wq,hw9⟩:∃wt,wp.alloc (.cells #[.int .i64 x.kind,.string x.text,.int .i64 x.num,.slice none 0 0,.slice none 0 0,.slice none 0 0] 25)=wt:=⟨_,rfl⟩;rw [hw9] at h7 hm9 hs7 ⊢;clear HM hw9;have HM:=J hm9
     (try clear n0 nr0 n1 nr1 n2 nr2 n3 nr3 n4 nr4 n5 nr5)
     (try clear o0 or0 o1 or1 o2 or2 o3 or3 o4 or4 o5 or5)
     obtain ⟨n0,n1,n2,n3,n4,n5,nr0,nr1,nr2,nr3,nr4,nr5⟩:=cf6 (hm9.res);obtain ⟨o0,o1,o2,o3,o4,o5,or0,or1,or2,or3,or4,or5⟩:=cf6 (hm9.out);have HFR:=J hfr;have HNX:Hid (pb<nx∧w.heap.size<nx):=J ⟨hnx,(hfr nx aR).1.1⟩;have HWQ:Hid (wq.heap.size=nx+1):=J hs7;have HXB:=J h7;obtain ⟨m0,m1,m2,m3,m4,m5,mr0,mr1,mr2,mr3,mr4,mr5⟩:=cf6 (h7);clear hal h7 hfr hm9 hnx hnxe hs7
     go_upto_if 29 with fail
     go_cut [] from 10 to 47 (fun wx=>∃(qy:NS),Mw w wx (fun b=>iG w (w.heap.size+1) b∧b≠nx) (w.heap.size+1) pb v T s2 4 eB (.slice A n c) ps∧wx.heap[nx]? =some (.cells #[.int .i64 y.kind,.string y.text,.int .i64 y.num,.slice qy.pn y.names.length qy.cn,.slice qy.pt y.temps.length qy.ct,.slice qy.pk y.kids.length qy.ck] 25 (0,0))∧IsNd wx (fun b=>(iG w (w.heap.size+1) b∧b≠nx)∧Value.ownBlock (.slice A n c)≠some b) y qy)
     case first=>
      cases b with
      | true=>
       have HYX:Hid (y=x∧s2=s3):=J (by
        have h:=HLY.out;unfold fK at h;rw [HPN.out] at h;dsimp only at h;rw [if_pos rfl] at h
        cases h;exact ⟨rfl,rfl⟩)
       go_wp2_with fail;go_meet;have ey:y=x:=HYX.out.1;have es:s2=s3:=HYX.out.2;exact Z75
      | false=>
       obtain ⟨ex0,es0⟩:=HSI.out (by rw [HPN.out]);have es:s3=sk:=by rw [HPN.out] at es0;exact es0
       have ex:x=nd0:=by rw [HPN.out] at ex0;exact ex0
       subst es;obtain ⟨t,ht⟩:=aE (ahd T s3 0);have HT:=J ht;obtain ⟨b7,hb7⟩:=aE (isT T s3 7 eB);have HB7:=J hb7;obtain ⟨bp,hbp⟩:=aE (isT T s3 10 qB);have HBP:=J hbp;have HLZ:Hid ((y,s2)=if b7 || bp then (rcF T f).lits s3 else (nd0,cH s3 t 13)):=J (by
        have h:=HLY.out;unfold fK at h;rw [HPN.out] at h;dsimp only at h;rw [if_neg Y3,hb7,hbp,ht] at h;exact h.symm)
       clear ex0 es0 ht hb7 hbp
       cases b7 with
       | true=>
        have HLT:=J (eL HB7.out HOK.out Y3);have HF5:Hid (8*(T.length-s3.i)+0<f):=J Y109;have HR0:Hid ((rcF T f).lits s3=(y,s2)):=J (by have h:=HLZ.out;rw [Bool.true_or,if_pos rfl] at h;exact h.symm);go_wp2_with (first | (go_at_call 48;(with_reducible refine (bD HM.out.pt.1.pt bel HOK.out 7 eB).mono ?_);rw [HB7.out];rintro e w5 ⟨rfl,hx⟩;have xb9:=PT.keepB bel hx HXB.out Y68;clear HXB;have HXB:=J xb9;(try clear m0 mr0 m1 mr1 m2 mr2 m3 mr3 m4 mr4 m5 mr5);obtain ⟨m0,m1,m2,m3,m4,m5,mr0,mr1,mr2,mr3,mr4,mr5⟩:=cf6 (xb9);clear xb9;have hm9:=HM.out.go bel hx;clear HM;have HM:=J hm9;(try clear n0 nr0 n1 nr1 n2 nr2 n3 nr3 n4 nr4 n5 nr5);(try clear o0 or0 o1 or1 o2 or2 o3 or3 o4 or4 o5 or5);obtain ⟨n0,n1,n2,n3,n4,n5,nr0,nr1,nr2,nr3,nr4,nr5⟩:=cf6 (hm9.res);obtain ⟨o0,o1,o2,o3,o4,o5,or0,or1,or2,or3,or4,or5⟩:=cf6 (hm9.out);clear hm9 hx) | (go_at_call 87;(with_reducible refine (hp.lits (HM.out.pt.1.below bel) HLT.out HF5.out).mono ?_);rw [HR0.out];rintro e wl ⟨qy,rfl,hx,hny⟩;unfold ndV;have HNY:=J (hny.more (D':=(fun b=>(iG w (w.heap.size+1) b∧b≠nx)∧Value.ownBlock (.slice A n c)≠some b)) (fun b z _=>z.elim False.elim (fun z=>by have h1:=HM.out.fresh b z;have h3:=aA HXB.out;exact ⟨⟨h1.1,by omega⟩,h1.2⟩)));clear hny;have xb9:=PT.keepB bel hx HXB.out Y68;clear HXB;have HXB:=J xb9;(try clear m0 mr0 m1 mr1 m2 mr2 m3 mr3 m4 mr4 m5 mr5);obtain ⟨m0,m1,m2,m3,m4,m5,mr0,mr1,mr2,mr3,mr4,mr5⟩:=cf6 (xb9);clear xb9;have hm9:=HM.out.go bel hx;clear HM;have HM:=J hm9;(try clear n0 nr0 n1 nr1 n2 nr2 n3 nr3 n4 nr4 n5 nr5);(try clear o0 or0 o1 or1 o2 or2 o3 or3 o4 or4 o5 or5);obtain ⟨n0,n1,n2,n3,n4,n5,nr0,nr1,nr2,nr3,nr4,nr5⟩:=cf6 (hm9.res);obtain ⟨o0,o1,o2,o3,o4,o5,or0,or1,or2,or3,or4,or5⟩:=cf6 (hm9.out);clear hm9 hx));exact Z74
       | false=>
        cases bp with
        | true=>
         have HLT:=J (eL HBP.out HOK.out Y3);have HF5:Hid (8*(T.length-s3.i)+0<f):=J Y109;have HR0:Hid ((rcF T f).lits s3=(y,s2)):=J (by have h:=HLZ.out;rw [Bool.false_or,if_pos rfl] at h;exact h.symm);go_wp2_with (first | (go_at_call 48;(with_reducible refine (bD HM.out.pt.1.pt bel HOK.out 7 eB).mono ?_);rw [HB7.out];rintro e w5 ⟨rfl,hx⟩;have xb9:=PT.keepB bel hx HXB.out Y68;clear HXB;have HXB:=J xb9;(try clear m0 mr0 m1 mr1 m2 mr2 m3 mr3 m4 mr4 m5 mr5);obtain ⟨m0,m1,m2,m3,m4,m5,mr0,mr1,mr2,mr3,mr4,mr5⟩:=cf6 (xb9);clear xb9;have hm9:=HM.out.go bel hx;clear HM;have HM:=J hm9;(try clear n0 nr0 n1 nr1 n2 nr2 n3 nr3 n4 nr4 n5 nr5);(try clear o0 or0 o1 or1 o2 or2 o3 or3 o4 or4 o5 or5);obtain ⟨n0,n1,n2,n3,n4,n5,nr0,nr1,nr2,nr3,nr4,nr5⟩:=cf6 (hm9.res);obtain ⟨o0,o1,o2,o3,o4,o5,or0,or1,or2,or3,or4,or5⟩:=cf6 (hm9.out);clear hm9 hx) | (go_at_call 48;(with_reducible refine (bD HM.out.pt.1.pt bel HOK.out 10 qB).mono ?_);rw [HBP.out];rintro e w6 ⟨rfl,hx⟩;have xb9:=PT.keepB bel hx HXB.out Y68;clear HXB;have HXB:=J xb9;(try clear m0 mr0 m1 mr1 m2 mr2 m3 mr3 m4 mr4 m5 mr5);obtain ⟨m0,m1,m2,m3,m4,m5,mr0,mr1,mr2,mr3,mr4,mr5⟩:=cf6 (xb9);clear xb9;have hm9:=HM.out.go bel hx;clear HM;have HM:=J hm9;(try clear n0 nr0 n1 nr1 n2 nr2 n3 nr3 n4 nr4 n5 nr5);(try clear o0 or0 o1 or1 o2 or2 o3 or3 o4 or4 o5 or5);obtain ⟨n0,n1,n2,n3,n4,n5,nr0,nr1,nr2,nr3,nr4,nr5⟩:=cf6 (hm9.res);obtain ⟨o0,o1,o2,o3,o4,o5,or0,or1,or2,or3,or4,or5⟩:=cf6 (hm9.out);clear hm9 hx) | (go_at_call 87;(with_reducible refine (hp.lits (HM.out.pt.1.below bel) HLT.out HF5.out).mono ?_);rw [HR0.out];rintro e wl ⟨qy,rfl,hx,hny⟩;unfold ndV;have HNY:=J (hny.more (D':=(fun b=>(iG w (w.heap.size+1) b∧b≠nx)∧Value.ownBlock (.slice A n c)≠some b)) (fun b z _=>z.elim False.elim (fun z=>by have h1:=HM.out.fresh b z;have h3:=aA HXB.out;exact ⟨⟨h1.1,by omega⟩,h1.2⟩)));clear hny;have xb9:=PT.keepB bel hx HXB.out Y68;clear HXB;have HXB:=J xb9;(try clear m0 mr0 m1 mr1 m2 mr2 m3 mr3 m4 mr4 m5 mr5);obtain ⟨m0,m1,m2,m3,m4,m5,mr0,mr1,mr2,mr3,mr4,mr5⟩:=cf6 (xb9);clear xb9;have hm9:=HM.out.go bel hx;clear HM;have HM:=J hm9;(try clear n0 nr0 n1 nr1 n2 nr2 n3 nr3 n4 nr4 n5 nr5);(try clear o0 or0 o1 or1 o2 or2 o3 or3 o4 or4 o5 or5);obtain ⟨n0,n1,n2,n3,n4,n5,nr0,nr1,nr2,nr3,nr4,nr5⟩:=cf6 (hm9.res);obtain ⟨o0,o1,o2,o3,o4,o5,or0,or1,or2,or3,or4,or5⟩:=cf6 (hm9.out);clear hm9 hx));exact Z74
        | false=>
         have HYX:Hid (y=x∧s2=cH s3 t 13):=J (by
          have h:=HLZ.out;rw [Bool.or_self,if_neg Y3] at h
          cases h;exact ⟨ex.symm,rfl⟩)
         go_wp2_with (first | (go_at_call 48;(with_reducible refine (bD HM.out.pt.1.pt bel HOK.out 7 eB).mono ?_);rw [HB7.out];rintro e w5 ⟨rfl,hx⟩;have xb9:=PT.keepB bel hx HXB.out Y68;clear HXB;have HXB:=J xb9;(try clear m0 mr0 m1 mr1 m2 mr2 m3 mr3 m4 mr4 m5 mr5);obtain ⟨m0,m1,m2,m3,m4,m5,mr0,mr1,mr2,mr3,mr4,mr5⟩:=cf6 (xb9);clear xb9;have hm9:=HM.out.go bel hx;clear HM;have HM:=J hm9;(try clear n0 nr0 n1 nr1 n2 nr2 n3 nr3 n4 nr4 n5 nr5);(try clear o0 or0 o1 or1 o2 or2 o3 or3 o4 or4 o5 or5);obtain ⟨n0,n1,n2,n3,n4,n5,nr0,nr1,nr2,nr3,nr4,nr5⟩:=cf6 (hm9.res);obtain ⟨o0,o1,o2,o3,o4,o5,or0,or1,or2,or3,or4,or5⟩:=cf6 (hm9.out);clear hm9 hx) | (go_at_call 48;(with_reducible refine (bD HM.out.pt.1.pt bel HOK.out 10 qB).mono ?_);rw [HBP.out];rintro e w6 ⟨rfl,hx⟩;have xb9:=PT.keepB bel hx HXB.out Y68;clear HXB;have HXB:=J xb9;(try clear m0 mr0 m1 mr1 m2 mr2 m3 mr3 m4 mr4 m5 mr5);obtain ⟨m0,m1,m2,m3,m4,m5,mr0,mr1,mr2,mr3,mr4,mr5⟩:=cf6 (xb9);clear xb9;have hm9:=HM.out.go bel hx;clear HM;have HM:=J hm9;(try clear n0 nr0 n1 nr1 n2 nr2 n3 nr3 n4 nr4 n5 nr5);(try clear o0 or0 o1 or1 o2 or2 o3 or3 o4 or4 o5 or5);obtain ⟨n0,n1,n2,n3,n4,n5,nr0,nr1,nr2,nr3,nr4,nr5⟩:=cf6 (hm9.res);obtain ⟨o0,o1,o2,o3,o4,o5,or0,or1,or2,or3,or4,or5⟩:=cf6 (hm9.out);clear hm9 hx) | (go_at_call 53;(with_reducible refine (gO HM.out.pt.1.pt bel HOK.out HT.out).mono ?_);rintro e wa ⟨rfl,hx⟩;have xb9:=PT.keepB bel hx HXB.out Y68;clear HXB;have HXB:=J xb9;(try clear m0 mr0 m1 mr1 m2 mr2 m3 mr3 m4 mr4 m5 mr5);obtain ⟨m0,m1,m2,m3,m4,m5,mr0,mr1,mr2,mr3,mr4,mr5⟩:=cf6 (xb9);clear xb9;have hm9:=HM.out.go bel hx;clear HM;have HM:=J hm9;(try clear n0 nr0 n1 nr1 n2 nr2 n3 nr3 n4 nr4 n5 nr5);(try clear o0 or0 o1 or1 o2 or2 o3 or3 o4 or4 o5 or5);obtain ⟨n0,n1,n2,n3,n4,n5,nr0,nr1,nr2,nr3,nr4,nr5⟩:=cf6 (hm9.res);obtain ⟨o0,o1,o2,o3,o4,o5,or0,or1,or2,or3,or4,or5⟩:=cf6 (hm9.out);clear hm9 hx) | (go_at_call 51;(with_reducible refine (iR (HM.out.pt.1.below bel) t 13).mono ?_);rintro e wf ⟨rfl,hx⟩;have xb9:=PT.keepB bel hx HXB.out Y68;clear HXB;have HXB:=J xb9;(try clear m0 mr0 m1 mr1 m2 mr2 m3 mr3 m4 mr4 m5 mr5);obtain ⟨m0,m1,m2,m3,m4,m5,mr0,mr1,mr2,mr3,mr4,mr5⟩:=cf6 (xb9);clear xb9;have hm9:=HM.out.go bel hx;clear HM;have HM:=J hm9;(try clear n0 nr0 n1 nr1 n2 nr2 n3 nr3 n4 nr4 n5 nr5);(try clear o0 or0 o1 or1 o2 or2 o3 or3 o4 or4 o5 or5);obtain ⟨n0,n1,n2,n3,n4,n5,nr0,nr1,nr2,nr3,nr4,nr5⟩:=cf6 (hm9.res);obtain ⟨o0,o1,o2,o3,o4,o5,or0,or1,or2,or3,or4,or5⟩:=cf6 (hm9.out);clear hm9 hx));go_meet;have ey:y=x:=HYX.out.1;have es:s2=cH s3 t 13:=HYX.out.2;exact Z75
     case rest=>
      obtain ⟨qy,hm9,hxb,hny⟩:=hcut;clear HM HXB
      (try clear m0 mr0 m1 mr1 m2 mr2 m3 mr3 m4 mr4 m5 mr5)
      (try clear n0 nr0 n1 nr1 n2 nr2 n3 nr3 n4 nr4 n5 nr5)
      (try clear o0 or0 o1 or1 o2 or2 o3 or3 o4 or4 o5 or5)
      have HM:=J hm9
      rename World=>we
      have hal:=(Below.refl we.heap.size we).alloc aR (.cells #[.int .i64 y.kind,.string y.text,.int .i64 y.num,.slice qy.pn y.names.length qy.cn,.slice qy.pt y.temps.length qy.ct,.slice qy.pk y.kids.length qy.ck] 25);have HRW:=J (hm9.below hal).row;have HN9:=J (hny.under hal);have HBS:Hid (w.heap.size+1+1≤(we.alloc (.cells #[.int .i64 y.kind,.string y.text,.int .i64 y.num,.slice qy.pn y.names.length qy.cn,.slice qy.pt y.temps.length qy.ct,.slice qy.pk y.kids.length qy.ck] 25)).heap.size):=J (by have h9:=aA (hm9.below hal).out;omega);obtain ⟨m0,m1,m2,m3,m4,m5,mr0,mr1,mr2,mr3,mr4,mr5⟩:=cf6 (hxb);obtain ⟨n0,n1,n2,n3,n4,n5,nr0,nr1,nr2,nr3,nr4,nr5⟩:=cf6 (hm9.res);obtain ⟨o0,o1,o2,o3,o4,o5,or0,or1,or2,or3,or4,or5⟩:=cf6 (hm9.out);obtain ⟨a0,a1,a2,a3,a4,a5,ar0,ar1,ar2,ar3,ar4,ar5⟩:=cf6 ((hm9.below hal).out);clear hm9 hxb hny hal;go_wp2_with (first | (at_builtin;refine mN rfl _ _ rfl rfl HRW.out rfl (heap_alloc_new _ _) HN9.out HPB.out HBS.out ?_;intro v9 w11 hown ht9 _;have HT9A:=J ht9;have hm10:=HM.out.push (ba) hown ht9;have ho9:=HM.out.mid (ba) ht9;have b5:w11.cell? ⟨w.heap.size+1,5,none⟩=some (.slice A n c):=aC ho9 rfl;have br5:w11.frozen? ⟨w.heap.size+1,5,none⟩=false:=Y97;have HM10:=J hm10;obtain ⟨A9,c9,hv9,_⟩:=hown.slice;subst hv9;clear hown ht9 hm10 ho9))
      go_roundg (gk-1)
      case measure=>have:=(HGP2.out HS0.out).1;have:=HIL.out;have:=HB0.out;omega
      case rel=>
       have hm9:=HM10.out.relax;have hl9:(ps++[(y,qy)]).length=ps.length+1:=Y132;rw [hl9] at hm9;have hg0:0<gk:=HB0.out;have hul:fS T (rcF T f) gk (ps.map Prod.fst) sk=fS T (rcF T f) (gk-1) ((ps++[(y,qy)]).map Prod.fst) s2:=by
        have h9:gk=(gk-1)+1:=I;rw [h9,fS,if_pos (by rw [HS0.out,HBR.out];rfl),HLY.out,Nat.add_sub_cancel,List.map_append]
        rfl
       have hA:=HGP2.out HS0.out;have hR:=HRT2.out;exact ⟨A9,ps.length+1,c9,ps++[(y,qy)],s2,hm9,HGY.out.1,fun _=>hR.trans hul,fun z=>(by cases z),fun _ z=>lit_step hA.1 hg0 (HGY.out.2.2 z) hA.2 hl9,Nat.le_trans HMO.out HGY.out.2.1⟩
   ·have y1:(sk.e==0)=false:=Y20;have HY1:=J y1;clear he;have HR9:Hid (RR=(ps.map Prod.fst,sk)):=J (by
     rw [HRT2.out]
     cases gk with
     | zero=>rfl
     | succ g=>rw [fS,if_neg (by rw [HY1.out];simp)])
    have HE:Hid (jP T (rcF T f) s=(.node 4 eB 0 [] [] (ps.map Prod.fst),sk)):=J (by
     rw [HE0.out,HR9.out];dsimp only;rw [if_neg (by have h:=HY1.out;simpa using h)])
    exact Z73
structure Bw (w W:World) (rb ob pb:Nat) (v:Value) (T:Tks) (s:PSt) (kd:Int) (tv:ByteArray) (nu:Int) (vn vt vk:Value) (ns ts:List ByteArray):Prop where
 pt:PT pb v T w W s
 ol:w.heap.size≤ob
 rl:rb<ob
 pl:pb<ob
 rp:rb≠pb
 vl:∀k,v.ownBlock=some k→k<ob
 res:W.heap[rb]? =some (.cells #[.int .i64 0,.string eB,.int .i64 0,.slice none 0 0,.slice none 0 0,.slice none 0 0] 25 (0,0))
 out:W.heap[ob]? =some (.cells #[.int .i64 kd,.string tv,.int .i64 nu,vn,vt,vk] 25 (0,0))
 nam:SRow W (ob+1) vn ns
 tem:SRow W (ob+1) vt ts
theorem SRow.turned {w w':World} {base:Nat} {vr:Value} {l:List ByteArray} (h:SRow w base vr l) {X:Nat→Prop} (ht:Turns X w w') (hX:∀b,X b→b<base):SRow w' base vr l:=
 aJ h ht.size (fun k hk=>ht.block k (World.ownsRow.lt h k hk).2 (fun e=>by have:=hX k e;have:=(World.ownsRow.lt h k hk).1;omega))
theorem PT.keepS {w4 W w5:World} {pb:Nat} {v:Value} {T:Tks} {s0 s:PSt} (hp:PW w4 pb v T s0) (hb:Below w4.heap.size w4 W) (hx:PT pb v T W w5 s) {base:Nat} {vr:Value} {l:List ByteArray} (h:SRow w4 base vr l):SRow w5 base vr l:=
 SRow.turns (h.below hb) (hp.below hb) hx.2
theorem SRow.strs {w:World} {base:Nat} {p:Option Addr} {n c:Nat} {l:List ByteArray} (h:SRow w base (.slice p n c) l) (hs:∀x,x∈l→x.size≤100000):Strs w (fun b=>base≤b) p l∧n=l.length∧l.length≤c∧c≤maxLen:=by
 obtain ⟨A,c1,e1,e2,e3⟩:=h.slice
 cases e1
 refine ⟨fun i hi=>?_,rfl,e2,e3⟩;have ho:=h
 rcases h.2 with ⟨_,h0⟩ | ⟨g,cap,cur,hv,hg,hh,h1,h2,_⟩
 ·omega
 ·cases hv
  have hc:=World.ownsRow.cellAt ho i I;refine ⟨g,0,rfl,aA hh,hg,?_,Nat.le_trans (hs _ (List.getElem_mem hi)) Y3⟩;rw [Nat.zero_add,hc,List.getElem?_map,List.getElem?_eq_getElem hi]
  rfl
section
variable {w W W1 w':World} {rb ob pb:Nat} {v:Value} {T:Tks} {s s':PSt} {kd nu:Int} {tv:ByteArray} {vn vt vk:Value} {ns ts:List ByteArray}
theorem Bw.below (h:Bw w W rb ob pb v T s kd tv nu vn vt vk ns ts) (hb:Below W.heap.size W w'):Bw w w' rb ob pb v T s kd tv nu vn vt vk ns ts:=
 ⟨h.pt.below hb,h.ol,h.rl,h.pl,h.rp,h.vl,(hb.block _ (aA h.res)).trans h.res,(hb.block _ (aA h.out)).trans h.out,h.nam.below hb,h.tem.below hb⟩
theorem Bw.go (h:Bw w W rb ob pb v T s kd tv nu vn vt vk ns ts) (hb:Below W.heap.size W W1) (hx:PT pb v T W1 w' s'):Bw w w' rb ob pb v T s' kd tv nu vn vt vk ns ts:=
 ⟨(h.pt.below hb).go hx,h.ol,h.rl,h.pl,h.rp,h.vl,PT.keepB hb hx h.res h.rp,PT.keepB hb hx h.out (by have:=h.pl;omega),PT.keepS h.pt.1 hb hx h.nam,PT.keepS h.pt.1 hb hx h.tem⟩
theorem Bw.setX (h:Bw w W rb ob pb v T s kd tv nu vn vt vk ns ts) (t':ByteArray):Bw w (W.setCell ⟨ob,1,none⟩ (.string t')) rb ob pb v T s kd t' nu vn vt vk ns ts:=by
 have ht:Turns (fun k=>k=ob) W (W.setCell ⟨ob,1,none⟩ (.string t')):=(Turns.refl _ _).setCell ⟨ob,1,none⟩ _ (.inl rfl);refine ⟨h.pt.turned ht (fun k e=>by have e9:k=ob:=e;exact ⟨by have:=h.ol;omega,by have:=h.pl;omega,fun q=>by have:=h.vl k q;omega⟩),h.ol,h.rl,h.pl,h.rp,h.vl,(ht.block _ (aA h.res) (fun e=>by have e9:rb=ob:=e;have:=h.rl;omega)).trans h.res,?_,SRow.turned h.nam ht (fun b e=>by have e9:b=ob:=e;omega),SRow.turned h.tem ht (fun b e=>by have e9:b=ob:=e;omega)⟩;rw [heap_setCell_same W ob 1 _ _ _ h.out]
 rfl
theorem Bw.setN (h:Bw w W rb ob pb v T s kd tv nu vn vt vk ns ts) {vn':Value} {ns':List ByteArray} {base:Nat} (hr:SRow W base vn' ns') (hb:ob+1≤base):Bw w (W.setCell ⟨ob,3,none⟩ (vn')) rb ob pb v T s kd tv nu vn' vt vk ns' ts:=by
 have ht:Turns (fun k=>k=ob) W (W.setCell ⟨ob,3,none⟩ (vn')):=(Turns.refl _ _).setCell ⟨ob,3,none⟩ _ (.inl rfl);refine ⟨h.pt.turned ht (fun k e=>by have e9:k=ob:=e;exact ⟨by have:=h.ol;omega,by have:=h.pl;omega,fun q=>by have:=h.vl k q;omega⟩),h.ol,h.rl,h.pl,h.rp,h.vl,(ht.block _ (aA h.res) (fun e=>by have e9:rb=ob:=e;have:=h.rl;omega)).trans h.res,?_,SRow.turned (bR hr hb) ht (fun b e=>by have e9:b=ob:=e;omega),SRow.turned h.tem ht (fun b e=>by have e9:b=ob:=e;omega)⟩;rw [heap_setCell_same W ob 3 _ _ _ h.out]
 rfl
theorem Bw.setT (h:Bw w W rb ob pb v T s kd tv nu vn vt vk ns ts) {vt':Value} {ts':List ByteArray} {base:Nat} (hr:SRow W base vt' ts') (hb:ob+1≤base):Bw w (W.setCell ⟨ob,4,none⟩ (vt')) rb ob pb v T s kd tv nu vn vt' vk ns ts':=by
 have ht:Turns (fun k=>k=ob) W (W.setCell ⟨ob,4,none⟩ (vt')):=(Turns.refl _ _).setCell ⟨ob,4,none⟩ _ (.inl rfl);refine ⟨h.pt.turned ht (fun k e=>by have e9:k=ob:=e;exact ⟨by have:=h.ol;omega,by have:=h.pl;omega,fun q=>by have:=h.vl k q;omega⟩),h.ol,h.rl,h.pl,h.rp,h.vl,(ht.block _ (aA h.res) (fun e=>by have e9:rb=ob:=e;have:=h.rl;omega)).trans h.res,?_,SRow.turned h.nam ht (fun b e=>by have e9:b=ob:=e;omega),SRow.turned (bR hr hb) ht (fun b e=>by have e9:b=ob:=e;omega)⟩;rw [heap_setCell_same W ob 4 _ _ _ h.out]
 rfl
theorem Bw.setK (h:Bw w W rb ob pb v T s kd tv nu vn vt vk ns ts) (vk':Value):Bw w (W.setCell ⟨ob,5,none⟩ (vk')) rb ob pb v T s kd tv nu vn vt vk' ns ts:=by
 have ht:Turns (fun k=>k=ob) W (W.setCell ⟨ob,5,none⟩ (vk')):=(Turns.refl _ _).setCell ⟨ob,5,none⟩ _ (.inl rfl);refine ⟨h.pt.turned ht (fun k e=>by have e9:k=ob:=e;exact ⟨by have:=h.ol;omega,by have:=h.pl;omega,fun q=>by have:=h.vl k q;omega⟩),h.ol,h.rl,h.pl,h.rp,h.vl,(ht.block _ (aA h.res) (fun e=>by have e9:rb=ob:=e;have:=h.rl;omega)).trans h.res,?_,SRow.turned h.nam ht (fun b e=>by have e9:b=ob:=e;omega),SRow.turned h.tem ht (fun b e=>by have e9:b=ob:=e;omega)⟩;rw [heap_setCell_same W ob 5 _ _ _ h.out]
 rfl
theorem Bw.setI (h:Bw w W rb ob pb v T s kd tv nu vn vt vk ns ts) (n':Int):Bw w (W.setCell ⟨ob,2,none⟩ (.int .i64 n')) rb ob pb v T s kd tv n' vn vt vk ns ts:=by
 have ht:Turns (fun k=>k=ob) W (W.setCell ⟨ob,2,none⟩ (.int .i64 n')):=(Turns.refl _ _).setCell ⟨ob,2,none⟩ _ (.inl rfl);refine ⟨h.pt.turned ht (fun k e=>by have e9:k=ob:=e;exact ⟨by have:=h.ol;omega,by have:=h.pl;omega,fun q=>by have:=h.vl k q;omega⟩),h.ol,h.rl,h.pl,h.rp,h.vl,(ht.block _ (aA h.res) (fun e=>by have e9:rb=ob:=e;have:=h.rl;omega)).trans h.res,?_,SRow.turned h.nam ht (fun b e=>by have e9:b=ob:=e;omega),SRow.turned h.tem ht (fun b e=>by have e9:b=ob:=e;omega)⟩;rw [heap_setCell_same W ob 2 _ _ _ h.out]
 rfl
theorem Bw.node {p1 p2 p3:Option Addr} {n1 c1 n2 c2 c3:Nat} {kids:List NodT} {D:Nat→Prop} (h:Bw w W rb ob pb v T s kd tv nu (.slice p1 n1 c1) (.slice p2 n2 c2) vk ns ts) (hk:IsNd W (fun b=>ob+1≤b) (.node kd tv nu [] [] kids) ⟨none,0,none,0,p3,c3⟩) (hn:∀x,x∈ns→x.size≤100000) (ht:∀x,x∈ts→x.size≤100000) (hT:Turns (fun k=>k=rb) W w') (hD:∀b,ob+1≤b→D b):IsNd w' D (.node kd tv nu ns ts kids) ⟨p1,c1,p2,c2,p3,c3⟩:=by
 obtain ⟨a1,a2,a3,a4⟩:=h.nam.strs hn;obtain ⟨b1,b2,b3,b4⟩:=h.tem.strs ht;have key:IsNd W (fun b=>ob+1≤b) (.node kd tv nu ns ts kids) ⟨p1,c1,p2,c2,p3,c3⟩:=by
  cases hk with
  | node x q Q k1 k2 k3 k4 k5=>
   exact .node _ _ Q ⟨k1.kind,k1.num,k1.text,⟨a3,a4⟩,⟨b3,b4⟩,k1.klen⟩ a1 b1 k4 k5
 exact key.turns hT (fun b z _ e=>by have e9:b=rb:=e;have:=h.rl;omega) hD
theorem Bw.base (h:Bw w W rb ob pb v T s kd tv nu vn vt vk ns ts) (hb:Below W.heap.size W w'):ob+1≤w'.heap.size:=Nat.succ_le_of_lt (aN (aA h.out) hb.size)
theorem Bw.len {p1 p2:Option Addr} {n1 c1 n2 c2:Nat} (h:Bw w W rb ob pb v T s kd tv nu (.slice p1 n1 c1) (.slice p2 n2 c2) vk ns ts):n1=ns.length∧n2=ts.length:=by
 obtain ⟨A1,d1,e1,_⟩:=h.nam.slice;obtain ⟨A2,d2,e2,_⟩:=h.tem.slice
 cases e1;cases e2
 exact ⟨rfl,rfl⟩
end
theorem RowP.node {pb:Nat} {v:Value} {T:Tks} {l:List NodT} {s:PSt} {w w':World} {e:Ending} (h:RowP pb v T (l,s) w e w') (k n:Int) (t:ByteArray) (hk:InI k) (hn:InI n) (ht:t.size≤bL):∃p c,e= .returned (.slice p l.length c)∧PT pb v T w w' s∧IsNd w' (fun b=>w.heap.size≤b) (.node k t n [] [] l) ⟨none,0,none,0,p,c⟩:=by
 obtain ⟨p,c,e1,e2,e3,e4,Q,e5,e6⟩:=h;exact ⟨p,c,e1,e4,IsNd.over Q hk hn ht ⟨e2,e3⟩ (fun i hi=>by
  obtain ⟨b,off,f1,f2,f3,f4⟩:=e5 i hi;exact ⟨b,off,f1,f2,f3,f4⟩) e6⟩
theorem rV {T:Tks} (hok:TokOk T) (s:PSt) (k:Int) (text:ByteArray):(tx (bT T s k text).1).size≤100000:=by
 unfold bT
 split
 ·exact hok.text _ (gK hok)
 ·exact Nat.zero_le _
theorem nJ {T:Tks} (hok:TokOk T) (k:Int) (l:List ByteArray) (s:PSt) (h:∀x,x∈l→x.size≤100000):∀x,x∈(cV T k l s).1→x.size≤100000:=fun x hx=>by
 unfold cV at hx;dsimp only at hx
 rcases List.mem_append.1 hx with z | z
 ·exact h x z
 ·rw [List.mem_singleton] at z;rw [z];exact rV hok s k eB
theorem qX {T:Tks} (hok:TokOk T):∀(g:Nat) (l:List ByteArray) (s:PSt),(∀x,x∈l→x.size≤100000)→∀x,x∈(hL T g l s).1→x.size≤100000
 | 0,l,s,h=>h
 | g+1,l,s,h=>by
  unfold hL
  split
  ·refine qX hok g _ _ (fun x hx=>?_)
   rcases List.mem_append.1 hx with z | z
   ·exact h x z
   ·rw [List.mem_singleton] at z;rw [z];exact hok.text _ (gK hok)
  ·exact h
theorem tJ {T:Tks} (hok:TokOk T) (s:PSt):∀x,x∈(fB T s).1→x.size≤100000:=by
 unfold fB
 split
 ·exact qX hok _ _ _ (fun x hx=>absurd hx Y12)
 ·exact fun x hx=>absurd hx Y12
theorem vG {T:Tks} {s:PSt} {k:Int} {l:List ByteArray} (h:isT T s k eB=true) (hl:s.e=0→l.length≤4):(cV T k l s).2.i=s.i+1∧((cV T k l s).2.e=0→(cV T k l s).1.length≤4)∧(cV T k l s).1.length=l.length+1:=by
 have he:=is_e h;have hn:bT T s k eB=(ahd T s 0,aI s):=by unfold bT;rw [if_pos h]
 unfold cV;rw [hn];dsimp only;have h0:(aI s).e=0:=he;refine ⟨?_,?_,by rw [List.length_append];rfl⟩
 ·split
  ·exact kK _ _ _
  ·rfl
 ·split
  ·intro z;exact absurd z (jJ _ _ _ Y3)
  ·rename_i hq;intro _;have h4:l.length≠4:=fun z=>hq ⟨h0,z⟩
   have:=hl he;rw [List.length_append]
   show l.length+1≤4
   omega
theorem jX {n g i j:Nat} (h:n<g+i) (h1:i<n) (h2:i+1≤j):n<(g-1)+j:=I
theorem blk_go {f:Nat} {w:World} {pb:Nat} {v:Value} {T:Tks} {s:PSt} (hp:PSpec T f) (h:PW w pb v T s) (hok:TokOk T) (hi:s.i<T.length) (hfu:8*(T.length-s.i)+0<f+1):Calls Tryz.prog 89 #[.pointer (some ⟨pb,0,none⟩)] w (NdP (fun _=>False) pb v T (oT T (rcF T f) s) w):=by
 have HOK:=J hok;have HI:Hid (s.i≤T.length):=J (Nat.le_of_lt hi);have HFU:Hid (8*(T.length-s.i)+0<f+1∧s.i<T.length):=J ⟨hfu,hi⟩;have HOLD:=J h.old;have HPL:=J (aA h.box);have H0:Hid (Bw w ((w.alloc (.cells #[.int .i64 0,.string eB,.int .i64 0,.slice none 0 0,.slice none 0 0,.slice none 0 0] 25)).alloc (.cells #[.int .i64 9,.string eB,.int .i64 0,.slice none 0 0,.slice none 0 0,.slice none 0 0] 25)) (w.heap.size) (w.heap.size+1) pb v T s 9 eB 0 (.slice none 0 0) (.slice none 0 0) (.slice none 0 0) [] []):=J (by
  have hb:Below w.heap.size w ((w.alloc (.cells #[.int .i64 0,.string eB,.int .i64 0,.slice none 0 0,.slice none 0 0,.slice none 0 0] 25)).alloc (.cells #[.int .i64 9,.string eB,.int .i64 0,.slice none 0 0,.slice none 0 0,.slice none 0 0] 25)):=bel;have h1:=heap_alloc_new w (.cells #[.int .i64 0,.string eB,.int .i64 0,.slice none 0 0,.slice none 0 0,.slice none 0 0] 25);have h2:=heap_alloc_new (w.alloc (.cells #[.int .i64 0,.string eB,.int .i64 0,.slice none 0 0,.slice none 0 0,.slice none 0 0] 25)) (.cells #[.int .i64 9,.string eB,.int .i64 0,.slice none 0 0,.slice none 0 0,.slice none 0 0] 25);rw [World.size_alloc] at h2;have h3:=aA h.box;exact ⟨⟨h.below hb,Turns.of_below hb⟩,Nat.le_succ _,Nat.lt_succ_self _,by omega,by omega,fun k e=>by have:=(World.ownsRow.lt h.row k e).2;omega,(ba |>.block _ (aA h1)).trans h1,h2,SRow.nil _ _,SRow.nil _ _⟩)
 obtain ⟨⟨bo,so⟩,ho⟩:=aE (dW T s);have HO:=J ho;have hog:=lT (T:=T) hi;rw [ho] at hog;have HOP:Hid (so.i=s.i+1∧so.i≤T.length):=J ⟨hog.2.1,by have:=hog.2.1;show so.i≤_;have e9:so.i=s.i+1:=this;omega⟩;have HOE:Hid (so.e=0→([]:List ByteArray).length≤4):=J (fun _=>by simp);clear h hok hi hfu hog;go_enter Tryz.func89,Tryz.ntmps89
 go_upto_region 2 with fail
 have hm9:=H0.out;obtain ⟨w1,hw1⟩:∃w1,((w.alloc (.cells #[.int .i64 0,.string eB,.int .i64 0,.slice none 0 0,.slice none 0 0,.slice none 0 0] 25)).alloc (.cells #[.int .i64 9,.string eB,.int .i64 0,.slice none 0 0,.slice none 0 0,.slice none 0 0] 25))=w1:=⟨_,rfl⟩;rw [hw1] at hm9 ⊢;have HM:=J hm9;clear hw1 H0 hm9
 cases bo with
 | false=>
  have HE:Hid (oT T (rcF T f) s=(.node 9 eB 0 [] [] [],so)):=J (by unfold oT;rw [HO.out];rfl);clear ho;go_wp2_with (first | (go_at_call 88;(with_reducible refine (lA (HM.out.pt.1.below bel) HOK.out HI.out).mono ?_);rw [HO.out];rintro e w3 ⟨rfl,hx⟩;have hm9:=HM.out.go bel hx;clear HM;have HM:=J hm9;(try clear n0 nr0 n1 nr1 n2 nr2 n3 nr3 n4 nr4 n5 nr5);(try clear o0 or0 o1 or1 o2 or2 o3 or3 o4 or4 o5 or5);obtain ⟨n0,n1,n2,n3,n4,n5,nr0,nr1,nr2,nr3,nr4,nr5⟩:=cf6 (hm9.res);obtain ⟨o0,o1,o2,o3,o4,o5,or0,or1,or2,or3,or4,or5⟩:=cf6 (hm9.out);clear hm9 hx));obtain ⟨W9,hW9⟩:∃W9,W9=((((((w3.setCell ⟨w.heap.size,0,none⟩ (.int .i64 9)).setCell ⟨w.heap.size,1,none⟩ (.string eB)).setCell ⟨w.heap.size,2,none⟩ (.int .i64 0)).setCell ⟨w.heap.size,3,none⟩ (.slice none 0 0)).setCell ⟨w.heap.size,4,none⟩ (.slice none 0 0)).setCell ⟨w.heap.size,5,none⟩ (.slice none 0 0)):=⟨_,rfl⟩;have h9:W9.heap[w.heap.size]? =some (.cells #[.int .i64 9,.string eB,.int .i64 0,.slice none 0 0,.slice none 0 0,.slice none 0 0] 25 (0,0)):=Y19;obtain ⟨z0,z1,z2,z3,z4,z5⟩:=cc6 h9;have HT9:Hid (Turns (fun k=>k=w.heap.size) w3 W9):=J Y2;rw [←hW9];clear hW9 h9;refine bodyPost_ret (v:=.agg #[.int .i64 9,.string eB,.int .i64 0,.slice none 0 0,.slice none 0 0,.slice none 0 0]) (by simp [results,Tryz.results89,go_sem,z0,z1,z2,z3,z4,z5]) rfl ?_;rw [HE.out];exact ⟨⟨none,0,none,0,none,0⟩,rfl,HM.out.pt.turned HT9.out (fun k e=>by have e9:k=w.heap.size:=e;exact ⟨by omega,by have:=HPL.out;omega,by rw [e9];exact HOLD.out⟩),IsNd.leaf _ _ ⟨by decide,by decide⟩ ⟨by decide,by decide⟩ Y3⟩
 | true=>
  have HE0:Hid (oT T (rcF T f) s=(.node 9 eB 0 (iF T (T.length+1) [] so).1 (fB T (if 0<(iF T (T.length+1) [] so).1.length∧isT T (iF T (T.length+1) [] so).2 10 jN=false then (bT T (iF T (T.length+1) [] so).2 10 kR).2 else (iF T (T.length+1) [] so).2)).1 ((rcF T f).stmts (fB T (if 0<(iF T (T.length+1) [] so).1.length∧isT T (iF T (T.length+1) [] so).2 10 jN=false then (bT T (iF T (T.length+1) [] so).2 10 kR).2 else (iF T (T.length+1) [] so).2)).2).1,hE (bT T ((rcF T f).stmts (fB T (if 0<(iF T (T.length+1) [] so).1.length∧isT T (iF T (T.length+1) [] so).2 10 jN=false then (bT T (iF T (T.length+1) [] so).2 10 kR).2 else (iF T (T.length+1) [] so).2)).2).2 10 jN).2)):=J (by unfold oT;rw [HO.out];rfl);clear ho;go_wp2_with (first | (go_at_call 88;(with_reducible refine (lA (HM.out.pt.1.below bel) HOK.out HI.out).mono ?_);rw [HO.out];rintro e w3 ⟨rfl,hx⟩;have hm9:=HM.out.go bel hx;clear HM;have HM:=J hm9;(try clear n0 nr0 n1 nr1 n2 nr2 n3 nr3 n4 nr4 n5 nr5);(try clear o0 or0 o1 or1 o2 or2 o3 or3 o4 or4 o5 or5);obtain ⟨n0,n1,n2,n3,n4,n5,nr0,nr1,nr2,nr3,nr4,nr5⟩:=cf6 (hm9.res);obtain ⟨o0,o1,o2,o3,o4,o5,or0,or1,or2,or3,or4,or5⟩:=cf6 (hm9.out);clear hm9 hx))
  go_loopg [] (T.length+1) (fun g wr=>∃(A:Option Addr) (n c:Nat) (l:List ByteArray) (sk:PSt),Bw w wr (w.heap.size) (w.heap.size+1) pb v T sk 9 eB 0 (.slice A n c) (.slice none 0 0) (.slice none 0 0) l []∧iF T (T.length+1) [] so=iF T g l sk∧T.length<g+sk.i∧sk.i≤T.length∧(sk.e=0→l.length≤4)∧(∀x,x∈l→x.size≤100000)∧s.i+1≤sk.i)
  case atStart=>exact ⟨none,0,0,[],so,HM.out,rfl,by omega,HOP.out.2,HOE.out,fun x hx=>absurd hx Y12,by have:=HOP.out.1;omega⟩
  case round=>
   obtain ⟨A,n,c,l,sk,hm9,hul,hg,hil,hl4,htx,hmo⟩:=hrel;clear HM
   (try clear n0 nr0 n1 nr1 n2 nr2 n3 nr3 n4 nr4 n5 nr5)
   (try clear o0 or0 o1 or1 o2 or2 o3 or3 o4 or4 o5 or5)
   have HM:=J hm9;have HUL:=J hul;have HG:=J hg;have HIL:=J hil;have HL4:=J hl4;have HTX:=J htx;have HMO:=J hmo;obtain ⟨b,hb⟩:=aE (isT T sk 8 eB);have HB:=J hb;obtain ⟨n0,n1,n2,n3,n4,n5,nr0,nr1,nr2,nr3,nr4,nr5⟩:=cf6 (hm9.res);obtain ⟨o0,o1,o2,o3,o4,o5,or0,or1,or2,or3,or4,or5⟩:=cf6 (hm9.out);clear hm9 hul hg hil hl4 htx hmo hb
   cases b with
   | true=>
    obtain ⟨⟨l9,s9⟩,hnm⟩:=aE (cV T 8 l sk);have HNM:=J hnm;have hst:=vG HB.out HL4.out;rw [hnm] at hst;have HST:=J hst;have htx:=nJ HOK.out 8 l sk HTX.out;rw [hnm] at htx;have HTX9:=J htx;have HLT:=J (eL HB.out HOK.out Y3);have HL1:Hid (l.length≤1000):=J (by have:=HL4.out (is_e HB.out);omega);clear hnm hst htx;go_wp2_with (first | (go_at_call 48;(with_reducible refine (bD HM.out.pt.1.pt bel HOK.out 8 eB).mono ?_);rw [HB.out];rintro e w4 ⟨rfl,hx⟩;have hm9:=HM.out.go bel hx;clear HM;have HM:=J hm9;(try clear n0 nr0 n1 nr1 n2 nr2 n3 nr3 n4 nr4 n5 nr5);(try clear o0 or0 o1 or1 o2 or2 o3 or3 o4 or4 o5 or5);obtain ⟨n0,n1,n2,n3,n4,n5,nr0,nr1,nr2,nr3,nr4,nr5⟩:=cf6 (hm9.res);obtain ⟨o0,o1,o2,o3,o4,o5,or0,or1,or2,or3,or4,or5⟩:=cf6 (hm9.out);clear hm9 hx) | (go_at_call 50;(with_reducible refine (lS (l:=l) (HM.out.pt.1.below bel) HOK.out HIL.out 8 (HM.out.nam.below bel) HL1.out).mono ?_);rw [HNM.out];rintro e w5 ⟨vr9,rfl,hx,hr9⟩;obtain ⟨A1,c1,hvr,_⟩:=SRow.slice hr9;subst hvr;have HSR:=J (bR hr9 (HM.out.base bel));clear hr9;have hm9:=HM.out.go bel hx;clear HM;have HM:=J hm9;(try clear n0 nr0 n1 nr1 n2 nr2 n3 nr3 n4 nr4 n5 nr5);(try clear o0 or0 o1 or1 o2 or2 o3 or3 o4 or4 o5 or5);obtain ⟨n0,n1,n2,n3,n4,n5,nr0,nr1,nr2,nr3,nr4,nr5⟩:=cf6 (hm9.res);obtain ⟨o0,o1,o2,o3,o4,o5,or0,or1,or2,or3,or4,or5⟩:=cf6 (hm9.out);clear hm9 hx))
    go_roundg (gk-1)
    case measure=>have:=HG.out;have:=HLT.out;omega
    case rel=>
     have hm9:=HM.out.setN HSR.out aR;have hul:iF T (T.length+1) [] so=iF T (gk-1) l9 s9:=by
      have h9:gk=(gk-1)+1:=Y45;rw [HUL.out,h9,iF,if_pos HB.out,HNM.out,Nat.add_sub_cancel]
     have h1:s9.i=sk.i+1:=HST.out.1;have h2:s9.e=0→l9.length≤4:=HST.out.2.1;exact ⟨A1,l9.length,c1,l9,s9,hm9,hul,jX HG.out HLT.out I,by have:=HLT.out;omega,h2,HTX9.out,by have:=HMO.out;omega⟩
   | false=>
    have hq:iF T (T.length+1) [] so=(l,sk):=by
     rw [HUL.out]
     cases gk with
     | zero=>rfl
     | succ g=>rw [iF,if_neg Y91]
    obtain ⟨bK,hbK⟩:=aE (isT T sk 10 jN);have HBK:=J hbK;obtain ⟨s2,hs2⟩:=aE ((if 0<l.length∧isT T sk 10 jN=false then (bT T sk 10 kR).2 else sk));have HS2:=J hs2;obtain ⟨⟨ts,s3⟩,htm⟩:=aE (fB T s2);have HTM:=J htm;obtain ⟨⟨ks,s4⟩,hr0⟩:=aE ((rcF T f).stmts s3);have HR0:=J hr0;obtain ⟨⟨t9,s5⟩,hn5⟩:=aE (bT T s4 10 jN);have HN5:=J hn5;have hg2:Go7 T sk s2:=by
     rw [←hs2]
     split
     ·exact fU HOK.out.at0 sk 10 kR Y3
     ·exact Go7.refl sk
    have hg3:=nG HOK.out.at0 s2;rw [htm] at hg3;have hg4:=((fY HOK.out.at0 f).stmts s3).1;rw [hr0] at hg4;have hi2:=hg2.top HIL.out;have hi3:=hg3.top hi2;have HI2:=J hi2;have HI3:Hid (s3.i≤T.length):=J hi3;have HI4:Hid (s4.i≤T.length):=J (hg4.top hi3);have HF5:Hid (8*(T.length-s3.i)+6<f):=J (by have h1:=hg2.le;have h2:s2.i≤s3.i:=hg3.le;have:=HFU.out;have:=HMO.out;omega);have HTY:Hid (∀x,x∈ts→x.size≤100000):=J (by have h9:=tJ HOK.out s2;rw [htm] at h9;exact h9);have HE:Hid (oT T (rcF T f) s=(.node 9 eB 0 l ts ks,hE s5)):=J (by
     rw [HE0.out,hq];dsimp only;rw [hs2,htm];dsimp only;rw [hr0];dsimp only;rw [hn5])
    clear hq hbK hs2 htm hr0 hn5 hg2 hg3 hg4 hi2 hi3;obtain ⟨bq,hbq⟩:=aE ((decide (0<n) && !bK));have HBQ:=J hbq;clear hbq
    go_upto_region 7 with (first | (go_at_call 48;(with_reducible refine (bD HM.out.pt.1.pt bel HOK.out 8 eB).mono ?_);rw [HB.out];rintro e w4 ⟨rfl,hx⟩;have hm9:=HM.out.go bel hx;clear HM;have HM:=J hm9;(try clear n0 nr0 n1 nr1 n2 nr2 n3 nr3 n4 nr4 n5 nr5);(try clear o0 or0 o1 or1 o2 or2 o3 or3 o4 or4 o5 or5);obtain ⟨n0,n1,n2,n3,n4,n5,nr0,nr1,nr2,nr3,nr4,nr5⟩:=cf6 (hm9.res);obtain ⟨o0,o1,o2,o3,o4,o5,or0,or1,or2,or3,or4,or5⟩:=cf6 (hm9.out);clear hm9 hx))
    go_cut [26] (fun v26 wx=>v26= .bool bq∧Bw w wx (w.heap.size) (w.heap.size+1) pb v T sk 9 eB 0 (.slice A n c) (.slice none 0 0) (.slice none 0 0) l [])
    case first=>
     by_cases h0:0<n
     ·have d1:=aD h0;have d2:=aT h0;have d3:(0:Int)<(n:Int):=I;have e9:bq=!bK:=by rw [←HBQ.out,d1];simp
      clear h0;go_wp2_with (first | (go_at_call 48;(with_reducible refine (bD HM.out.pt.1.pt bel HOK.out 10 jN).mono ?_);rw [HBK.out];rintro e w5 ⟨rfl,hx⟩;have hm9:=HM.out.go bel hx;clear HM;have HM:=J hm9;(try clear n0 nr0 n1 nr1 n2 nr2 n3 nr3 n4 nr4 n5 nr5);(try clear o0 or0 o1 or1 o2 or2 o3 or3 o4 or4 o5 or5);obtain ⟨n0,n1,n2,n3,n4,n5,nr0,nr1,nr2,nr3,nr4,nr5⟩:=cf6 (hm9.res);obtain ⟨o0,o1,o2,o3,o4,o5,or0,or1,or2,or3,or4,or5⟩:=cf6 (hm9.out);clear hm9 hx));go_meet;exact ⟨by rw [e9],HM.out⟩
     ·have d1:=aK h0;have d2:=aF h0;have d3:¬(0:Int)<(n:Int):=I;have e9:bq=false:=by rw [←HBQ.out,d1];rfl
      clear h0;go_wp2_with fail;go_meet;exact ⟨by rw [e9],HM.out⟩
    case rest=>
     obtain ⟨rfl,hm9⟩:=hcut;clear HM
     (try clear n0 nr0 n1 nr1 n2 nr2 n3 nr3 n4 nr4 n5 nr5)
     (try clear o0 or0 o1 or1 o2 or2 o3 or3 o4 or4 o5 or5)
     have HM:=J hm9
     rename World=>w5
     obtain ⟨n0,n1,n2,n3,n4,n5,nr0,nr1,nr2,nr3,nr4,nr5⟩:=cf6 (hm9.res);obtain ⟨o0,o1,o2,o3,o4,o5,or0,or1,or2,or3,or4,or5⟩:=cf6 (hm9.out);clear hm9
     go_upto_if 26 with fail
     go_cut [] (fun wx=>Bw w wx (w.heap.size) (w.heap.size+1) pb v T s2 9 eB 0 (.slice A n c) (.slice none 0 0) (.slice none 0 0) l [])
     case first=>
      cases bq with
      | true=>
       have e9:0<n∧bK=false:=by have h9:=HBQ.out;simpa using h9
       obtain ⟨⟨t8,s8⟩,hn8⟩:=aE (bT T sk 10 kR);have HN8:=J hn8;have HZ:Hid (s2=s8):=J (by have h9:=HS2.out;rw [if_pos ⟨by rw [←HM.out.len.1];exact e9.1,by rw [HBK.out];exact e9.2⟩,hn8] at h9;exact h9.symm);clear hn8 e9;go_wp2_with (first | (go_at_call 27;(with_reducible refine (gI (HM.out.pt.1.below bel) HOK.out HIL.out 10 kR HN8.out).mono ?_);rintro e w6 ⟨rfl,hx⟩;have hm9:=HM.out.go bel hx;clear HM;have HM:=J hm9;(try clear n0 nr0 n1 nr1 n2 nr2 n3 nr3 n4 nr4 n5 nr5);(try clear o0 or0 o1 or1 o2 or2 o3 or3 o4 or4 o5 or5);obtain ⟨n0,n1,n2,n3,n4,n5,nr0,nr1,nr2,nr3,nr4,nr5⟩:=cf6 (hm9.res);obtain ⟨o0,o1,o2,o3,o4,o5,or0,or1,or2,or3,or4,or5⟩:=cf6 (hm9.out);clear hm9 hx));go_meet;rw [HZ.out];exact HM.out
      | false=>
       have HZ:Hid (s2=sk):=J (by
        have h9:=HS2.out;rw [if_neg (fun z=>by
         have h8:=HBQ.out;rw [HBK.out] at z;rw [z.2,aD (show 0<n by rw [HM.out.len.1];exact z.1)] at h8
         cases h8)] at h9
        exact h9.symm)
       go_wp2_with fail;go_meet;rw [HZ.out];exact HM.out
     case rest=>
      have hm9:=hcut;clear HM hcut
      (try clear n0 nr0 n1 nr1 n2 nr2 n3 nr3 n4 nr4 n5 nr5)
      (try clear o0 or0 o1 or1 o2 or2 o3 or3 o4 or4 o5 or5)
      have HM:=J hm9
      rename World=>wt
      obtain ⟨n0,n1,n2,n3,n4,n5,nr0,nr1,nr2,nr3,nr4,nr5⟩:=cf6 (hm9.res);obtain ⟨o0,o1,o2,o3,o4,o5,or0,or1,or2,or3,or4,or5⟩:=cf6 (hm9.out);clear hm9
      go_upto_region 10 with (first | (go_at_call 25;(with_reducible refine (pP (HM.out.pt.1.below bel) HOK.out HI2.out).mono ?_);rw [HTM.out];rintro e w6 ⟨vr9,rfl,hx,hr9⟩;obtain ⟨A2,c2,hvr,_⟩:=SRow.slice hr9;subst hvr;have HSR2:=J (bR hr9 (HM.out.base bel));clear hr9;have hm9:=HM.out.go bel hx;clear HM;have HM:=J hm9;(try clear n0 nr0 n1 nr1 n2 nr2 n3 nr3 n4 nr4 n5 nr5);(try clear o0 or0 o1 or1 o2 or2 o3 or3 o4 or4 o5 or5);obtain ⟨n0,n1,n2,n3,n4,n5,nr0,nr1,nr2,nr3,nr4,nr5⟩:=cf6 (hm9.res);obtain ⟨o0,o1,o2,o3,o4,o5,or0,or1,or2,or3,or4,or5⟩:=cf6 (hm9.out);clear hm9 hx))
      have hm9:=HM.out.setT HSR2.out aR;obtain ⟨w7,hw9⟩:=aE (w6.setCell ⟨w.heap.size+1,4,none⟩ (.slice A2 ts.length c2));rw [hw9] at hm9 ⊢;clear HM hw9;have HM:=J hm9
      (try clear n0 nr0 n1 nr1 n2 nr2 n3 nr3 n4 nr4 n5 nr5)
      (try clear o0 or0 o1 or1 o2 or2 o3 or3 o4 or4 o5 or5)
      obtain ⟨n0,n1,n2,n3,n4,n5,nr0,nr1,nr2,nr3,nr4,nr5⟩:=cf6 (hm9.res);obtain ⟨o0,o1,o2,o3,o4,o5,or0,or1,or2,or3,or4,or5⟩:=cf6 (hm9.out);clear hm9
      go_upto_region 11 with (first | (go_at_call 26;(with_reducible refine (hp.stmts (HM.out.pt.1.below bel) HI3.out HF5.out).mono ?_);rw [HR0.out];rintro e w8 hrow;obtain ⟨p3,c3,hee,hx,hny⟩:=RowP.node hrow 9 0 eB ⟨by decide,by decide⟩ ⟨by decide,by decide⟩ Y3;subst hee;have HNY:=J (hny.more (D':=fun b=>w.heap.size+1+1≤b) (fun b z _=>Nat.le_trans (HM.out.base bel) z));clear hny hrow;have hm9:=HM.out.go bel hx;clear HM;have HM:=J hm9;(try clear n0 nr0 n1 nr1 n2 nr2 n3 nr3 n4 nr4 n5 nr5);(try clear o0 or0 o1 or1 o2 or2 o3 or3 o4 or4 o5 or5);obtain ⟨n0,n1,n2,n3,n4,n5,nr0,nr1,nr2,nr3,nr4,nr5⟩:=cf6 (hm9.res);obtain ⟨o0,o1,o2,o3,o4,o5,or0,or1,or2,or3,or4,or5⟩:=cf6 (hm9.out);clear hm9 hx))
      have hm9:=HM.out.setK (.slice p3 ks.length c3);have hny:=HNY.out.turns (w':=w8.setCell ⟨w.heap.size+1,5,none⟩ (.slice p3 ks.length c3)) ((Turns.refl (fun k=>k=w.heap.size+1) _).setCell ⟨w.heap.size+1,5,none⟩ _ (.inl rfl)) (fun b z _ e=>by have e9:b=w.heap.size+1:=e;omega) (fun _ z=>z);obtain ⟨w9,hw9⟩:=aE (w8.setCell ⟨w.heap.size+1,5,none⟩ (.slice p3 ks.length c3));rw [hw9] at hm9 hny ⊢;clear HM hw9;have HM:=J hm9
      (try clear n0 nr0 n1 nr1 n2 nr2 n3 nr3 n4 nr4 n5 nr5)
      (try clear o0 or0 o1 or1 o2 or2 o3 or3 o4 or4 o5 or5)
      obtain ⟨n0,n1,n2,n3,n4,n5,nr0,nr1,nr2,nr3,nr4,nr5⟩:=cf6 (hm9.res);obtain ⟨o0,o1,o2,o3,o4,o5,or0,or1,or2,or3,or4,or5⟩:=cf6 (hm9.out);clear HNY;have HNY:=J hny;clear hm9 hny
      go_upto_region 12 with (first | (go_at_call 27;(with_reducible refine (gI (HM.out.pt.1.below bel) HOK.out HI4.out 10 jN HN5.out).mono ?_);rintro e w10 ⟨rfl,hx⟩;have hn9:=PT.keepN bel hx HNY.out (fun b z e=>by have:=HM.out.pl;omega);clear HNY;have HNY:=J hn9;clear hn9;have hm9:=HM.out.go bel hx;clear HM;have HM:=J hm9;(try clear n0 nr0 n1 nr1 n2 nr2 n3 nr3 n4 nr4 n5 nr5);(try clear o0 or0 o1 or1 o2 or2 o3 or3 o4 or4 o5 or5);obtain ⟨n0,n1,n2,n3,n4,n5,nr0,nr1,nr2,nr3,nr4,nr5⟩:=cf6 (hm9.res);obtain ⟨o0,o1,o2,o3,o4,o5,or0,or1,or2,or3,or4,or5⟩:=cf6 (hm9.out);clear hm9 hx))
      have k2:w10.cell? ⟨pb,2,none⟩=some (.int .i64 s5.deep):=HM.out.pt.1.cell rfl;have f2:=HM.out.pt.1.free 2
      go_upto_region 13 with fail
      have hx9:=HM.out.pt.1.put (s':=hE s5) 2 (.int .i64 (Go.RowKit.wrap64 (s5.deep-1))) rfl HM.out.pt.1.le;have hm9:=HM.out.go (Below.refl _ _) hx9;have hny:=PT.keepN (Below.refl _ _) hx9 HNY.out (fun b z e=>by have:=HM.out.pl;omega);obtain ⟨w11,hw9⟩:=aE (w10.setCell ⟨pb,2,none⟩ (.int .i64 (Go.RowKit.wrap64 (s5.deep-1))));rw [hw9] at hm9 hny hx9 ⊢;clear HM hw9;have HM:=J hm9
      (try clear n0 nr0 n1 nr1 n2 nr2 n3 nr3 n4 nr4 n5 nr5)
      (try clear o0 or0 o1 or1 o2 or2 o3 or3 o4 or4 o5 or5)
      obtain ⟨n0,n1,n2,n3,n4,n5,nr0,nr1,nr2,nr3,nr4,nr5⟩:=cf6 (hm9.res);obtain ⟨o0,o1,o2,o3,o4,o5,or0,or1,or2,or3,or4,or5⟩:=cf6 (hm9.out);clear HNY;have HNY:=J hny;clear hm9 hny hx9 k2 f2;go_wp2_with fail;obtain ⟨W9,hW9⟩:∃W9,W9=((((((w11.setCell ⟨w.heap.size,0,none⟩ (.int .i64 9)).setCell ⟨w.heap.size,1,none⟩ (.string eB)).setCell ⟨w.heap.size,2,none⟩ (.int .i64 0)).setCell ⟨w.heap.size,3,none⟩ (.slice A n c)).setCell ⟨w.heap.size,4,none⟩ (.slice A2 ts.length c2)).setCell ⟨w.heap.size,5,none⟩ (.slice p3 ks.length c3)):=⟨_,rfl⟩;have h9:W9.heap[w.heap.size]? =some (.cells #[.int .i64 9,.string eB,.int .i64 0,.slice A n c,.slice A2 ts.length c2,.slice p3 ks.length c3] 25 (0,0)):=Y19;obtain ⟨z0,z1,z2,z3,z4,z5⟩:=cc6 h9;have HT9:Hid (Turns (fun k=>k=w.heap.size) w11 W9):=J Y2;rw [←hW9];clear hW9 h9;refine bodyPost_ret (v:=.agg #[.int .i64 9,.string eB,.int .i64 0,.slice A n c,.slice A2 ts.length c2,.slice p3 ks.length c3]) (by simp [results,Tryz.results89,go_sem,z0,z1,z2,z3,z4,z5]) rfl ?_;rw [HE.out];refine ⟨⟨A,c,A2,c2,p3,c3⟩,?_,HM.out.pt.turned HT9.out (fun k e=>by have e9:k=w.heap.size:=e;exact ⟨by omega,by have:=HPL.out;omega,by rw [e9];exact HOLD.out⟩),HM.out.node HNY.out HTX.out HTY.out HT9.out (fun b z=>.inr I)⟩
      show Ending.returned (.agg #[.int .i64 9,.string eB,.int .i64 0,.slice A n c,.slice A2 ts.length c2,.slice p3 ks.length c3])=Ending.returned (.agg #[.int .i64 9,.string eB,.int .i64 0,.slice A l.length c,.slice A2 ts.length c2,.slice p3 ks.length c3])
      rw [HM.out.len.1]
end Go.Proofs.YtnojndgmgkgnpaaGreat
