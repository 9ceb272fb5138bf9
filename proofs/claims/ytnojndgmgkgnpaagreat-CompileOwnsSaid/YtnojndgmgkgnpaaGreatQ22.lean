/- Chapter 10: words and contracts for the law. -/
import Derived.Test.YtnojndgmgkgnpaaGreatQ21
import Derived.Test.YtnojndgmgkgnpaaGreatQ04
import Derived.Test.YtnojndgmgkgnpaaGreatQ10
import Derived.Deep.RegionLaw
set_option maxRecDepth 100000
set_option maxHeartbeats 40000000
set_option linter.unusedVariables false
set_option linter.unusedSimpArgs false
namespace Go.Proofs.YtnojndgmgkgnpaaGreat
open Go.ChangeShapes Go.WideShapes Go.ChangeAt Go.RowKit Go.Deep Go.Joins Go.Maps
theorem rC (w:World):Calls Tryz.prog 6 #[] w fun e w'=>e= .returned (.bool true)∧Below w.heap.size w w':=by
 obtain ⟨x1,hx1⟩:=aE ((eC ex1 true).1);obtain ⟨x2,hx2⟩:=aE ((eC ex2 false).1);obtain ⟨x3,hx3⟩:=aE ((eC ex3 false).1);have R1:Hid (∀W,Calls Tryz.prog 11 #[.string ⟨#[102,111,111,32,94,120,32,43,32,49]⟩,.bool true] W (NodP x1 W)):=J (fun W=>rZ (s:=ex1) (Prod.ext hx1 ex1_x) Y3 W);have R2:Hid (∀W,Calls Tryz.prog 11 #[.string ⟨#[51,32,62,32,50,32,105,102,84,114,117,101,58,32,91,39,97,39,93]⟩,.bool false] W (NodP x2 W)):=J (fun W=>rZ (s:=ex2) (Prod.ext hx2 ex2_x) Y3 W);have R3:Hid (∀W,Calls Tryz.prog 11 #[.string ⟨#[113]⟩,.bool false] W (NodP x3 W)):=J (fun W=>rZ (s:=ex3) (Prod.ext hx3 ex3_x) Y3 W);have s1:=ex1_s;have s2:=ex2_s;have s3:=ex3_s;have c1:=ex1_m;have c2:=ex2_m;have c3:=ex3_m;have d1:=ex1_c;have d2:=ex2_c;rw [hx1] at s1 c1 d1;rw [hx2] at s2 c2 d2;rw [hx3] at s3 c3;have HS1:Hid (x1.size≤100000):=J I;have HS2:Hid (x2.size≤100000):=J I;have HS3:Hid (x3.size≤100000):=J I;obtain ⟨m1,hm1⟩:=aE ((eW x1.size x1 [bX] false).1);obtain ⟨m2,hm2⟩:=aE ((eW x2.size x2 [] true).1);obtain ⟨m3,hm3⟩:=aE ((eW x3.size x3 [] true).1);have HC1M:Hid (eW x1.size x1 [bX] false=(m1,eB,0)):=J (Prod.ext hm1 c1);have HC2M:Hid (eW x2.size x2 [] true=(m2,eB,0)):=J (Prod.ext hm2 c2);have HC3M:Hid (eW x3.size x3 [] true=(m3,ex3,15)):=J (Prod.ext hm3 c3);rw [hm1] at d1;rw [hm2] at d2;have HD1:=J d1;have HD2:=J d2;have HB:Hid (Below w.heap.size w w):=J (Below.refl _ _);clear hx1 hx2 hx3 s1 s2 s3 c1 c2 c3 d1 d2 hm1 hm2 hm3;go_enter Tryz.func6,Tryz.ntmps6
 go_upto_region 2 with (first | (go_at_call 11;(with_reducible refine (R1.out _).mono ?_);rintro e w1a ⟨q1,rfl,hb9,hn9⟩;unfold ndV;have HBn:=J (HB.out.trans ((hb9).mono HB.out.size));clear HB;have HB:=HBn;clear HBn;have HN1:=J hn9;clear hb9 hn9))
 have hal:=(Below.refl w1a.heap.size w1a).alloc aR (.cells #[.int .i64 x1.kind,.string x1.text,.int .i64 x1.num,.slice q1.pn x1.names.length q1.cn,.slice q1.pt x1.temps.length q1.ct,.slice q1.pk x1.kids.length q1.ck] 25);have hbx:=heap_alloc_new w1a (.cells #[.int .i64 x1.kind,.string x1.text,.int .i64 x1.num,.slice q1.pn x1.names.length q1.cn,.slice q1.pt x1.temps.length q1.ct,.slice q1.pk x1.kids.length q1.ck] 25);obtain ⟨w1b,hwe⟩:∃z,w1a.alloc (.cells #[.int .i64 x1.kind,.string x1.text,.int .i64 x1.num,.slice q1.pn x1.names.length q1.cn,.slice q1.pt x1.temps.length q1.ct,.slice q1.pk x1.kids.length q1.ck] 25)=z:=⟨_,rfl⟩;rw [hwe] at hal hbx ⊢;have hn9:=HN1.out.under hal;have HBn:=J (HB.out.trans ((hal).mono HB.out.size));clear HB;have HB:=HBn;clear HBn;clear HN1 hwe hal;have HN:=J hn9;obtain ⟨a0,a1,a2,a3,a4,a5⟩:=cc6 (hbx);clear hn9;have HM:Hid (∀W,Below w1b.heap.size w1b W→∀b,W.heap[b]? =some (.cells #[.string bX] 9 (0,0))→Calls Tryz.prog 8 #[.agg #[.int .i64 x1.kind,.string x1.text,.int .i64 x1.num,.slice q1.pn x1.names.length q1.cn,.slice q1.pt x1.temps.length q1.ct,.slice q1.pk x1.kids.length q1.ck],.slice (some ⟨b,0,none⟩) 1 1] W (yP m1 eB 0 W)):=J (fun W hW b hb=>(pJ (HN.out.under hW) (strs_one hb Y3) rfl Y3 HS1.out).mono (fun e w' h=>by rw [HC1M.out] at h;exact h.met))
 go_upto_region 3 with (first | (go_at_call 8;(with_reducible refine (HM.out _ bel _ (heap_alloc_new _ _)).mono ?_);rintro e w1c ⟨Al1,nl1,cl1,Ac1,nc1,cc1,D1,ps1,rfl,hl1,hl2,hl3,hl4,hl5,hl6,htd,hb9⟩;have hs9:=((bz w1b).trans (hb9.mono (bz w1b).size));have HBn:=J (HB.out.trans ((hs9).mono HB.out.size));clear HB;have HB:=HBn;clear HBn;have HC1:=J (htd.codeOf hl2);have HL1:=J hl2;clear hl1 hl2 hl3 hl4 hl5 hl6 htd hb9 hs9))
 clear HM HN hbx a0 a1 a2 a3 a4 a5;have hal:=(Below.refl w1c.heap.size w1c).alloc aR (.cells #[.string m1.sel,.int .i64 (m1.args:Int),.int .i64 (m1.temps:Int),.int .i64 m1.prim,.slice Al1 nl1 cl1,.slice Ac1 nc1 cc1] 32);have hbx1:=heap_alloc_new w1c (.cells #[.string m1.sel,.int .i64 (m1.args:Int),.int .i64 (m1.temps:Int),.int .i64 m1.prim,.slice Al1 nl1 cl1,.slice Ac1 nc1 cc1] 32);obtain ⟨w1,hwe⟩:∃z,w1c.alloc (.cells #[.string m1.sel,.int .i64 (m1.args:Int),.int .i64 (m1.temps:Int),.int .i64 m1.prim,.slice Al1 nl1 cl1,.slice Ac1 nc1 cc1] 32)=z:=⟨_,rfl⟩;rw [hwe] at hal hbx1 ⊢;have HBn:=J (HB.out.trans ((hal).mono HB.out.size));clear HB;have HB:=HBn;clear HBn;clear hwe;have HK1:=J hbx1;clear hbx1;have HP1:=J (Below.refl w1.heap.size w1);have HCn:Hid (IsCode w1 Ac1 nc1 (jK m1.code)):=J (Tx.code_kept HC1.out hal);clear HC1;have HC1:=HCn;clear HCn;clear hal
 go_upto_region 4 with (first | (go_at_call 11;(with_reducible refine (R2.out _).mono ?_);rintro e w2a ⟨q2,rfl,hb9,hn9⟩;unfold ndV;have HBn:=J (HB.out.trans ((hb9).mono HB.out.size));clear HB;have HB:=HBn;clear HBn;have HP1n:=J (HP1.out.trans ((hb9).mono HP1.out.size));clear HP1;have HP1:=HP1n;clear HP1n;have HN2:=J hn9;clear hb9 hn9))
 have hal:=(Below.refl w2a.heap.size w2a).alloc aR (.cells #[.int .i64 x2.kind,.string x2.text,.int .i64 x2.num,.slice q2.pn x2.names.length q2.cn,.slice q2.pt x2.temps.length q2.ct,.slice q2.pk x2.kids.length q2.ck] 25);have hbx:=heap_alloc_new w2a (.cells #[.int .i64 x2.kind,.string x2.text,.int .i64 x2.num,.slice q2.pn x2.names.length q2.cn,.slice q2.pt x2.temps.length q2.ct,.slice q2.pk x2.kids.length q2.ck] 25);obtain ⟨w2b,hwe⟩:∃z,w2a.alloc (.cells #[.int .i64 x2.kind,.string x2.text,.int .i64 x2.num,.slice q2.pn x2.names.length q2.cn,.slice q2.pt x2.temps.length q2.ct,.slice q2.pk x2.kids.length q2.ck] 25)=z:=⟨_,rfl⟩;rw [hwe] at hal hbx ⊢;have hn9:=HN2.out.under hal;have HBn:=J (HB.out.trans ((hal).mono HB.out.size));clear HB;have HB:=HBn;clear HBn;have HP1n:=J (HP1.out.trans ((hal).mono HP1.out.size));clear HP1;have HP1:=HP1n;clear HP1n;clear HN2 hwe hal;have HN:=J hn9;obtain ⟨a0,a1,a2,a3,a4,a5⟩:=cc6 (hbx);clear hn9;have HM:Hid (∀W,Below w2b.heap.size w2b W→Calls Tryz.prog 14 #[.agg #[.int .i64 x2.kind,.string x2.text,.int .i64 x2.num,.slice q2.pn x2.names.length q2.cn,.slice q2.pt x2.temps.length q2.ct,.slice q2.pk x2.kids.length q2.ck]] W (yP m2 eB 0 W)):=J (fun W hW=>(sZ (HN.out.under hW) HS2.out).mono (fun e w' h=>by rw [HC2M.out] at h;exact h.met))
 go_upto_region 5 with (first | (go_at_call 14;(with_reducible refine (HM.out _ bel).mono ?_);rintro e w2c ⟨Al2,nl2,cl2,Ac2,nc2,cc2,D2,ps2,rfl,hl1,hl2,hl3,hl4,hl5,hl6,htd,hb9⟩;have hs9:=((bz w2b).trans (hb9.mono (bz w2b).size));have HBn:=J (HB.out.trans ((hs9).mono HB.out.size));clear HB;have HB:=HBn;clear HBn;have HP1n:=J (HP1.out.trans ((hs9).mono HP1.out.size));clear HP1;have HP1:=HP1n;clear HP1n;have HC2:=J (htd.codeOf hl2);have HL2:=J hl2;clear hl1 hl2 hl3 hl4 hl5 hl6 htd hb9 hs9))
 clear HM HN hbx a0 a1 a2 a3 a4 a5;have hal:=(Below.refl w2c.heap.size w2c).alloc aR (.cells #[.string m2.sel,.int .i64 (m2.args:Int),.int .i64 (m2.temps:Int),.int .i64 m2.prim,.slice Al2 nl2 cl2,.slice Ac2 nc2 cc2] 32);have hbx2:=heap_alloc_new w2c (.cells #[.string m2.sel,.int .i64 (m2.args:Int),.int .i64 (m2.temps:Int),.int .i64 m2.prim,.slice Al2 nl2 cl2,.slice Ac2 nc2 cc2] 32);obtain ⟨w2,hwe⟩:∃z,w2c.alloc (.cells #[.string m2.sel,.int .i64 (m2.args:Int),.int .i64 (m2.temps:Int),.int .i64 m2.prim,.slice Al2 nl2 cl2,.slice Ac2 nc2 cc2] 32)=z:=⟨_,rfl⟩;rw [hwe] at hal hbx2 ⊢;have HBn:=J (HB.out.trans ((hal).mono HB.out.size));clear HB;have HB:=HBn;clear HBn;have HP1n:=J (HP1.out.trans ((hal).mono HP1.out.size));clear HP1;have HP1:=HP1n;clear HP1n;clear hwe;have HK2:=J hbx2;clear hbx2;have HP2:=J (Below.refl w2.heap.size w2);have HCn:Hid (IsCode w2 Ac2 nc2 (jK m2.code)):=J (Tx.code_kept HC2.out hal);clear HC2;have HC2:=HCn;clear HCn;clear hal
 go_upto_region 6 with (first | (go_at_call 11;(with_reducible refine (R3.out _).mono ?_);rintro e w3a ⟨q3,rfl,hb9,hn9⟩;unfold ndV;have HBn:=J (HB.out.trans ((hb9).mono HB.out.size));clear HB;have HB:=HBn;clear HBn;have HP1n:=J (HP1.out.trans ((hb9).mono HP1.out.size));clear HP1;have HP1:=HP1n;clear HP1n;have HP2n:=J (HP2.out.trans ((hb9).mono HP2.out.size));clear HP2;have HP2:=HP2n;clear HP2n;have HN3:=J hn9;clear hb9 hn9))
 have hal:=(Below.refl w3a.heap.size w3a).alloc aR (.cells #[.int .i64 x3.kind,.string x3.text,.int .i64 x3.num,.slice q3.pn x3.names.length q3.cn,.slice q3.pt x3.temps.length q3.ct,.slice q3.pk x3.kids.length q3.ck] 25);have hbx:=heap_alloc_new w3a (.cells #[.int .i64 x3.kind,.string x3.text,.int .i64 x3.num,.slice q3.pn x3.names.length q3.cn,.slice q3.pt x3.temps.length q3.ct,.slice q3.pk x3.kids.length q3.ck] 25);obtain ⟨w3b,hwe⟩:∃z,w3a.alloc (.cells #[.int .i64 x3.kind,.string x3.text,.int .i64 x3.num,.slice q3.pn x3.names.length q3.cn,.slice q3.pt x3.temps.length q3.ct,.slice q3.pk x3.kids.length q3.ck] 25)=z:=⟨_,rfl⟩;rw [hwe] at hal hbx ⊢;have hn9:=HN3.out.under hal;have HBn:=J (HB.out.trans ((hal).mono HB.out.size));clear HB;have HB:=HBn;clear HBn;have HP1n:=J (HP1.out.trans ((hal).mono HP1.out.size));clear HP1;have HP1:=HP1n;clear HP1n;have HP2n:=J (HP2.out.trans ((hal).mono HP2.out.size));clear HP2;have HP2:=HP2n;clear HP2n;clear HN3 hwe hal;have HN:=J hn9;obtain ⟨a0,a1,a2,a3,a4,a5⟩:=cc6 (hbx);clear hn9;have HM:Hid (∀W,Below w3b.heap.size w3b W→Calls Tryz.prog 14 #[.agg #[.int .i64 x3.kind,.string x3.text,.int .i64 x3.num,.slice q3.pn x3.names.length q3.cn,.slice q3.pt x3.temps.length q3.ct,.slice q3.pk x3.kids.length q3.ck]] W (yP m3 ex3 15 W)):=J (fun W hW=>(sZ (HN.out.under hW) HS3.out).mono (fun e w' h=>by rw [HC3M.out] at h;exact h.met))
 go_upto_region 7 with (first | (go_at_call 14;(with_reducible refine (HM.out _ bel).mono ?_);rintro e w3c ⟨Al3,nl3,cl3,Ac3,nc3,cc3,D3,ps3,rfl,hl1,hl2,hl3,hl4,hl5,hl6,htd,hb9⟩;have hs9:=((bz w3b).trans (hb9.mono (bz w3b).size));have HBn:=J (HB.out.trans ((hs9).mono HB.out.size));clear HB;have HB:=HBn;clear HBn;have HP1n:=J (HP1.out.trans ((hs9).mono HP1.out.size));clear HP1;have HP1:=HP1n;clear HP1n;have HP2n:=J (HP2.out.trans ((hs9).mono HP2.out.size));clear HP2;have HP2:=HP2n;clear HP2n;clear hl1 hl2 hl3 hl4 hl5 hl6 htd hb9 hs9))
 clear HM HN hbx a0 a1 a2 a3 a4 a5;have hal:=(Below.refl w3c.heap.size w3c).alloc aR (.cells #[.string m3.sel,.int .i64 (m3.args:Int),.int .i64 (m3.temps:Int),.int .i64 m3.prim,.slice Al3 nl3 cl3,.slice Ac3 nc3 cc3] 32);have hbx3:=heap_alloc_new w3c (.cells #[.string m3.sel,.int .i64 (m3.args:Int),.int .i64 (m3.temps:Int),.int .i64 m3.prim,.slice Al3 nl3 cl3,.slice Ac3 nc3 cc3] 32);obtain ⟨w3,hwe⟩:∃z,w3c.alloc (.cells #[.string m3.sel,.int .i64 (m3.args:Int),.int .i64 (m3.temps:Int),.int .i64 m3.prim,.slice Al3 nl3 cl3,.slice Ac3 nc3 cc3] 32)=z:=⟨_,rfl⟩;rw [hwe] at hal hbx3 ⊢;have HBn:=J (HB.out.trans ((hal).mono HB.out.size));clear HB;have HB:=HBn;clear HBn;have HP1n:=J (HP1.out.trans ((hal).mono HP1.out.size));clear HP1;have HP1:=HP1n;clear HP1n;have HP2n:=J (HP2.out.trans ((hal).mono HP2.out.size));clear HP2;have HP2:=HP2n;clear HP2n;clear hwe;have HK3:=J hbx3;clear hbx3;clear hal;have hd1:=HD1.out;have hd2:=HD2.out;have hc1:=Tx.code_kept HC1.out HP1.out;have hc2:=Tx.code_kept HC2.out HP2.out;rw [hd1] at hc1;rw [hd2] at hc2;have hn1:nc1=4:=by rw [←HL1.out,hd1];rfl
 have hn2:nc2=8:=by rw [←HL2.out,hd2];rfl
 have HT1:Hid (∀W,Below w3.heap.size w3 W→Calls Tryz.prog 15 #[.slice Ac1 nc1 cc1] W fun e w'=>e= .returned (.string ⟨#[105,118,97,114,32,48,10,108,105,116,32,48,10,115,101,110,100,32,49,32,49,10,114,101,116,117,114,110,10]⟩)∧Below W.heap.size W w'):=J (fun W hW=>wZ (t:=ext1) hc1 (by rw [hn1];rfl) I (by unfold exc1 Tx.InIns;decide) (by rw [hn1];exact ext1_t) W hW);have HT2:Hid (∀W,Below w3.heap.size w3 W→Calls Tryz.prog 15 #[.slice Ac2 nc2 cc2] W fun e w'=>e= .returned (.string ⟨#[108,105,116,32,48,10,108,105,116,32,49,10,115,101,110,100,32,50,32,49,10,105,102,110,111,116,32,54,32,48,10,108,105,116,32,51,10,106,117,109,112,32,55,32,48,10,110,105,108,10,114,101,116,117,114,110,10]⟩)∧Below W.heap.size W w'):=J (fun W hW=>wZ (t:=ext2) hc2 (by rw [hn2];rfl) I (by unfold exc2 Tx.InIns;decide) (by rw [hn2];exact ext2_t) W hW);have HK1b:Hid (w3.heap[w1c.heap.size]? =some (.cells #[.string m1.sel,.int .i64 (m1.args:Int),.int .i64 (m1.temps:Int),.int .i64 m1.prim,.slice Al1 nl1 cl1,.slice Ac1 nc1 cc1] 32 (0,0))):=J ((HP1.out.block _ (aA HK1.out)).trans HK1.out);have HK2b:Hid (w3.heap[w2c.heap.size]? =some (.cells #[.string m2.sel,.int .i64 (m2.args:Int),.int .i64 (m2.temps:Int),.int .i64 m2.prim,.slice Al2 nl2 cl2,.slice Ac2 nc2 cc2] 32 (0,0))):=J ((HP2.out.block _ (aA HK2.out)).trans HK2.out);clear hd1 hd2 hc1 hc2 hn1 hn2;have k5:w3.cell? ⟨w1c.heap.size,5,none⟩=some (.slice Ac1 nc1 cc1):=aC HK1b.out rfl;have j5:w3.cell? ⟨w2c.heap.size,5,none⟩=some (.slice Ac2 nc2 cc2):=aC HK2b.out rfl;go_wp2_with (first | (go_at_call 15;(with_reducible refine (HT1.out _ bel).mono ?_);rintro e wt1 ⟨rfl,hb1⟩;have HBT:Hid (Below w3.heap.size w3 wt1):=J ((bz w3).trans (hb1.mono (bz w3).size));have HB9:=J (HB.out.trans (HBT.out.mono HB.out.size));have hbt1:=HBT.out;clear hb1;(try clear k5 j5);have k5:wt1.cell? ⟨w1c.heap.size,5,none⟩=some (.slice Ac1 nc1 cc1):=World.cell?_of_block (HBT.out.block _ (aA HK1b.out)) |>.trans (aC HK1b.out rfl);have j5:wt1.cell? ⟨w2c.heap.size,5,none⟩=some (.slice Ac2 nc2 cc2):=World.cell?_of_block (HBT.out.block _ (aA HK2b.out)) |>.trans (aC HK2b.out rfl)) | (go_at_call 15;(with_reducible refine (HT2.out _ bel).mono ?_);rintro e wt2 ⟨rfl,hb2⟩;have HBT:Hid (Below w3.heap.size w3 wt2):=J ((bz w3).trans (hb2.mono (bz w3).size));have HB9:=J (HB.out.trans (HBT.out.mono HB.out.size));have hbt2:=HBT.out;clear hb2;(try clear k5 j5);have k5:wt2.cell? ⟨w1c.heap.size,5,none⟩=some (.slice Ac1 nc1 cc1):=World.cell?_of_block (HBT.out.block _ (aA HK1b.out)) |>.trans (aC HK1b.out rfl);have j5:wt2.cell? ⟨w2c.heap.size,5,none⟩=some (.slice Ac2 nc2 cc2):=World.cell?_of_block (HBT.out.block _ (aA HK2b.out)) |>.trans (aC HK2b.out rfl)));go_ret;exact ⟨rfl,HB9.out⟩
end Go.Proofs.YtnojndgmgkgnpaaGreat
namespace Go.Proofs.YtnojndgmgkgnpaaGreat
mutual
def dJ:NodT→CSt→LitT×CSt
 | .node k t n _ _ ks,s=>
  if k=1 then (.node 1 eB n [],s)
  else if k=2 then (.node 2 t 0 [],s)
  else if k=3 then (.node 3 t 0 [],s)
  else if k=4 then (.node 4 eB 0 (fC ks s).1,(fC ks s).2)
  else (.node 0 eB 0 [],aG s eB 1)
def fC:List NodT→CSt→List LitT×CSt
 | [],s=>([],s)
 | x :: r,s=>if s.err≠0 then ([],s) else ((dJ x s).1 :: (fC r (dJ x s).2).1,(fC r (dJ x s).2).2)
end
def gY (s:CSt) (n:ByteArray):CSt:=if n.toList=cG then aG s n 15 else gG s n
section
variable (rec:NodT→CSt→CSt)
def cU (x:NodT) (s:CSt):CSt:=match x.kids with
 | [k]=>if (rec k s).err≠0 then rec k s else dC (rec k s) (cE s.names x.text) x.text
 | _=>aG s eB 1
def gE (op:Int) (sel:ByteArray) (args:List NodT) (s:CSt):CSt:=if (hY rec args s).err≠0 then hY rec args s else cT rec op sel args s
def lZ (x:NodT) (s:CSt):CSt:=match x.kids with
 | []=>aG s eB 1
 | k :: args=>match eX x with
  | some (y,n)=>cD rec y n x.kids s
  | none=>match cA x with
   | some (w,a,b)=>fE rec w a b s
   | none=>gE rec (cS rec k s).1 x.text args (cS rec k s).2
def dZ (op:Int):List NodT→CSt→CSt
 | [],s=>s
 | m :: r,s=>if s.err≠0 then s else if m.kind≠7 then aG s eB 1 else if r.length=0 then gE rec op m.text m.kids s else dZ op r (aB (gE rec op m.text m.kids (aB s 13 0 0)) 12 0 0)
def jB (x:NodT) (s:CSt):CSt:=match x.kids with
 | k :: m :: r=>dZ rec (cS rec k s).1 (m :: r) (cS rec k s).2
 | _=>aG s eB 1
def dR (x:NodT) (s:CSt):CSt:=
 if s.err≠0 then s
 else if x.kind=1∨x.kind=2∨x.kind=3∨x.kind=4 then (if (dJ x s).2.err≠0 then (dJ x s).2 else aB (bS (dJ x s).2 (dJ x s).1).2 6 (bS (dJ x s).2 (dJ x s).1).1 0)
 else if x.kind=5 then gY s x.text
 else if x.kind=6 then cU rec x s
 else if x.kind=7 then lZ rec x s
 else if x.kind=8 then jB rec x s
 else if x.kind=9 then iW rec x s
 else if x.kind=10 then (match x.kids with | [k]=>aB (rec k s) 20 0 0 | _=>aG s eB 1)
 else aG s eB 1
end
def aS:Nat→NodT→CSt→CSt
 | 0,_,s=>s
 | f+1,x,s=>dR (aS f) x s
mutual
theorem sA:∀(x:NodT) (s:CSt),Tm s (dJ x s).2
 | .node k t n _ _ ks,s=>by
  unfold dJ
  split
  ·exact Tm.refl s
  split
  ·exact Tm.refl s
  split
  ·exact Tm.refl s
  split
  ·exact tS ks s
  ·exact Tm.fail s _ _
theorem tS:∀(l:List NodT) (s:CSt),Tm s (fC l s).2
 | [],s=>Tm.refl s
 | x :: r,s=>by
  unfold fC
  split
  ·exact Tm.refl s
  ·exact (sA x s).trans (tS r _)
end
theorem varR_tm (s:CSt) (n:ByteArray):Tm s (gY s n):=Tm.ite_ (Tm.fail _ _ _) (wN _ _)
section
variable {rec:NodT→CSt→CSt} (hr:∀x s,Tm s (rec x s))
include hr
theorem vK (x:NodT) (s:CSt):Tm s (cU rec x s):=by
 unfold cU
 split
 ·exact Tm.ite_ (hr _ _) ((hr _ _).trans (jS _ _ _))
 ·exact Tm.fail _ _ _
theorem pU (op:Int) (sel:ByteArray) (l:List NodT) (s:CSt):Tm s (gE rec op sel l s):=Tm.ite_ (pC hr l s) (jT hr op sel l s)
theorem sendR_tm (x:NodT) (s:CSt):Tm s (lZ rec x s):=by
 unfold lZ
 split
 ·exact Tm.fail _ _ _
 ·split
  ·exact pD hr _ _ _ _
  ·split
   ·exact sN hr _ _ _ _
   ·exact (mY hr _ _).trans (pU hr _ _ _ _)
theorem nX (op:Int):∀(l:List NodT) (s:CSt),Tm s (dZ rec op l s)
 | [],s=>Tm.refl s
 | m :: r,s=>by
  unfold dZ;refine Tm.ite_ (Tm.refl s) (Tm.ite_ (Tm.fail _ _ _) (Tm.ite_ (pU hr _ _ _ _) ?_));exact (((Tm.emit _ _ _ _).trans (pU hr op m.text m.kids (aB s 13 0 0))).trans (Tm.emit _ _ _ _)).trans (nX op r _)
theorem cascR_tm (x:NodT) (s:CSt):Tm s (jB rec x s):=by
 unfold jB
 split
 ·exact (mY hr _ _).trans (nX hr _ _ _)
 ·exact Tm.fail _ _ _
theorem tT (x:NodT) (s:CSt):Tm s (dR rec x s):=by
 unfold dR
 split
 ·exact Tm.refl s
 split
 ·exact Tm.ite_ (sA x s) ((sA x s).trans ((Tm.place _ _).trans (Tm.emit _ _ _ _)))
 split
 ·exact varR_tm s _
 split
 ·exact vK hr x s
 split
 ·exact sendR_tm hr x s
 split
 ·exact cascR_tm hr x s
 split
 ·exact qQ hr x s
 split
 ·split
  ·exact (hr _ _).trans (Tm.emit _ _ _ _)
  ·exact Tm.fail _ _ _
 ·exact Tm.fail _ _ _
end
theorem jL:∀(f:Nat) (x:NodT) (s:CSt),Tm s (aS f x s)
 | 0,x,s=>Tm.refl s
 | f+1,x,s=>tT (jL f) x s
def Rel (s r:CSt):Prop:=s=r∨(s.err≠0∧r.err=s.err∧r.ename=s.ename)
namespace Rel
variable {s r s' r':CSt}
theorem go (h:Rel s r) (hs:Kp s s') (hr:Kp r r') (he:s=r→s.err=0→Rel s' r'):Rel s' r':=by
 have key:s.err≠0→r.err=s.err→r.ename=s.ename→Rel s' r':=fun a b c=>by
  obtain ⟨p1,p2⟩:=hs a;obtain ⟨q1,q2⟩:=hr (by rw [b];exact a);exact .inr ⟨by rw [p1];exact a,by rw [q1,p1,b],by rw [q2,p2,c]⟩
 rcases h with e | ⟨a,b,c⟩
 ·by_cases z:s.err=0
  ·exact he e z
  ·subst e;exact key z rfl rfl
 ·exact key a b c
theorem map (h:Rel s r) {g:CSt→CSt} (hg:∀t,Tm t (g t)):Rel (g s) (g r):=h.go (hg s).kp (hg r).kp (fun e _=>.inl (by rw [e]))
theorem late (h:Rel s r) (z:r.err≠0) (hs:Kp s s'):Rel s' r:=h.go hs (Kp.refl r) (fun e y=>absurd (e▸y) z)
end Rel
theorem Kp.to {s t:CSt} (h:Kp s t) (p:Nat) (o:Int) (n:Nat):Kp s (toP t p o n):=h
mutual
theorem xA:∀(x:NodT) (s:CSt),s.err=0→((dJ x s).2.err=0→dS x s=dJ x s)∧Rel (dS x s).2 (dJ x s).2
 | .node k t n _ _ ks,s,h=>by
  obtain ⟨a,b⟩:=tU ks s h;unfold dS dJ
  split
  ·exact ⟨fun _=>rfl,.inl rfl⟩
  split
  ·exact ⟨fun _=>rfl,.inl rfl⟩
  split
  ·exact ⟨fun _=>rfl,.inl rfl⟩
  split
  ·exact ⟨fun z=>by rw [a z],b⟩
  ·exact ⟨fun _=>rfl,.inl rfl⟩
theorem tU:∀(l:List NodT) (s:CSt),s.err=0→((fC l s).2.err=0→gC l s=fC l s)∧Rel (gC l s).2 (fC l s).2
 | [],s,h=>⟨fun _=>rfl,.inl rfl⟩
 | x :: r,s,h=>by
  obtain ⟨a,b⟩:=xA x s h;unfold gC fC;rw [if_neg (fun z=>z h)]
  by_cases z:(dJ x s).2.err=0
  ·obtain ⟨c,d⟩:=tU r (dJ x s).2 z;rw [a z];exact ⟨fun y=>by rw [c y],d⟩
  ·have e:fC r (dJ x s).2=([],(dJ x s).2):=by
    cases r with
    | nil=>rfl
    | cons y q=>unfold fC;rw [if_pos z]
   rw [e];exact ⟨fun y=>absurd y z,b.late z (pB r _).kp⟩
end
theorem var_rel (s:CSt) (n:ByteArray):Rel (gG s n) (gY s n):=by
 unfold gY
 split
 ·rename_i h;unfold gG;rw [if_neg (by rw [h];decide),if_neg (by rw [h];decide),if_neg (by rw [h];decide),if_neg (by rw [h];decide),if_neg (by rw [h];decide),if_pos h];dsimp only;have hz:(aG s n 15).err≠0:=by
   unfold aG
   split
   ·show (15:Int)≠0
    decide
   ·assumption
  refine Rel.late (.inl rfl) hz ?_
  split
  ·exact (Tm.ite_ (Tm.emit _ _ _ _) (Tm.emit _ _ _ _)).kp
  ·exact (Tm.ite_ ((Tm.sym _ _).trans (Tm.emit _ _ _ _)) (Tm.fail _ _ _)).kp
 ·exact .inl rfl
section
variable {P R:NodT→CSt→CSt} (hp:∀x s,Tm s (P x s)) (hr:∀x s,Tm s (R x s)) (H:∀x s r,Rel s r→Rel (P x s) (R x r))
include H
theorem tV:∀(l:List NodT) (s r:CSt),Rel s r→Rel (hY P l s) (hY R l r)
 | [],s,r,h=>h
 | a :: l,s,r,h=>tV l _ _ (H a s r h)
theorem rD:∀(b:Bool) (l:List NodT) (s r:CSt),Rel s r→Rel (dD P b l s) (dD R b l r)
 | _,[],s,r,h=>h
 | b,a :: l,s,r,h=>by
  unfold dD;have h1:Rel (if b=true then s else aB s 12 0 0) (if b=true then r else aB r 12 0 0):=h.map (g:=fun t=>if b=true then t else aB t 12 0 0) (fun t=>Tm.ite_ (Tm.refl _) (Tm.emit _ _ _ _));have h2:=(H a _ _ h1).map (g:=fun t=>if a.kind=10 then aB t 2 0 0 else t) (fun t=>Tm.ite_ (Tm.emit _ _ _ _) (Tm.refl _));exact rD false l _ _ h2
theorem tW (x:NodT) (s r:CSt) (h:Rel s r):(cS P x s).1=(cS R x r).1∧Rel (cS P x s).2 (cS R x r).2:=by
 unfold cS
 split
 ·exact ⟨rfl,h.map (fun t=>Tm.emit t 1 0 0)⟩
 ·exact ⟨rfl,H x s r h⟩
include hp hr
theorem nK (x:NodT) (s r:CSt) (h:Rel s r):Rel (cN P x s) (cN R x r):=by
 refine h.go (eS hp x s).kp (eS hr x r).kp (fun e _=>?_);subst e;have h1:=(rD H true x.kids _ _ (.inl (rfl:bI false x.temps (bI true x.names s)=_))).map (g:=fun t=>if x.kids.length=0 then aB t 2 0 0 else t) (fun t=>Tm.ite_ (Tm.emit _ _ _ _) (Tm.refl _));unfold cN;dsimp only at h1 ⊢
 rcases h1 with e | ⟨a,b,c⟩
 ·exact .inl (by rw [e])
 ·exact .inr ⟨a,b,c⟩
theorem xB (a:Arm) (kids:List NodT) (s r:CSt) (h:Rel s r):Rel (dM P a kids s) (dM R a kids r):=by
 cases a with
 | op o=>exact h.map (fun t=>Tm.emit t o 0 0)
 | kid i=>
  unfold dM;dsimp only
  split
  ·exact nK hp hr H _ _ _ h
  ·exact h
theorem oF (y n:Arm) (kids:List NodT) {s1 r1:CSt} (h1:Rel s1 r1):Rel (toP (dM P n kids (toP (aB (dM P y kids (aB s1 17 0 0)) 16 0 0) s1.code.length 17 (aB (dM P y kids (aB s1 17 0 0)) 16 0 0).code.length)) (dM P y kids (aB s1 17 0 0)).code.length 16 (dM P n kids (toP (aB (dM P y kids (aB s1 17 0 0)) 16 0 0) s1.code.length 17 (aB (dM P y kids (aB s1 17 0 0)) 16 0 0).code.length)).code.length) (toP (dM R n kids (toP (aB (dM R y kids (aB r1 17 0 0)) 16 0 0) r1.code.length 17 (aB (dM R y kids (aB r1 17 0 0)) 16 0 0).code.length)) (dM R y kids (aB r1 17 0 0)).code.length 16 (dM R n kids (toP (aB (dM R y kids (aB r1 17 0 0)) 16 0 0) r1.code.length 17 (aB (dM R y kids (aB r1 17 0 0)) 16 0 0).code.length)).code.length):=by
 refine h1.go (kF hp y n kids (Tm.refl s1)).kp (kF hr y n kids (Tm.refl r1)).kp (fun e _=>?_);subst e;have h2:=xB hp hr H y kids _ _ (.inl (rfl:aB s1 17 0 0=_))
 generalize dM P y kids (aB s1 17 0 0)=s2 at h2 ⊢
 generalize dM R y kids (aB s1 17 0 0)=r2 at h2 ⊢
 have K1:∀(Q:NodT→CSt→CSt),(∀x s,Tm s (Q x s))→∀t:CSt,Kp t (toP (dM Q n kids (toP (aB t 16 0 0) s1.code.length 17 (aB t 16 0 0).code.length)) t.code.length 16 (dM Q n kids (toP (aB t 16 0 0) s1.code.length 17 (aB t 16 0 0).code.length)).code.length):=fun Q hq t=>
  (((Tm.emit t 16 0 0).kp.to s1.code.length 17 (aB t 16 0 0).code.length).trans (kE hq n kids _).kp).to _ _ _
 refine h2.go (K1 P hp _) (K1 R hr _) (fun e _=>?_);subst e;have h3:=xB hp hr H n kids _ _ (.inl (rfl:toP (aB s2 16 0 0) s1.code.length 17 (aB s2 16 0 0).code.length=_));exact h3.go (Kp.refl _) (Kp.refl _) (fun e _=>.inl (by rw [e]))
theorem vL (y n:Arm) (kids:List NodT) (s:CSt):Rel (cD P y n kids s) (cD R y n kids s):=by
 cases kids with
 | nil=>exact oF hp hr H y n [] (.inl (rfl:s=s))
 | cons k l=>exact oF hp hr H y n (k :: l) (H k s s (.inl rfl))
theorem loop_rel (w:Bool) (k0 k1:NodT) (s:CSt):Rel (fE P w k0 k1 s) (fE R w k0 k1 s):=by
 have h1:=nK hp hr H k0 s s (.inl rfl);unfold fE;dsimp only
 generalize cN P k0 s=s1 at h1 ⊢
 generalize cN R k0 s=r1 at h1 ⊢
 have K0:∀t:CSt,Kp t (if w=true then aB t 17 0 0 else toP (aB (aB t 17 0 0) 16 0 0) t.code.length 17 ((aB t 17 0 0).code.length+1)):=fun t=>by
  split
  ·exact (Tm.emit _ _ _ _).kp
  ·exact ((Tm.emit _ _ _ _).trans (Tm.emit _ _ _ _)).kp.to _ _ _
 have K2:∀(u:CSt) (a b c d e f:Nat),Kp u (aB (if w=true then toP (toP (aB (aB u 12 0 0) 16 0 0) a 16 b) c 17 d else toP (toP (aB (aB u 12 0 0) 16 0 0) a 16 b) e 16 f) 2 0 0):=fun u a b c d e f=>by
  refine Kp.trans ?_ (Tm.emit _ _ _ _).kp
  split
  ·exact (((Tm.emit u 12 0 0).trans (Tm.emit _ 16 0 0)).kp.to _ _ _).to _ _ _
  ·exact (((Tm.emit u 12 0 0).trans (Tm.emit _ 16 0 0)).kp.to _ _ _).to _ _ _
 refine h1.go (((K0 s1).trans (eS hp k1 _).kp).trans (K2 _ _ _ _ _ _ _)) (((K0 r1).trans (eS hr k1 _).kp).trans (K2 _ _ _ _ _ _ _)) (fun e _=>?_);subst e;have h3:=nK hp hr H k1 _ _ (.inl (rfl:(if w=true then aB s1 17 0 0 else toP (aB (aB s1 17 0 0) 16 0 0) s1.code.length 17 ((aB s1 17 0 0).code.length+1))=_));exact h3.go (K2 _ _ _ _ _ _ _) (K2 _ _ _ _ _ _ _) (fun e _=>.inl (by rw [e]))
omit hp hr in
theorem pV (op:Int) (sel:ByteArray) (l:List NodT) (s r:CSt) (h:Rel s r):Rel (cT P op sel l s) (gE R op sel l r):=by
 have h1:=tV H l s r h;unfold gE
 split
 ·rename_i z;exact h1.late z ((Tm.sym _ _).trans (Tm.emit _ _ _ _)).kp
 ·exact h1.go ((Tm.sym _ _).trans (Tm.emit _ _ _ _)).kp ((Tm.sym _ _).trans (Tm.emit _ _ _ _)).kp (fun e _=>.inl (by unfold cT;rw [e]))
omit hp hr in
theorem vM (x:NodT) (s:CSt):Rel (fI P x s) (cU R x s):=by
 unfold fI cU
 match x.kids with
 | []=>exact .inl rfl
 | [k]=>
  have h1:=H k s s (.inl rfl);dsimp only
  split
  ·rename_i z;exact h1.late z (jS _ _ _).kp
  ·exact h1.go (jS _ _ _).kp (jS _ _ _).kp (fun e _=>.inl (by rw [e]))
 | _ :: _ :: _=>exact .inl rfl
theorem send_rel (x:NodT) (s:CSt):Rel (iU P x s) (lZ R x s):=by
 unfold iU lZ
 cases x.kids with
 | nil=>exact .inl rfl
 | cons k args=>
  dsimp only
  cases eX x with
  | some b=>exact vL hp hr H _ _ _ _
  | none=>
   dsimp only
   cases cA x with
   | some b=>exact loop_rel hp hr H _ _ _ _
   | none=>
    dsimp only;obtain ⟨a,b⟩:=tW H k s s (.inl rfl);rw [a];exact pV H _ _ _ _ _ b
theorem rE (op:Int):∀(l:List NodT) (s r:CSt),Rel s r→Rel (eF P op l s) (dZ R op l r)
 | [],s,r,h=>h
 | m :: l,s,r,h=>by
  refine h.go (lL hp op (m :: l) s).kp (nX hr op (m :: l) r).kp (fun e z=>?_);subst e;unfold eF dZ;rw [if_neg (show ¬s.err≠0 from fun y=>y z)]
  by_cases hk:m.kind≠7
  ·rw [if_pos hk,if_pos hk];have hz:(aG s eB 1).err≠0:=by unfold aG;rw [if_pos z];show (1:Int)≠0;decide
   refine Rel.late (.inl rfl) hz ?_;exact (Tm.ite_ (jT hp _ _ _ _) ((((Tm.emit _ _ _ _).trans (jT hp op m.text m.kids _)).trans (Tm.emit _ _ _ _)).trans (lL hp op l _))).kp
  ·rw [if_neg hk,if_neg hk];dsimp only
   split
   ·exact pV H _ _ _ _ _ (.inl rfl)
   ·exact rE op l _ _ ((pV H op m.text m.kids _ _ (.inl (rfl:aB s 13 0 0=_))).map (fun t=>Tm.emit t 12 0 0))
theorem casc_rel (x:NodT) (s:CSt):Rel (iV P x s) (jB R x s):=by
 unfold iV jB
 match x.kids with
 | []=>exact .inl rfl
 | [_]=>exact .inl rfl
 | k :: m :: l=>
  dsimp only;obtain ⟨a,b⟩:=tW H k s s (.inl rfl);rw [a];exact rE hp hr H _ _ _ _ b
theorem yQ (x:NodT) (s:CSt):Rel (iW P x s) (iW R x s):=by
 unfold iW;dsimp only;have h1:=(nK hp hr H x _ _ (.inl (rfl:aB (aB s 18 s.temps x.names.length) 16 0 0=_))).map (fun t=>Tm.emit t 19 0 0);exact h1.go (Kp.refl _) (Kp.refl _) (fun e _=>.inl (by rw [e]))
theorem step_rel (x:NodT) (s r:CSt) (h:Rel s r):Rel (dV P x s) (dR R x r):=by
 refine h.go (sO hp x s).kp (tT hr x r).kp (fun e z=>?_);subst e;unfold dV dR;rw [if_neg (show ¬s.err≠0 from fun y=>y z),if_neg (show ¬s.err≠0 from fun y=>y z)]
 split
 ·obtain ⟨a,b⟩:=xA x s z
  split
  ·rename_i y;exact b.late y ((Tm.place _ _).trans (Tm.emit _ _ _ _)).kp
  ·rename_i y;rw [a (by simpa using y)];exact .inl rfl
 split
 ·exact var_rel s _
 split
 ·exact vM H x s
 split
 ·exact send_rel hp hr H x s
 split
 ·exact casc_rel hp hr H x s
 split
 ·exact yQ hp hr H x s
 split
 ·match x.kids with
  | []=>exact .inl rfl
  | [k]=>exact (H k s s (.inl rfl)).map (fun t=>Tm.emit t 20 0 0)
  | _ :: _ :: _=>exact .inl rfl
 ·exact .inl rfl
omit hp hr in
theorem mP (value:Bool):∀(l:List NodT) (s r:CSt),Rel s r→Rel (bB P value l s) (bB R value l r)
 | [],s,r,h=>h.map (g:=fun t=>aB (if value=true then aB t 2 0 0 else aB t 1 0 0) 20 0 0) (fun t=>(Tm.ite_ (Tm.emit _ _ _ _) (Tm.emit _ _ _ _)).trans (Tm.emit _ _ _ _))
 | k :: l,s,r,h=>by
  have h1:=H k s r h;unfold bB;dsimp only
  split
  ·exact h1
  split
  ·exact h1.map (fun t=>Tm.emit t 20 0 0)
  split
  ·exact mP value l _ _ h1
  ·exact mP value l _ _ (h1.map (fun t=>Tm.emit t 12 0 0))
end
theorem xC:∀(f:Nat) (x:NodT) (s r:CSt),Rel s r→Rel (aL f x s) (aS f x r)
 | 0,x,s,r,h=>h
 | f+1,x,s,r,h=>step_rel (jG f) (jL f) (xC f) x s r h
def oG (f:Nat) (x:NodT) (fields:List ByteArray) (value:Bool):MetT×ByteArray×Int:=
 if x.kind≠11∨8<fields.length then (noMet,eB,1)
 else
  let s:=fP (aS f) x value (eU fields)
  if s.err≠0 then (noMet,s.ename,s.err)
  else if 60<s.lits.length then (noMet,eB,18)
  else if 400<s.code.length then (noMet,eB,12)
  else if s.code.all fD then (⟨x.text,x.names.length,s.temps,x.num,s.lits,s.code⟩,eB,0)
  else (noMet,eB,12)
theorem read_eq (f:Nat) (x:NodT) (fields:List ByteArray) (value:Bool):oG f x fields value=eW f x fields value:=by
 have h:Rel (fP (aL f) x value (eU fields)) (fP (aS f) x value (eU fields)):=mP (xC f) value x.kids _ _ (.inl rfl);unfold oG eW;dsimp only
 rcases h with e | ⟨a,b,c⟩
 ·rw [e]
 ·have a2:(fP (aS f) x value (eU fields)).err≠0:=by rw [b];exact a
  rw [if_pos a,if_pos a2,b,c]
end Go.Proofs.YtnojndgmgkgnpaaGreat
namespace Go.Proofs.YtnojndgmgkgnpaaGreat.Rf
open Go.ChangeShapes Go.WideShapes Go.ChangeAt Go.RowKit Go.Deep Go.Joins Go.Maps
def nmC (k:Nm):List Value:=[.string k.name,.int .i64 k.kind,.int .i64 k.at_]
theorem lF (k:Nm):(nmC k).length=3:=rfl
abbrev NmRow (w:World) (v:Value) (l:List Nm):Prop:=w.ownsRow 0 55 3 v l.length (l.flatMap nmC)
def sH (l:List Nm):Prop:=∀k,k∈l→k.name.size≤bL∧(0≤k.at_∧k.at_≤1000)∧1≤k.kind∧k.kind≤3
def fR (m:MK) (s:CSt) (lv cv nv:Value):Array Value:=#[.string m.sel,.int .i64 (m.args:Int),.int .i64 (s.temps:Int),.int .i64 m.prim,lv,cv,nv,.int .i64 s.err,.string s.ename]
structure CY (w0:World) (P:Nat→Prop) (w:World) (cb:Nat) (m:MK) (s:CSt) (lv cv nv:Value) (D:Nat→Prop) (ps:List LP):Prop where
 box:w.heap[cb]? =some (.cells (fR m s lv cv nv) 53 (0,0))
 lits:LitRow w D lv ps
 lps:ps.map Prod.fst=s.lits
 code:w.ownsRow 0 42 3 cv s.code.length (s.code.flatMap gF)
 names:NmRow w nv s.names
 nok:sH s.names
 cbP:¬P cb
 lvP:∀k,lv.ownBlock=some k→¬P k∧¬D k
 cvP:∀k,cv.ownBlock=some k→¬P k
 dty:∀k,D k→∃cur,w.heap[k]? =some (.cells cur 44 (0,0))
 stat:Below w0.heap.size w0 w
 low:∀k,k<w0.heap.size→P k
 lim:∀k,P k→k<w.heap.size
 enm:s.ename.size≤bL
def CX (w0:World) (P:Nat→Prop) (w:World) (cb:Nat) (m:MK) (s:CSt):Prop:=∃lv cv nv D ps,CY w0 P w cb m s lv cv nv D ps∧s.temps≤24∧s.names.length≤8+s.temps
abbrev CT (w0:World) (P:Nat→Prop) (ws w:World) (cb:Nat) (m:MK) (s:CSt):Prop:=CX w0 P w cb m s∧Turns (cP P) ws w
section
variable {w0 w w':World} {P P':Nat→Prop} {cb:Nat} {m:MK} {s s':CSt} {lv cv nv lv' cv' nv':Value} {D D':Nat→Prop} {ps ps':List LP}
theorem CY.ne (h:CY w0 P w cb m s lv cv nv D ps):(∀k,lv.ownBlock=some k→k≠cb∧cv.ownBlock≠some k∧nv.ownBlock≠some k)∧(∀k,cv.ownBlock=some k→k≠cb∧¬D k∧nv.ownBlock≠some k)∧(∀k,nv.ownBlock=some k→k≠cb∧¬D k)∧∀k,D k→k≠cb:=by
 have key:∀{k:Nat} {a b:TypeId} {x y:Array Value} {f g:Nat×Nat},w.heap[k]? =some (.cells x a f)→w.heap[k]? =some (.cells y b g)→a=b:=fun h1 h2=>by rw [h1] at h2;simp at h2;exact h2.2.1
 have L:∀k,lv.ownBlock=some k→∃cur,w.heap[k]? =some (.cells cur 44 (0,0)):=fun k hk=>bN h.lits.own hk
 have C:∀k,cv.ownBlock=some k→∃cur,w.heap[k]? =some (.cells cur 42 (0,0)):=fun k hk=>bN h.code hk
 have M:∀k,nv.ownBlock=some k→∃cur,w.heap[k]? =some (.cells cur 55 (0,0)):=fun k hk=>bN h.names hk
 refine ⟨fun k hk=>⟨fun e=>?_,fun e=>?_,fun e=>?_⟩,fun k hk=>⟨fun e=>?_,fun e=>?_,fun e=>?_⟩,fun k hk=>⟨fun e=>?_,fun e=>?_⟩,fun k hk e=>?_⟩
 ·obtain ⟨_,a⟩:=L k hk;exact absurd (key a (e▸h.box)) Y3
 ·obtain ⟨_,a⟩:=L k hk;obtain ⟨_,b⟩:=C k e;exact absurd (key a b) Y3
 ·obtain ⟨_,a⟩:=L k hk;obtain ⟨_,b⟩:=M k e;exact absurd (key a b) Y3
 ·obtain ⟨_,a⟩:=C k hk;exact absurd (key a (e▸h.box)) Y3
 ·obtain ⟨_,a⟩:=C k hk;obtain ⟨_,b⟩:=h.dty k e;exact absurd (key a b) Y3
 ·obtain ⟨_,a⟩:=C k hk;obtain ⟨_,b⟩:=M k e;exact absurd (key a b) Y3
 ·obtain ⟨_,a⟩:=M k hk;exact absurd (key a (e▸h.box)) Y3
 ·obtain ⟨_,a⟩:=M k hk;obtain ⟨_,b⟩:=h.dty k e;exact absurd (key a b) Y3
 ·obtain ⟨_,a⟩:=h.dty k hk;exact absurd (key a (e▸h.box)) Y3
theorem iT {S:Nat→Prop} (h:CY w0 P w cb m s lv cv nv D ps) (ht:Turns S w w') (hS:∀k,S k→¬P k):Below w0.heap.size w0 w':=
 h.stat.trans (ht.below (fun k q=>by
  rcases Nat.lt_or_ge k w0.heap.size with z | z
  ·exact absurd (h.low k z) (hS k q)
  ·exact z) h.stat.size)
theorem CY.same {S:Nat→Prop} (h:CY w0 P w cb m s lv cv nv D ps) (ht:Turns S w w') (hS:∀k,S k→¬P k) (hl:∀k,lv.ownBlock=some k→¬S k) (hc:∀k,cv.ownBlock=some k→¬S k) (hn:∀k,nv.ownBlock=some k→¬S k) (hD:∀k,D k→¬S k) (hb:w'.heap[cb]? =w.heap[cb]?):CY w0 P w' cb m s lv cv nv D ps:=
 ⟨hb.trans h.box,h.lits.same ht.size (fun k hk=>ht.block k (World.ownsRow.lt h.lits.own k hk).2 (hl k hk)) (fun b z hl=>ht.block b hl (hD b z)) (fun _ z=>z),h.lps,aJ h.code ht.size (fun k hk=>ht.block k (World.ownsRow.lt h.code k hk).2 (hc k hk)),aJ h.names ht.size (fun k hk=>ht.block k (World.ownsRow.lt h.names k hk).2 (hn k hk)),h.nok,h.cbP,h.lvP,h.cvP,fun k hk=>by
  obtain ⟨cur,z⟩:=h.dty k hk;exact ⟨cur,(ht.block k (aA z) (hD k hk)).trans z⟩,iT h ht hS,h.low,fun k hk=>aN (h.lim k hk) ht.size,h.enm⟩
theorem CY.below (h:CY w0 P w cb m s lv cv nv D ps) (hb:Below w.heap.size w w'):CY w0 P w' cb m s lv cv nv D ps:=
 h.same (S:=fun _=>False) (Turns.of_below hb) (fun _ z=>z.elim) (fun _ _ z=>z) (fun _ _ z=>z) (fun _ _ z=>z) (fun _ _ z=>z) (hb.block _ (aA h.box))
theorem CY.keep (h:CY w0 P w cb m s lv cv nv D ps) (hP:∀k,P' k→P k∨((∃t cur fr,w.heap[k]? =some (.cells cur t fr)∧t≠53∧t≠44∧t≠42))) (hl:∀k,k<w0.heap.size→P' k):CY w0 P' w cb m s lv cv nv D ps:=by
 have key:∀{k:Nat} {a:TypeId} {x:Array Value} {f:Nat×Nat},w.heap[k]? =some (.cells x a f)→P' k→P k∨(a≠53∧a≠44∧a≠42):=fun h1 hk=>by
  rcases hP _ hk with z | ⟨t,cur,fr,h2,h3⟩
  ·exact .inl z
  ·rw [h1] at h2;simp at h2;exact .inr (h2.2.1▸h3)
 refine ⟨h.box,h.lits,h.lps,h.code,h.names,h.nok,fun z=>(key h.box z).elim h.cbP (fun y=>y.1 rfl),fun k hk=>⟨fun z=>?_,(h.lvP k hk).2⟩,fun k hk z=>?_,h.dty,h.stat,hl,fun k hk=>?_,h.enm⟩
 ·obtain ⟨cur,a⟩:=bN h.lits.own hk;exact (key a z).elim (h.lvP k hk).1 (fun y=>y.2.1 rfl)
 ·obtain ⟨cur,a⟩:=bN h.code hk;exact (key a z).elim (h.cvP k hk) (fun y=>y.2.2 rfl)
 ·rcases hP k hk with z | ⟨t,cur,fr,h2,_⟩
  ·exact h.lim k z
  ·exact aA h2
theorem CX.below (h:CX w0 P w cb m s) (hb:Below w.heap.size w w'):CX w0 P w' cb m s:=by
 obtain ⟨lv,cv,nv,D,ps,h,hf⟩:=h;exact ⟨lv,cv,nv,D,ps,h.below hb,hf⟩
theorem CX.keep (h:CX w0 P w cb m s) (hP:∀k,P' k→P k∨((∃t cur fr,w.heap[k]? =some (.cells cur t fr)∧t≠53∧t≠44∧t≠42))) (hl:∀k,k<w0.heap.size→P' k):CX w0 P' w cb m s:=by
 obtain ⟨lv,cv,nv,D,ps,h,hf⟩:=h;exact ⟨lv,cv,nv,D,ps,h.keep hP hl,hf⟩
theorem CT.below {ws:World} (h:CT w0 P ws w cb m s) (hb:Below w.heap.size w w'):CT w0 P ws w' cb m s:=⟨h.1.below hb,h.2.trans (Turns.of_below hb)⟩
theorem CT.go {ws:World} (h:CT w0 P ws w cb m s) (hc:CT w0 P w w' cb m s'):CT w0 P ws w' cb m s':=⟨hc.1,h.2.trans hc.2⟩
theorem CX.ct (h:CX w0 P w cb m s):CT w0 P w w cb m s:=⟨h,Turns.refl _ _⟩
theorem CX.stat (h:CX w0 P w cb m s):Below w0.heap.size w0 w:=by obtain ⟨lv,cv,nv,D,ps,h,_⟩:=h;exact h.stat
theorem CX.few (h:CX w0 P w cb m s):s.temps≤24∧s.names.length≤8+s.temps:=by obtain ⟨lv,cv,nv,D,ps,h,hf⟩:=h;exact hf
theorem CX.low (h:CX w0 P w cb m s):∀k,k<w0.heap.size→P k:=by obtain ⟨lv,cv,nv,D,ps,h,_⟩:=h;exact h.low
theorem CY.cell (h:CY w0 P w cb m s lv cv nv D ps) (k:Nat):w.cell? ⟨cb,k,none⟩=(fR m s lv cv nv)[k]? :=by simp [World.cell?,h.box]
theorem CY.free (h:CY w0 P w cb m s lv cv nv D ps) (k:Nat):w.frozen? ⟨cb,k,none⟩=false:=by simp [World.frozen?,h.box]
theorem CY.reset (h:CY w0 P w cb m s lv cv nv D ps) (ht:Turns (fun k=>k=cb) w w') (hbox:w'.heap[cb]? =some (.cells (fR m s' lv cv nv') 53 (0,0))) (hl:s'.lits=s.lits) (hc:s'.code=s.code) (hn:NmRow w nv' s'.names) (hok:sH s'.names) (he:s'.ename.size≤bL):CY w0 P w' cb m s' lv cv nv' D ps:=by
 obtain ⟨n1,n2,n3,n4⟩:=h.ne;have hcn:∀k,nv'.ownBlock=some k→k≠cb:=fun k hk e=>by
  obtain ⟨cur,a⟩:=bN hn hk;rw [e,h.box] at a;simp at a
 refine ⟨hbox,h.lits.same ht.size (fun k hk=>ht.block k (World.ownsRow.lt h.lits.own k hk).2 (n1 k hk).1) (fun b hb hl'=>ht.block b hl' (n4 b hb)) (fun _ z=>z),by rw [hl];exact h.lps,?_,aJ hn ht.size (fun k hk=>ht.block k (World.ownsRow.lt hn k hk).2 (hcn k hk)),hok,h.cbP,h.lvP,h.cvP,fun k hk=>?_,iT h ht (fun k e=>by rw [e];exact h.cbP),h.low,fun k hk=>aN (h.lim k hk) ht.size,he⟩
 ·rw [hc];exact aJ h.code ht.size (fun k hk=>ht.block k (World.ownsRow.lt h.code k hk).2 (n2 k hk).1)
 ·obtain ⟨cur,hc2⟩:=h.dty k hk;exact ⟨cur,(ht.block k (aA hc2) (n4 k hk)).trans hc2⟩
theorem CY.store (h:CY w0 P w cb m s lv cv nv D ps) (k:Nat) (v:Value) (hb:(fR m s lv cv nv).set! k v=fR m s' lv cv nv') (hl:s'.lits=s.lits) (hc:s'.code=s.code) (hn:NmRow w nv' s'.names) (hok:sH s'.names) (he:s'.ename.size≤bL):CY w0 P (w.setCell ⟨cb,k,none⟩ v) cb m s' lv cv nv' D ps:=by
 have ht:Turns (fun j=>j=cb) w (w.setCell ⟨cb,k,none⟩ v):=(Turns.refl _ _).setCell _ _ (.inl rfl);exact h.reset ht (by rw [heap_setCell_same w cb k _ _ _ h.box,←hb];rfl) hl hc hn hok he
theorem outOf (ht:Turns (fun k=>k=cb) w w') (h:¬P cb):Turns (cP P) w w':=ht.mono (fun k _ e=>by rw [e];exact h)
theorem CY.push (h:CY w0 P w cb m s lv cv nv D ps) (i:Ins) (hown:w'.ownsRow 0 42 3 cv' (s.code.length+1) (s.code.flatMap gF++gF i)) (hg:w.grownBy w' cv.ownBlock) (hat:cv'.ownBlock=cv.ownBlock∨cv'.ownBlock=some w.heap.size):
  w'.heap[cb]? =some (.cells (fR m s lv cv nv) 53 (0,0))∧CY w0 P (w'.setCell ⟨cb,5,none⟩ cv') cb m {s with code:=s.code++[i]} lv cv' nv D ps∧Turns (cP P) w (w'.setCell ⟨cb,5,none⟩ cv'):=by
 obtain ⟨n1,n2,n3,n4⟩:=h.ne;have ht:Turns (fun k=>cv.ownBlock=some k) w w':=⟨hg.os,hg.tape,hg.output,hg.size,fun k hk hs=>hg.block k hk (fun e=>hs e.symm)⟩;have hbx:w'.heap[cb]? =some (.cells (fR m s lv cv nv) 53 (0,0)):=(ht.block cb (aA h.box) (fun e=>(n2 cb e).1 rfl)).trans h.box;have ht2:Turns (fun k=>k=cb) w' (w'.setCell ⟨cb,5,none⟩ cv'):=(Turns.refl _ _).setCell _ _ (.inl rfl);have ht3:Turns (fun k=>cv.ownBlock=some k∨k=cb) w (w'.setCell ⟨cb,5,none⟩ cv'):=(ht.mono (fun _ _ z=>.inl z)).setCell _ _ (.inl (.inr rfl));have hS:∀k,(cv.ownBlock=some k∨k=cb)→¬P k:=fun k q=>q.elim (fun e=>h.cvP k e) (fun e=>by rw [e];exact h.cbP)
 have hcv':∀k,cv'.ownBlock=some k→¬P k∧k≠cb:=fun k hk=>by
  rcases hat with q | q
  ·rw [q] at hk;exact ⟨h.cvP k hk,(n2 k hk).1⟩
  ·rw [q] at hk
   cases hk
   exact ⟨fun z=>by have:=h.lim _ z;omega,by have:=aA h.box;omega⟩
 refine ⟨hbx,⟨?_,?_,h.lps,?_,?_,h.nok,h.cbP,h.lvP,fun k hk=>(hcv' k hk).1,fun k hk=>?_,iT h ht3 hS,h.low,fun k hk=>aN (h.lim k hk) ht3.size,h.enm⟩,ht3.mono (fun k _ q=>hS k q)⟩
 ·rw [heap_setCell_same w' cb 5 _ _ _ hbx];rfl
 ·exact h.lits.same ht3.size (fun k hk=>ht3.block k (World.ownsRow.lt h.lits.own k hk).2 (fun q=>q.elim (fun e=>(n1 k hk).2.1 e) (fun e=>(n1 k hk).1 e))) (fun b hb hl=>ht3.block b hl (fun q=>q.elim (fun e=>(n2 b e).2.1 hb) (fun e=>n4 b hb e))) (fun _ z=>z)
 ·have e:(s.code++[i]).flatMap gF=s.code.flatMap gF++gF i:=Y12
  show World.ownsRow _ 0 42 3 cv' (s.code++[i]).length ((s.code++[i]).flatMap gF)
  rw [e,List.length_append];exact aJ hown ht2.size (fun k hk=>ht2.block k (World.ownsRow.lt hown k hk).2 (hcv' k hk).2)
 ·exact aJ h.names ht3.size (fun k hk=>ht3.block k (World.ownsRow.lt h.names k hk).2 (fun q=>q.elim (fun e=>(n2 k e).2.2 hk) (fun e=>(n3 k hk).1 e)))
 ·obtain ⟨cur,hc⟩:=h.dty k hk;exact ⟨cur,(ht3.block k (aA hc) (fun q=>q.elim (fun e=>(n2 k e).2.1 hk) (fun e=>n4 k hk e))).trans hc⟩
theorem CY.relit {g n c:Nat} (h:CY w0 P w cb m s lv cv nv D ps) (p:LP) {Dl:Nat→Prop} (hp:IsLt w Dl p.1 p.2) (hD:∀k,Dl k→lv.ownBlock≠some k∧∃cur,w.heap[k]? =some (.cells cur 44 (0,0)))
  (ht:Turns (fun k=>lv.ownBlock=some k∨k=cb∨k=g) w w') (hg:lv.ownBlock=some g∨w.heap.size≤g) (hbox:w'.heap[cb]? =some (.cells (fR m s (.slice (some ⟨g,0,none⟩) n c) cv nv) 53 (0,0))) (hown:w'.ownsRow 0 44 4 (.slice (some ⟨g,0,none⟩) n c) (ps.length+1) (ps.flatMap lpC++lpC p)):
  CY w0 P w' cb m {s with lits:=s.lits++[p.1]} (.slice (some ⟨g,0,none⟩) n c) cv nv (fun k=>D k∨Dl k) (ps++[p])∧Turns (cP P) w w':=by
 obtain ⟨n1,n2,n3,n4⟩:=h.ne;have hcb:=aA h.box;have hgP:¬P g:=fun z=>hg.elim (fun e=>(h.lvP g e).1 z) (fun e=>by have:=h.lim _ z;omega)
 have hgc:g≠cb:=fun e=>hg.elim (fun y=>(n1 g y).1 e) (fun y=>by omega)
 have hS:∀k,(lv.ownBlock=some k∨k=cb∨k=g)→¬P k:=fun k q=>q.elim (fun e=>(h.lvP k e).1) (fun q=>q.elim (fun e=>by rw [e];exact h.cbP) (fun e=>by rw [e];exact hgP))
 have hDc:∀k,Dl k→k≠cb:=fun k hk e=>by
  obtain ⟨cur,hc⟩:=(hD k hk).2;rw [e,h.box] at hc;simp at hc
 have hty:∀k,D k∨Dl k→∃cur,w.heap[k]? =some (.cells cur 44 (0,0)):=fun k hk=>hk.elim (fun z=>h.dty k z) (fun z=>(hD k z).2)
 have hlt:∀k,D k∨Dl k→k<w.heap.size:=fun k hk=>by obtain ⟨_,z⟩:=hty k hk;exact aA z
 have hnl:∀k,D k∨Dl k→lv.ownBlock≠some k:=fun k hk e=>hk.elim (fun z=>(h.lvP k e).2 z) (fun z=>(hD k z).1 e)
 have hng:∀k,D k∨Dl k→k≠g:=fun k hk e=>hg.elim (fun y=>hnl k hk (e▸y)) (fun y=>by have:=hlt k hk;omega)
 have hnD:∀k,D k∨Dl k→¬(lv.ownBlock=some k∨k=cb∨k=g):=fun k hk q=>q.elim (hnl k hk) (fun q=>q.elim (fun e=>hk.elim (fun z=>n4 k z e) (fun z=>hDc k z e)) (hng k hk))
 have hcg:∀k,cv.ownBlock=some k→¬(lv.ownBlock=some k∨k=cb∨k=g):=fun k hk q=>q.elim (fun e=>(n1 k e).2.1 hk) (fun q=>q.elim (n2 k hk).1 (fun e=>hg.elim (fun y=>(n1 g y).2.1 (e▸hk)) (fun y=>by have:=(World.ownsRow.lt h.code k hk).2;omega)))
 have hmg:∀k,nv.ownBlock=some k→¬(lv.ownBlock=some k∨k=cb∨k=g):=fun k hk q=>q.elim (fun e=>(n1 k e).2.2 hk) (fun q=>q.elim (n3 k hk).1 (fun e=>hg.elim (fun y=>(n1 g y).2.2 (e▸hk)) (fun y=>by have:=(World.ownsRow.lt h.names k hk).2;omega)))
 refine ⟨⟨hbox,⟨?_,fun x hx=>?_⟩,?_,?_,?_,h.nok,h.cbP,fun k hk=>?_,h.cvP,fun k hk=>?_,iT h ht hS,h.low,fun k hk=>aN (h.lim k hk) ht.size,h.enm⟩,ht.mono (fun k _ q=>hS k q)⟩
 ·rw [show (ps++[p]).flatMap lpC=ps.flatMap lpC++lpC p by simp,List.length_append];exact hown
 ·rcases List.mem_append.1 hx with q | q
  ·exact (h.lits.lits x q).same ht.size (fun b hb hl=>ht.block b hl (hnD b (.inl hb))) (fun _ z=>.inl z)
  ·rw [List.mem_singleton.1 q];exact hp.same ht.size (fun b hb hl=>ht.block b hl (hnD b (.inr hb))) (fun _ z=>.inr z)
 ·show (ps++[p]).map Prod.fst=s.lits++[p.1]
  rw [List.map_append,h.lps];rfl
 ·exact aJ h.code ht.size (fun k hk=>ht.block k (World.ownsRow.lt h.code k hk).2 (hcg k hk))
 ·exact aJ h.names ht.size (fun k hk=>ht.block k (World.ownsRow.lt h.names k hk).2 (hmg k hk))
 ·cases hk
  exact ⟨hgP,fun z=>hng g z rfl⟩
 ·obtain ⟨cur,hc⟩:=hty k hk;exact ⟨cur,(ht.block k (aA hc) (hnD k hk)).trans hc⟩
end
end Go.Proofs.YtnojndgmgkgnpaaGreat.Rf
