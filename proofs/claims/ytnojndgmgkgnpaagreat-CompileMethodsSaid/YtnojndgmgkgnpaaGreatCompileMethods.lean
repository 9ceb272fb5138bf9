/- The law CompileMethods of chapter 10 holds for every input: it returns true, and its arguments stay. No conditions. -/
import Derived.Test.YtnojndgmgkgnpaaGreatRows
import Derived.Test.YtnojndgmgkgnpaaGreatK30
import Derived.WalkKit
import Derived.ProofKit
import Derived.OpenShut
import Derived.ShutString
import Derived.ChangeOld
import Derived.ChangeMaps5
import Derived.LoopN
import Derived.WalkMore
import Derived.Deep.DeepCutAuto
import Derived.Deep.CutRange
import Derived.Deep.RegionLaw
import Derived.Deep.RegionHeld3
import Derived.Laws.IdiomStrings
import Derived.Below
namespace Go.Proofs.YtnojndgmgkgnpaaGreat.compileMethods
open Go.ChangeShapes Go.WideShapes Go.ChangeAt Go.RowKit Go.Deep Go.Joins
set_option linter.unusedVariables false
set_option linter.unusedSimpArgs false
theorem own:ownKnob Tryz.prog.godebug=none:=by kernel_rfl
theorem laidOut:laidOutB Tryz.prog=true:=by kernel_rfl
set_option maxRecDepth 100000 in
set_option maxHeartbeats 40000000 in
theorem walk (w:World) (x0:NodT) (q0:NS) (n0:IsNd w (fun _=>True) x0 q0) (p1:Option Addr) (l1:List ByteArray) (c1:Nat) (b1:l1.length≤c1∧c1≤maxLen) (t1:Strs w (fun _=>True) p1 l1):
  Calls Tryz.prog 3 #[ndV x0 q0,.slice p1 l1.length c1] w fun e w'=>e= .returned (.bool true)∧Below w.heap.size w w':=by
 have HSM0:Hid (∀W,Below w.heap.size w W→Calls Tryz.prog 5 #[ndV x0 q0] W fun e w'=>∃b:Bool,e= .returned (.bool b)∧(b=true→x0.size≤80)∧Below W.heap.size W w'):=J (fun W hW=>zA n0 W hW)
 have HNN:=J n0
 have HT1:=J t1
 have HL1':Hid (l1.length≤9223372036854775807):=J (by have:=b1;unfold maxLen at this;omega)
 unfold ndV at HSM0 ⊢
 clear n0 t1 b1
 obtain ⟨ln,hln⟩:=aE l1.length
 rw [hln] at HL1' ⊢
 have HLN1:=J hln
 clear hln
 have hbw:Below w.heap.size w (w.alloc (.cells #[.int .i64 x0.kind,.string x0.text,.int .i64 x0.num,.slice q0.pn x0.names.length q0.cn,.slice q0.pt x0.temps.length q0.ct,.slice q0.pk x0.kids.length q0.ck] 25)):=ba
 have hbx:=heap_alloc_new w (.cells #[.int .i64 x0.kind,.string x0.text,.int .i64 x0.num,.slice q0.pn x0.names.length q0.cn,.slice q0.pt x0.temps.length q0.ct,.slice q0.pk x0.kids.length q0.ck] 25)
 go_enter Tryz.func3,Tryz.ntmps3
 go_upto_region 1 with fail
 obtain ⟨W,hWe⟩:∃W,w.alloc (.cells #[.int .i64 x0.kind,.string x0.text,.int .i64 x0.num,.slice q0.pn x0.names.length q0.cn,.slice q0.pt x0.temps.length q0.ct,.slice q0.pk x0.kids.length q0.ck] 25)=W:=⟨_,rfl⟩
 rw [hWe] at hbw hbx ⊢
 have HB0:=J hbw
 have HBX:=J hbx
 have HW:Hid (Below W.heap.size W W):=J (Below.refl _ _)
 have HSM:Hid (∀W',Below W.heap.size W W'→Calls Tryz.prog 5 #[.agg #[.int .i64 x0.kind,.string x0.text,.int .i64 x0.num,.slice q0.pn x0.names.length q0.cn,.slice q0.pt x0.temps.length q0.ct,.slice q0.pk x0.kids.length q0.ck]] W' fun e w'=>∃b:Bool,e= .returned (.bool b)∧(b=true→x0.size≤80)∧Below W'.heap.size W' w'):=J (fun W' h=>HSM0.out W' (HB0.out.trans (h.mono HB0.out.size)))
 obtain ⟨a0,a1,a2,a3,a4,a5⟩:=cc6 (hbx)
 clear hWe hbw hbx HSM0
 go_upto_region 2 with (first | (go_at_call 5;(with_reducible refine (HSM.out _ bel).mono ?_);rintro e w1 ⟨bb,rfl,hbb,hb1⟩;have hs9:=(bz W).trans (hb1.mono (bz W).size);have HWn:=J (HW.out.trans (hs9.mono HW.out.size));clear HW hs9 hb1;have HW:=HWn;clear HWn;have hx9:=(HW.out.block _ (aA HBX.out)).trans HBX.out;clear a0 a1 a2 a3 a4 a5;obtain ⟨a0,a1,a2,a3,a4,a5⟩:=cc6 (hx9);clear hx9;have HBB:=J hbb;clear hbb))
 cases bb with
 | false=>
  go_wp2_with (first | (go_at_call 6;(with_reducible refine (rH _).mono ?_);rintro e w9 ⟨rfl,hb9⟩;have hs9:=(bz w1).trans (hb9.mono (bz w1).size);have HWn:=J (HW.out.trans (hs9.mono HW.out.size));clear HW hs9 hb9;have HW:=HWn;clear HWn))
  go_ret
  exact ⟨rfl,HB0.out.trans (HW.out.mono HB0.out.size)⟩
 | true=>
  have HSZ:Hid (x0.size≤80):=J (HBB.out rfl)
  have HU:Hid (Below w.heap.size w w1):=J (HB0.out.trans (HW.out.mono HB0.out.size))
  have HFW:Hid (∀W',Below w1.heap.size w1 W'→Calls Tryz.prog 7 #[.slice p1 ln c1] W' fun e w'=>∃A m c',e= .returned (.slice A m c')∧(sH l1).length=m∧m≤c'∧c'≤maxLen∧Strs w' (fun b=>W'.heap.size≤b) A (sH l1)∧Below W'.heap.size W' w'):=J (fun W' h=>few_any (jC (jC HT1.out HU.out) h) HLN1.out HL1'.out)
  obtain ⟨⟨m,nm,fe⟩,hm⟩:=aE (eU x0.size x0 (sH l1) false)
  have HM:=J hm
  have HCL:Hid (m.code.length≤400∧m.lits.length≤60):=J (zD hm)
  clear hm
  go_upto_region 5 with (first | (go_at_call 7;(with_reducible refine (HFW.out _ bel).mono ?_);rintro e w2 ⟨A,n,c,rfl,hn,h1,h2,hst,hb2⟩;have hs9:=(bz w1).trans (hb2.mono (bz w1).size);have HWn:=J (HW.out.trans (hs9.mono HW.out.size));clear HW hs9 hb2;have HW:=HWn;clear HWn;have hx9:=(HW.out.block _ (aA HBX.out)).trans HBX.out;clear a0 a1 a2 a3 a4 a5;obtain ⟨a0,a1,a2,a3,a4,a5⟩:=cc6 (hx9);clear hx9;have HST:=J hst;have HLN:=J hn;have HLE:Hid (n≤9223372036854775807):=J (by unfold maxLen at h2;omega);clear hst hn h1 h2))
  have HMT:Hid (∀W',Below w2.heap.size w2 W'→Calls Tryz.prog 8 #[.agg #[.int .i64 x0.kind,.string x0.text,.int .i64 x0.num,.slice q0.pn x0.names.length q0.cn,.slice q0.pt x0.temps.length q0.ct,.slice q0.pk x0.kids.length q0.ck],.slice A n c] W' (MetP m nm fe W')):=J (fun W' h=>by
   have hb:Below w.heap.size w W':=(HB0.out.trans (HW.out.mono HB0.out.size)).trans (h.mono (HB0.out.trans (HW.out.mono HB0.out.size)).size)
   exact (pI (HNN.out.under hb) (jC HST.out h) HLN.out HLE.out (by have:=HSZ.out;omega)).mono (fun e w' h=>by rw [HM.out] at h;exact h.met))
  go_upto_region 6 with (first | (go_at_call 8;(with_reducible refine (HMT.out _ bel).mono ?_);rintro e w3 ⟨Al,nl,cl,Ac,nc,cc,D,ps,rfl,hl1,hl2,hl3,hl4,hl5,hl6,htd,hb3⟩;have hs9:=(bz w2).trans (hb3.mono (bz w2).size);have HB3:=J hs9;have HWn:=J (HW.out.trans (hs9.mono HW.out.size));clear HW hs9 hb3;have HW:=HWn;clear HWn;have hx9:=(HW.out.block _ (aA HBX.out)).trans HBX.out;clear a0 a1 a2 a3 a4 a5;obtain ⟨a0,a1,a2,a3,a4,a5⟩:=cc6 (hx9);clear hx9;have HL1:=J hl1;have HL2:=J hl2;have HTD:=J htd;clear hl1 hl2 hl3 hl4 hl5 hl6 htd))
  have hal:=(Below.refl w3.heap.size w3).alloc aR (.cells #[.string m.sel,.int .i64 (m.args:Int),.int .i64 (m.temps:Int),.int .i64 m.prim,.slice Al nl cl,.slice Ac nc cc] 32)
  have hbm:=heap_alloc_new w3 (.cells #[.string m.sel,.int .i64 (m.args:Int),.int .i64 (m.temps:Int),.int .i64 m.prim,.slice Al nl cl,.slice Ac nc cc] 32)
  obtain ⟨w3b,hwe⟩:∃z,w3.alloc (.cells #[.string m.sel,.int .i64 (m.args:Int),.int .i64 (m.temps:Int),.int .i64 m.prim,.slice Al nl cl,.slice Ac nc cc] 32)=z:=⟨_,rfl⟩
  rw [hwe] at hal hbm ⊢
  have HMA:=J hbm
  have HL3:=J hal
  have HWn:=J (HW.out.trans (hal.mono HW.out.size))
  clear HW hwe hal hbm
  have HW:=HWn
  clear HWn
  have hx9:=(HW.out.block _ (aA HBX.out)).trans HBX.out
  clear a0 a1 a2 a3 a4 a5
  obtain ⟨a0,a1,a2,a3,a4,a5⟩:=cc6 (hx9)
  clear hx9
  have HRD:Hid (∀W',Below w3b.heap.size w3b W'→Calls Tryz.prog 9 #[.agg #[.int .i64 x0.kind,.string x0.text,.int .i64 x0.num,.slice q0.pn x0.names.length q0.cn,.slice q0.pt x0.temps.length q0.ct,.slice q0.pk x0.kids.length q0.ck],.slice A n c,.bool false] W' (RetP m nl nc nm fe W')):=J (fun W' h=>by
   have hb:Below w.heap.size w W':=(HB0.out.trans (HW.out.mono HB0.out.size)).trans (h.mono (HB0.out.trans (HW.out.mono HB0.out.size)).size)
   have h3:Below w3.heap.size w3 W':=HL3.out.trans (h.mono HL3.out.size)
   exact (Rf.rread_any (HNN.out.under hb) (jC (jC HST.out HB3.out) h3) HLN.out HLE.out (by have:=HSZ.out;omega) false).mono (fun e w' h=>by rw [HM.out] at h;exact retP HL1.out HL2.out h))
  go_upto_region 7 with (first | (go_at_call 9;(with_reducible refine (HRD.out _ bel).mono ?_);rintro e w4 ⟨Bl,dl,Bc,dc,D',ps',rfl,hlr,hps,hcd,hb4⟩;have hs9:=(bz w3b).trans (hb4.mono (bz w3b).size);have HB4:=J hs9;have HWn:=J (HW.out.trans (hs9.mono HW.out.size));clear HW hs9 hb4;have HW:=HWn;clear HWn;have hx9:=(HW.out.block _ (aA HBX.out)).trans HBX.out;clear a0 a1 a2 a3 a4 a5;obtain ⟨a0,a1,a2,a3,a4,a5⟩:=cc6 (hx9);clear hx9;have HLR2:=J hlr;have HPS2:=J hps;have HCD2:=J hcd;clear hlr hps hcd))
  have hal:=(Below.refl w4.heap.size w4).alloc aR (.cells #[.string m.sel,.int .i64 (m.args:Int),.int .i64 (m.temps:Int),.int .i64 m.prim,.slice Bl nl dl,.slice Bc nc dc] 32)
  have hbm:=heap_alloc_new w4 (.cells #[.string m.sel,.int .i64 (m.args:Int),.int .i64 (m.temps:Int),.int .i64 m.prim,.slice Bl nl dl,.slice Bc nc dc] 32)
  obtain ⟨w4b,hwe⟩:∃z,w4.alloc (.cells #[.string m.sel,.int .i64 (m.args:Int),.int .i64 (m.temps:Int),.int .i64 m.prim,.slice Bl nl dl,.slice Bc nc dc] 32)=z:=⟨_,rfl⟩
  rw [hwe] at hal hbm ⊢
  have hma:=((HB4.out.trans (hal.mono HB4.out.size)).block _ (aA HMA.out)).trans HMA.out
  have HL4:=J hal
  have HWn:=J (HW.out.trans (hal.mono HW.out.size))
  clear HW hwe hal
  have HW:=HWn
  clear HWn
  obtain ⟨b0,b1,b2,b3,b4,b5⟩:=cc6 (hma)
  obtain ⟨d0,d1,d2,d3,d4,d5⟩:=cc6 (hbm)
  clear hma hbm a0 a1 a2 a3 a4 a5
  have HSA:Hid (∀W',Below w4b.heap.size w4b W'→Calls Tryz.prog 10 #[.agg #[.string m.sel,.int .i64 (m.args:Int),.int .i64 (m.temps:Int),.int .i64 m.prim,.slice Al nl cl,.slice Ac nc cc],.agg #[.string m.sel,.int .i64 (m.args:Int),.int .i64 (m.temps:Int),.int .i64 m.prim,.slice Bl nl dl,.slice Bc nc dc]] W' fun e w'=>e= .returned (.bool true)∧Below W'.heap.size W' w'):=J (fun W' h=>by
   have h4:Below w4.heap.size w4 W':=HL4.out.trans (h.mono HL4.out.size)
   have h3b:Below w3b.heap.size w3b W':=HB4.out.trans (h4.mono HB4.out.size)
   have hb:Below w3.heap.size w3 W':=HL3.out.trans (h3b.mono HL3.out.size)
   have ht:=HTD.out
   have hps:ps.map Prod.fst=m.lits:=ht.lps
   refine yZ (nK ht.lits hb) (nK HLR2.out h4) (by have:=congrArg List.length hps;rw [List.length_map] at this;exact this.trans HL1.out) (hps.trans HPS2.out.symm) (Tx.code_kept (ht.codeOf HL2.out) hb) (Tx.code_kept HCD2.out h4) (by have h8:=HCL.out.1;have h9:=HL2.out;omega) (by have h8:=HCL.out.2;have h9:=HL1.out;omega))
  go_wp2_with (first | (go_at_call 10;(with_reducible refine (HSA.out _ bel).mono ?_);rintro e w5 ⟨rfl,hb5⟩;have hs9:=(bz w4b).trans (hb5.mono (bz w4b).size);have HWn:=J (HW.out.trans (hs9.mono HW.out.size));clear HW hs9 hb5;have HW:=HWn;clear HWn) | (go_at_call 6;(with_reducible refine (rH _).mono ?_);rintro e w9 ⟨rfl,hb9⟩;have hs9:=(bz w5).trans (hb9.mono (bz w5).size);have HWn:=J (HW.out.trans (hs9.mono HW.out.size));clear HW hs9 hb9;have HW:=HWn;clear HWn))
  go_ret
  exact ⟨rfl,HB0.out.trans (HW.out.mono HB0.out.size)⟩
/-! ### the row's step -/
set_option maxRecDepth 100000 in
theorem lifted (os:Os) (started:os.Started) (H:Type) (enc:TypeId×Value→H):
  ReturnsInHanded {} Tryz.checked os 3 .any (Rows.compileMethodsSpec.pre6 enc Tryz.prog Tryz.f3 Rows.compileMethodsRow.domain false) (Rows.compileMethodsSpec.post enc Tryz.prog Tryz.f3 false true false false):=by
 refine returnsInHanded_of_change (C:=Tryz.checked) own started (by kernel_rfl) Tryz.func3
  (ChangeSpec.witness6 (enc:=enc) (C:=Tryz.checked) false ⟨#[],#[.agg #[.int .i64 0,.string ⟨#[]⟩,.int .i64 0,.slice none 0 0,.slice none 0 0,.slice none 0 0],.slice none 0 0],[]⟩ 8 (by kernel_rfl) (by kernel_rfl) (by kernel_rfl) (by kernel_rfl)) ?_
 intro W base args ds gs before hval0 hW hcnd _
 have hval:∀(j:Nat) t v,Tryz.f3.params[j]? =some t→args[j]? =some v→Value.okWide Tryz.prog W .any base t v:=hval0
 have hW':=hW
 obtain ⟨p,q,hA0,hV,rfl,hfz,hnd⟩:=hW
 have hA:DataW.TrodAll enc Tryz.prog W 0 (fun _=>true) true Tryz.f3.params.toList args.toList ds p:=hA0
 rw [Tryz.params3] at hA hval
 obtain ⟨v0,vs0,d0,ds0,p0,q0,hargs,rfl,rfl,h0,r0⟩:=trodAll_cons hA
 obtain ⟨v1,vs1,d1,ds1,p1,q1,rfl,rfl,rfl,h1,r1⟩:=trodAll_cons r0
 obtain ⟨rfl,rfl,rfl⟩:=trodAll_nil r1
 obtain rfl:args=#[v0,v1]:=by cases args;simp_all
 obtain ⟨rfl,rfl⟩:=trodVars_none hV
 have k0:=h0
 have lt0:∀x∈p0,x.block<W.heap.size:=by obtain ⟨m,hm⟩:=k0;exact DataW.trod_lt m _ _ _ hm
 obtain ⟨x0,y0,rfl,n0⟩:=zC (hval 0 25 v0 rfl rfl) h0
 have k1:=h1
 have lt1:∀x∈p1,x.block<W.heap.size:=by obtain ⟨m,hm⟩:=k1;exact DataW.trod_lt m _ _ _ hm
 obtain ⟨A1,c1,l1,rfl,bl1,bm1,t1⟩:=uL (hval 1 22 v1 rfl rfl) h1
 clear hA0 hval0
 refine (walk W _ _ n0 _ _ _ ⟨bl1,bm1⟩ t1).mono fun e W' ⟨he,bel⟩=>?_
 subst he
 exact ⟨_,rfl,_,_,_,[],_,[],hW',trodAll_mk1 (shut_bool Tryz.underlying4 _),(trodAll_cons_mk (Below.trod laidOut (by kernel_rfl) (of_decide_eq_true (by kernel_rfl)) k0 bel lt0) (trodAll_cons_mk (Below.trod laidOut (by kernel_rfl) (of_decide_eq_true (by kernel_rfl)) k1 bel lt1) trodAll_mk0)),rfl,bel.frame _,fun h=>by cases h⟩
theorem over:Rows.compileMethodsRow.holds Tryz.pinned (OpenSpec.ofChange Rows.compileMethodsSpec):=
 OpenClaim.holds_of_wide 3 Tryz.f3 rfl rfl rfl rfl rfl rfl rfl ⟨rfl,rfl,rfl,rfl,rfl⟩ rfl rfl rfl rfl rfl (by kernel_rfl) Tryz.func3 (by kernel_rfl)
  (of_decide_eq_true (by kernel_rfl)) (by unfold Func.isWrapper;first | (rw [if_pos (by decide+kernel)];kernel_rfl) | (rw [if_neg (by decide+kernel)];exact ⟨rfl,rfl⟩))
  (fun os started H enc _=>lifted os started H enc)
theorem proved : Rows.CompileMethodsSaid := over
end Go.Proofs.YtnojndgmgkgnpaaGreat.compileMethods
