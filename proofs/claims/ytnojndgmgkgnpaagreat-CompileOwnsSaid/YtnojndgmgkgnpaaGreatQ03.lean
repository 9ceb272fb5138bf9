/- Chapter 10: words and contracts for the law. -/
import Derived.Test.YtnojndgmgkgnpaaGreatQ02
set_option maxRecDepth 100000
set_option maxHeartbeats 40000000
set_option linter.unusedVariables false
set_option linter.unusedSimpArgs false
namespace Go.Proofs.YtnojndgmgkgnpaaGreat
open Go.ChangeShapes Go.WideShapes Go.ChangeAt Go.RowKit Go.Deep Go.Joins Go.Maps
def placeO (o:Option Nat) (s:CSt) (l:LitT):Nat×CSt:=match o with
 | some i=>(i,s)
 | none=>(s.lits.length,{s with lits:=s.lits++[l]})
theorem own4 {w:World} {g n c:Nat} {e:TypeId} {xs:List Value} {z0 z1 z2 z3:Value} (h:w.ownsRow 0 e 4 (.slice (some ⟨g,0,none⟩) (n+1) c) (n+1) (xs++[z0,z1,z2,z3])) (hx:xs.length=n*4) (x0 x1 x2 x3:Value):
  ((((w.setCell ⟨g,n*4,none⟩ x0).setCell ⟨g,n*4+1,none⟩ x1).setCell ⟨g,n*4+2,none⟩ x2).setCell ⟨g,n*4+3,none⟩ x3).ownsRow 0 e 4 (.slice (some ⟨g,0,none⟩) (n+1) c) (n+1) (xs++[x0,x1,x2,x3]):=by
 have h0:=cJ h x0 (j:=n*4) I;have h1:=cJ h0 x1 (j:=n*4+1) I;have h2:=cJ h1 x2 (j:=n*4+2) I;have h3:=cJ h2 x3 (j:=n*4+3) I;have e:((((xs++[z0,z1,z2,z3]).set (n*4) x0).set (n*4+1) x1).set (n*4+2) x2).set (n*4+3) x3=xs++[x0,x1,x2,x3]:=by
  rw [←hx,List.set_append_right _ _ aR,List.set_append_right _ _ I,List.set_append_right _ _ I,List.set_append_right _ _ I];simp
 rw [e] at h3;exact h3
theorem CY.fix {w0 w:World} {P:Nat→Prop} {cb:Nat} {m:MK} {s:CSt} {lv cv nv:Value} {D:Nat→Prop} {ps:List LP} {g c n:Nat} {p0 p:LP} {s2:CSt} (h:CY w0 P w cb m s (.slice (some ⟨g,0,none⟩) (n+1) c) cv nv D (ps++[p0])) (hn:ps.length=n) {Dl:Nat→Prop} (hp:IsLt w Dl p.1 p.2) (hD:∀k,Dl k→(k≠g∧w0.heap.size≤k)∧∃cur,w.heap[k]? =some (.cells cur 44 (0,0))) (hs2:s2={s with lits:=(ps++[p]).map Prod.fst}):
  CY w0 P ((((w.setCell ⟨g,n*4,none⟩ (.int .i64 p.1.kind_)).setCell ⟨g,n*4+1,none⟩ (.string p.1.text_)).setCell ⟨g,n*4+2,none⟩ (.int .i64 p.1.num_)).setCell ⟨g,n*4+3,none⟩ (.slice p.2.p p.1.kids_.length p.2.c)) cb m s2 (.slice (some ⟨g,0,none⟩) (n+1) c) cv nv (fun k=>D k∨Dl k) (ps++[p])∧
  Turns (cP P) w ((((w.setCell ⟨g,n*4,none⟩ (.int .i64 p.1.kind_)).setCell ⟨g,n*4+1,none⟩ (.string p.1.text_)).setCell ⟨g,n*4+2,none⟩ (.int .i64 p.1.num_)).setCell ⟨g,n*4+3,none⟩ (.slice p.2.p p.1.kids_.length p.2.c)):=by
 obtain ⟨W,hW⟩:∃W,((((w.setCell ⟨g,n*4,none⟩ (.int .i64 p.1.kind_)).setCell ⟨g,n*4+1,none⟩ (.string p.1.text_)).setCell ⟨g,n*4+2,none⟩ (.int .i64 p.1.num_)).setCell ⟨g,n*4+3,none⟩ (.slice p.2.p p.1.kids_.length p.2.c))=W:=⟨_,rfl⟩;have ht:Turns (fun k=>k=g) w W:=by
  rw [←hW];exact ((((Turns.refl (fun k=>k=g) w).setCell ⟨g,n*4,none⟩ _ (.inl rfl)).setCell ⟨g,n*4+1,none⟩ _ (.inl rfl)).setCell ⟨g,n*4+2,none⟩ _ (.inl rfl)).setCell ⟨g,n*4+3,none⟩ _ (.inl rfl)
 have hown:=h.lits.own;have hll:(ps++[p0]).length=n+1:=by rw [List.length_append,hn];rfl
 rw [hll,show (ps++[p0]).flatMap lpC=ps.flatMap lpC++lpC p0 by simp] at hown;have hn4:=own4 hown (by rw [gT kC,hn]) (.int .i64 p.1.kind_) (.string p.1.text_) (.int .i64 p.1.num_) (.slice p.2.p p.1.kids_.length p.2.c);rw [hW] at hn4 ⊢;obtain ⟨n1,n2⟩:=h.ne;have hgl:=h.lvP g rfl;have hgc:=n1 g rfl;have hnD:∀k,D k∨Dl k→¬k=g:=fun k hk e=>hk.elim (fun z=>hgl.2 (e▸z)) (fun z=>(hD k z).1.1 e)
 obtain ⟨curg,hcg⟩:=bN h.lits.own (v:=.slice (some ⟨g,0,none⟩) (n+1) c) rfl;refine ⟨⟨?_,⟨?_,fun x hx=>?_⟩,?_,?_,?_,?_,h.cbP,fun k hk=>?_,h.cvP,fun k hk=>?_,fun k hk=>?_,?_,h.low,fun k hk=>aN (h.lim k hk) ht.size,?_,fun k hk=>hk.elim (h.dge k) (fun z=>(hD k z).1.2)⟩,?_⟩
 ·subst hs2;exact (ht.block cb (aA h.box) (fun e=>hgc.1 e.symm)).trans h.box
 ·rw [List.length_append,hn,show (ps++[p]).flatMap lpC=ps.flatMap lpC++lpC p by simp];exact hn4
 ·rcases List.mem_append.1 hx with q | q
  ·exact (h.lits.lits x (List.mem_append_left _ q)).same ht.size (fun b hb hl=>ht.block b hl (hnD b (.inl hb))) (fun _ z=>.inl z)
  ·rw [List.mem_singleton.1 q];exact hp.same ht.size (fun b hb hl=>ht.block b hl (hnD b (.inr hb))) (fun _ z=>.inr z)
 ·subst hs2;rfl
 ·subst hs2;exact aJ h.code ht.size (fun k hk=>ht.block k (World.ownsRow.lt h.code k hk).2 (fun e=>hgc.2 (e▸hk)))
 ·subst hs2;refine h.names.same ht.size (fun k hk=>ht.block k (h.names.lt hk) (fun e=>?_)) (fun _ _ z=>z);obtain ⟨cur,hc⟩:=h.names.type hk;rw [e,hcg] at hc;simp at hc
 ·subst hs2;exact h.nok
 ·cases hk
  exact ⟨hgl.1,fun z=>hnD g z rfl⟩
 ·rcases hk with z | z
  ·exact ⟨aN (h.dlt k z).1 ht.size,(h.dlt k z).2⟩
  ·obtain ⟨cur,hc⟩:=(hD k z).2;exact ⟨aN (aA hc) ht.size,fun e=>by rw [e,h.box] at hc;simp at hc⟩
 ·have:∃cur,w.heap[k]? =some (.cells cur 44 (0,0)):=hk.elim (fun z=>h.dty k z) (fun z=>(hD k z).2);obtain ⟨cur,hc⟩:=this;exact ⟨cur,(ht.block k (aA hc) (hnD k hk)).trans hc⟩
 ·refine h.stat.trans (ht.below (fun k q=>?_) h.stat.size)
  rcases Nat.lt_or_ge k w0.heap.size with z | z
  ·exact absurd (q▸h.low k z) hgl.1
  ·exact z
 ·subst hs2;exact h.enm
 ·exact ht.mono (fun k _ q=>by rw [q];exact hgl.1)
theorem step_lit {ops:Array Oper} {o:Oper} {a:Act} {K:Act→World→Prop} {Q:Exit→Act→World→Prop} {E:Prop} (hgd:o.guard=none) (sl x:Operand)
  (hop:o.op= .call {callee:=.builtin .append,args:=#[sl,x],argTypes:=#[29,29]}) {w0 w:World} {P:Nat→Prop} {cb:Nat} {m:MK} {s:CSt} {lv cv nv:Value} {D:Nat→Prop} {ps:List LP} (h:CY w0 P w cb m s lv cv nv D ps) (hs:a.eval sl=lv) {G:Nat} (hx:a.eval x= .slice (some ⟨G,0,none⟩) 1 1) (p:LP)
  {Dl:Nat→Prop} (hp:IsLt w Dl p.1 p.2) (hD:∀k,Dl k→(lv.ownBlock≠some k∧w0.heap.size≤k)∧∃cur,w.heap[k]? =some (.cells cur 44 (0,0))) (hG:w.heap[G]? =some (.cells #[.int .i64 p.1.kind_,.string p.1.text_,.int .i64 p.1.num_,.slice p.2.p p.1.kids_.length p.2.c] 44 (0,0))) (hle:ps.length≤100000)
  (hK:∀lv' w',Litted w0 P w w' cb m s lv cv nv D ps lv' Dl p→K (a.put o.dst lv') w'):if Region.wanted o (yielded ops a.tmps)=true then Oper.wp Tryz.prog o a w K Q else E:=by
 obtain ⟨i0,hi,hz0,hz1,hz2⟩:=cQ wI;have hone:∀u∈lpC p,u.oneCell'=true:=fun u hu=>by
  unfold lpC ltC at hu;simp only [List.mem_cons,List.not_mem_nil,or_false] at hu
  rcases hu with rfl | rfl | rfl | rfl <;> rfl
 rw [if_pos Y92];obtain ⟨v',w',hr,h2,h3,_,h5⟩:=run_append_own_at (P:=Tryz.prog) w 0 29 o.type 44 i0 (.agg #[.int .i64 0,.string eB,.int .i64 0,.slice none 0 0]) 4 56 Tryz.underlying29 hi hz0 hz1 hz2 rfl Y3 lv ps.length _ h.lits.own ⟨G,0,none⟩ 1 1 (lpC p) rfl (cY hG) hone Y24 I (Nat.zero_le _);unfold Oper.wp execOp;simp only [hop,resolve,invoke,builtin,Sem.run_bind,Sem.run_pure,Result.andThen_ok,List.map_toArray,List.map_cons,List.map_nil,hs,hx,hr];exact hK _ _ (h.litted p hp hD h2 h3 h5)
theorem iB {w0 w:World} {P:Nat→Prop} {cb:Nat} {m:MK} {s:CSt} {lv cv nv:Value} {D:Nat→Prop} {ps:List LP} (h:CY w0 P w cb m s lv cv nv D ps) {l:LitT} {q:LS} {Dl:Nat→Prop} (hl:IsLt w Dl l q) (hD:∀k,Dl k→(lv.ownBlock≠some k∧w0.heap.size≤k)∧∃cur,w.heap[k]? =some (.cells cur 44 (0,0))) (hle:s.lits.length≤100000):
  Calls Tryz.prog 77 #[.pointer (some ⟨cb,0,none⟩),ltV l q] w fun e w'=>e= .returned (.int .i64 ((bS s l).1:Int))∧(∃lv' D' ps',CY w0 P w' cb m (bS s l).2 lv' cv nv D' ps')∧Turns (cP P) w w':=by
 obtain ⟨A,c,hlv,hcl,hcm⟩:=aX h.lits.own;subst hlv;obtain ⟨n,hn⟩:=aE ps.length;have HN:=J hn;have hln:s.lits.length=n:=by rw [←h.lps,List.length_map,hn]
 have HLN:=J hln;have h':CY w0 P w cb m s (.slice A n c) cv nv D ps:=by rw [←hn];exact h
 have hD':∀k,Dl k→((Value.slice A n c).ownBlock≠some k∧w0.heap.size≤k)∧∃cur,w.heap[k]? =some (.cells cur 44 (0,0)):=by rw [←hn];exact hD
 have HY:=J h';have HD:=J hD';have HLR:Hid (LitRow w D (.slice A n c) ps):=J h'.lits;have HIL:=J hl;have k4:w.cell? ⟨cb,4,none⟩=some (.slice A n c):=by rw [h'.cell];rfl
 have hcb:=aA h'.box;have HWB:Hid (Below w.heap.size w (w.alloc (.cells #[.int .i64 l.kind_,.string l.text_,.int .i64 l.num_,.slice q.p l.kids_.length q.c] 44))):=J (ba);have HBX:Hid ((w.alloc (.cells #[.int .i64 l.kind_,.string l.text_,.int .i64 l.num_,.slice q.p l.kids_.length q.c] 44)).heap[w.heap.size]? =some (.cells #[.int .i64 l.kind_,.string l.text_,.int .i64 l.num_,.slice q.p l.kids_.length q.c] 44 (0,0))):=J (heap_alloc_new w _);obtain ⟨o,ho⟩:=aE ((ps.map Prod.fst).findIdx? (fun k=>eA k l));have HO:=J ho;have hpl:bS s l=placeO o s l:=by rw [←ho,h.lps];rfl
 rw [hln] at hle;clear h h' hD hD' hl hn hln ho hcl hcm;unfold ltV
 cases o with
 | some i=>
  have HP:Hid (bS s l=(i,s)):=J hpl;clear hpl;go_enter Tryz.func77,Tryz.ntmps77;go_wp2_with (first | (go_at_call 92;(with_reducible refine (oW (HLR.out.same HWB.out.size (fun k hk=>HWB.out.block k (World.ownsRow.lt HLR.out.own k hk).2) (fun b _ hb=>HWB.out.block b hb) (fun _ z=>z)) HN.out I HBX.out (HIL.out.under HWB.out)).mono ?_);rw [HO.out];rintro e w1 ⟨rfl,hb1⟩;unfold rN;have HB1:=J (HWB.out.trans (hb1.mono HWB.out.size));have hbx1:=(hb1.block w.heap.size Y12).trans HBX.out;have HBX1:=J hbx1;have q0:w1.cell? ⟨w.heap.size,0,none⟩=some (.int .i64 l.kind_):=Y62;have q1:w1.cell? ⟨w.heap.size,1,none⟩=some (.string l.text_):=Y62;have q2:w1.cell? ⟨w.heap.size,2,none⟩=some (.int .i64 l.num_):=Y62;have q3:w1.cell? ⟨w.heap.size,3,none⟩=some (.slice q.p l.kids_.length q.c):=Y62;have k4':w1.cell? ⟨cb,4,none⟩=some (.slice A n c):=(HB1.out.cell (p:=⟨cb,4,none⟩) hcb).trans k4;clear hb1 hbx1));go_ret;rw [HP.out];exact ⟨rfl,⟨_,D,ps,HY.out.below HB1.out (fun _ z=>z) (fun _ z=>.inl z)⟩,Turns.of_below HB1.out⟩
 | none=>
  have HP:Hid (bS s l=(n,{s with lits:=s.lits++[l]})):=J (by rw [hpl,←HLN.out];rfl);clear hpl;go_enter Tryz.func77,Tryz.ntmps77
  go_upto_region 4 with (first | (go_at_call 92;(with_reducible refine (oW (HLR.out.same HWB.out.size (fun k hk=>HWB.out.block k (World.ownsRow.lt HLR.out.own k hk).2) (fun b _ hb=>HWB.out.block b hb) (fun _ z=>z)) HN.out I HBX.out (HIL.out.under HWB.out)).mono ?_);rw [HO.out];rintro e w1 ⟨rfl,hb1⟩;unfold rN;have HB1:=J (HWB.out.trans (hb1.mono HWB.out.size));have hbx1:=(hb1.block w.heap.size Y12).trans HBX.out;have HBX1:=J hbx1;have q0:w1.cell? ⟨w.heap.size,0,none⟩=some (.int .i64 l.kind_):=Y62;have q1:w1.cell? ⟨w.heap.size,1,none⟩=some (.string l.text_):=Y62;have q2:w1.cell? ⟨w.heap.size,2,none⟩=some (.int .i64 l.num_):=Y62;have q3:w1.cell? ⟨w.heap.size,3,none⟩=some (.slice q.p l.kids_.length q.c):=Y62;have k4':w1.cell? ⟨cb,4,none⟩=some (.slice A n c):=(HB1.out.cell (p:=⟨cb,4,none⟩) hcb).trans k4;clear hb1 hbx1))
  go_cut [22] (fun v wx=>∃tb:Bool,v= .bool tb∧Below w1.heap.size w1 wx)
  case first=>
   go_region
   all_goals
    go_wp2_with fail;go_meet;exact ⟨_,rfl,bel⟩
  case rest=>
   obtain ⟨tb,rfl,hbc⟩:=hcut;have hB:=HB1.out.trans (hbc.mono HB1.out.size);have HBC:=J hB;have hy2:=HY.out.below hB (fun _ z=>z) (fun _ z=>.inl z);have HY2:=J hy2;have f4:=hy2.free 4;have x4:wc.cell? ⟨cb,4,none⟩=some (.slice A n c):=by rw [hy2.cell];rfl
   have hbx2:=(hbc.block w.heap.size (aA HBX1.out)).trans HBX1.out;have x0:wc.cell? ⟨w.heap.size,0,none⟩=some (.int .i64 l.kind_):=Y144;have x1:wc.cell? ⟨w.heap.size,1,none⟩=some (.string l.text_):=Y144;have x2:wc.cell? ⟨w.heap.size,2,none⟩=some (.int .i64 l.num_):=Y144;have x3:wc.cell? ⟨w.heap.size,3,none⟩=some (.slice q.p l.kids_.length q.c):=Y144;have HBX2:=J hbx2;have HI2:=J (HIL.out.under hB);have HD2:Hid (∀k,Dl k→((Value.slice A n c).ownBlock≠some k∧w0.heap.size≤k)∧∃cur,wc.heap[k]? =some (.cells cur 44 (0,0))):=J (fun k hk=>⟨(HD.out k hk).1,by
    obtain ⟨cur,hc⟩:=(HD.out k hk).2;exact ⟨cur,(hB.block k (aA hc)).trans hc⟩⟩)
   clear q0 q1 q2 q3 k4 k4' hbx2 hy2 hB hbc
   cases tb with
   | false=>
    go_upto_region 7 with fail
    have HYA:Hid (CY w0 P (wc.drew.alloc (.cells #[.int .i64 l.kind_,.string l.text_,.int .i64 l.num_,.slice q.p l.kids_.length q.c] 44)) cb m s (.slice A n c) cv nv D ps):=J (HY2.out.below ((Below.drew (Below.refl _ _)).alloc aR _) (fun _ z=>z) (fun _ z=>.inl z));have hba:Below wc.heap.size wc (wc.drew.alloc (.cells #[.int .i64 l.kind_,.string l.text_,.int .i64 l.num_,.slice q.p l.kids_.length q.c] 44)):=(Below.drew (Below.refl _ _)).alloc aR _;have HIA:=J (HI2.out.under hba);have HDA:Hid (∀k,Dl k→((Value.slice A n c).ownBlock≠some k∧w0.heap.size≤k)∧∃cur,(wc.drew.alloc (.cells #[.int .i64 l.kind_,.string l.text_,.int .i64 l.num_,.slice q.p l.kids_.length q.c] 44)).heap[k]? =some (.cells cur 44 (0,0))):=J (fun k hk=>⟨(HD2.out k hk).1,by
     obtain ⟨cur,hc⟩:=(HD2.out k hk).2;exact ⟨cur,(hba.block k (aA hc)).trans hc⟩⟩)
    have HGA:Hid ((wc.drew.alloc (.cells #[.int .i64 l.kind_,.string l.text_,.int .i64 l.num_,.slice q.p l.kids_.length q.c] 44)).heap[wc.heap.size]? =some (.cells #[.int .i64 l.kind_,.string l.text_,.int .i64 l.num_,.slice q.p l.kids_.length q.c] 44 (0,0))):=J (heap_alloc_new wc.drew _);have HBA:=J hba;clear hba;have x4a:(wc.alloc (.cells #[.int .i64 l.kind_,.string l.text_,.int .i64 l.num_,.slice q.p l.kids_.length q.c] 44)).cell? ⟨cb,4,none⟩=some (.slice A n c):=Lib.cell?_alloc_marked _ x4
    go_region_law (first | (refine step_lit rfl _ _ rfl HYA.out Y10 (G:=wc.heap.size) Y10 (l,q) HIA.out HDA.out HGA.out (by have:=HN.out;omega) ?_;intro lv5 w5 hna;have HNA:=J hna;obtain ⟨g5,c5,hlv5,_⟩:=hna.sl;rw [HN.out] at hlv5;subst hlv5;have s4:w5.cell? ⟨cb,4,none⟩=some (.slice A n c):=Y98;have sf4:w5.frozen? ⟨cb,4,none⟩=false:=Y101;clear hna))
    all_goals
     go_wp2_with fail;go_ret;rw [HP.out];exact ⟨rfl,⟨_,_,_,HNA.out.cy⟩,((Turns.of_below HBC.out).trans (Turns.of_below HBA.out)).trans HNA.out.ts⟩
   | true=>
    obtain ⟨i0,hi,hz0,hz1,hz2⟩:=cQ wI;have hba:Below wc.heap.size wc (wc.alloc (.cells #[.int .i64 0,.string eB,.int .i64 0,.slice none 0 0] 44)):=ba;have HYA:Hid (CY w0 P (wc.alloc (.cells #[.int .i64 0,.string eB,.int .i64 0,.slice none 0 0] 44)) cb m s (.slice A n c) cv nv D ps):=J (HY2.out.below hba (fun _ z=>z) (fun _ z=>.inl z));have HOA:Hid ((wc.alloc (.cells #[.int .i64 0,.string eB,.int .i64 0,.slice none 0 0] 44)).ownsRow 0 44 4 (.slice A n c) n (ps.flatMap lpC)):=J (by rw [←HN.out];have:=HYA.out.lits.own;rw [HN.out] at this ⊢;exact this);have HGA:Hid ((wc.alloc (.cells #[.int .i64 0,.string eB,.int .i64 0,.slice none 0 0] 44)).heap[wc.heap.size]? =some (.cells #[.int .i64 0,.string eB,.int .i64 0,.slice none 0 0] 44 (0,0))):=J (heap_alloc_new wc _);have HBA:=J hba;have hwl:w.heap.size<wc.heap.size:=by
     have h1:=jZ x0;exact h1
    clear hba;have hfbW:Hid (∃fr,wc.heap[w.heap.size]? =some (.cells #[.int .i64 l.kind_,.string l.text_,.int .i64 l.num_,.slice q.p l.kids_.length q.c] 44 fr)):=J ⟨(0,0),HBX2.out⟩
    go_upto_region 6 with (first | (at_builtin;refine wpList_append_own_at _ rfl _ _ 29 rfl 0 44 i0 (.agg #[.int .i64 0,.string eB,.int .i64 0,.slice none 0 0]) 4 56 Tryz.underlying29 hi hz0 hz1 hz2 rfl Y3 _ _ _ rfl HOA.out ⟨wc.heap.size,0,none⟩ 1 1 [.int .i64 0,.string eB,.int .i64 0,.slice none 0 0] rfl rfl (cY HGA.out) Y89 Y24 I (Nat.zero_le _) ?_;intro v5 w5 hown hg _ hat;have hna:=HYA.out.litted (w':=w5) (lv':=v5) (LitT.node 0 eB 0 [],⟨none,0⟩) (Dl:=fun _=>False) (IsLt.leaf _ _ ⟨by decide,by decide⟩ ⟨by decide,by decide⟩ (Nat.zero_le _)) (fun k z=>z.elim) (by rw [HN.out];exact hown) hg hat;obtain ⟨g5,c5,hv5,hg5⟩:=hna.sl;rw [HN.out] at hv5;subst hv5;have hgf:g5≠w.heap.size:=(by rcases hat with z | z;exact (fun e=>by have h8:=(World.ownsRow.lt HLR.out.own g5 z.symm).2;omega);exact (fun e=>by have h9:g5=(wc.alloc (.cells #[.int .i64 0,.string eB,.int .i64 0,.slice none 0 0] 44)).heap.size:=Option.some.inj z;rw [World.size_alloc] at h9;omega));have s4:w5.cell? ⟨cb,4,none⟩=some (.slice A n c):=Y98;have sf4:w5.frozen? ⟨cb,4,none⟩=false:=Y101;have HAT:Hid ((Value.slice A n c).ownBlock=some g5∨g5=(wc.alloc (.cells #[.int .i64 0,.string eB,.int .i64 0,.slice none 0 0] 44)).heap.size):=J (hat.imp (fun z=>z.symm) (fun z=>Option.some.inj z));have HNA:=J hna;obtain ⟨W6,hW6⟩:∃W6,W6=w5.setCell ⟨cb,4,none⟩ (.slice (some ⟨g5,0,none⟩) (n+1) c5):=⟨_,rfl⟩;have HW6:=J hW6;have HG5:=J hg;clear hna hown hg hat hW6))
    rw [←HW6.out];have hcy:=HNA.out.cy;rw [←HW6.out] at hcy;obtain ⟨cur6,hh6⟩:=bN hcy.lits.own (v:=.slice (some ⟨g5,0,none⟩) (n+1) c5) rfl;have own6:=hcy.lits.own;have hll:(ps++[((LitT.node 0 eB 0 [],⟨none,0⟩):LP)]).length=n+1:=by rw [List.length_append,HN.out];rfl
    rw [hll] at own6;have hcl6:∀j,j<4→W6.cell? ⟨g5,n*4+j,none⟩=(lpC ((LitT.node 0 eB 0 [],⟨none,0⟩):LP))[j]? :=fun j hj=>by
     rw [World.ownsRow.cellAt own6 (n*4+j) I,eY kC _ n j (by rw [hll];omega) hj]
     congr 1
     rw [List.getElem_append_right (by rw [HN.out];omega)];simp
    have z0:W6.cell? ⟨g5,n*4,none⟩=some (.int .i64 0):=hcl6 0 I;have z1:W6.cell? ⟨g5,n*4+1,none⟩=some (.string eB):=hcl6 1 I;have z2:W6.cell? ⟨g5,n*4+2,none⟩=some (.int .i64 0):=hcl6 2 I;have z3:W6.cell? ⟨g5,n*4+3,none⟩=some (.slice none 0 0):=hcl6 3 I;have fz:∀j,W6.frozen? ⟨g5,j,none⟩=false:=fun j=>by simp [World.frozen?,hh6]
    have fz0:=fz (n*4);have fz1:=fz (n*4+1);have fz2:=fz (n*4+2);have fz3:=fz (n*4+3);have hb6:W6.heap[w.heap.size]? =some (.cells #[.int .i64 l.kind_,.string l.text_,.int .i64 l.num_,.slice q.p l.kids_.length q.c] 44 (0,0)):=by
     rw [HW6.out,Below.heap_setCell _ _ _ _ (fun e=>by simp at e;omega)];refine (HG5.out.block w.heap.size Y4 (fun e=>?_)).trans ((HBA.out.block w.heap.size hwl).trans HBX2.out);have h8:=(World.ownsRow.lt HLR.out.own w.heap.size e.symm).2;omega
    have y0:W6.cell? ⟨w.heap.size,0,none⟩=some (.int .i64 l.kind_):=Y151;have y1:W6.cell? ⟨w.heap.size,1,none⟩=some (.string l.text_):=Y151;have y2:W6.cell? ⟨w.heap.size,2,none⟩=some (.int .i64 l.num_):=Y151;have y3:W6.cell? ⟨w.heap.size,3,none⟩=some (.slice q.p l.kids_.length q.c):=Y151;have hT6:Turns (cP P) (wc.alloc (.cells #[.int .i64 0,.string eB,.int .i64 0,.slice none 0 0] 44)) W6:=by have:=HNA.out.ts;rw [←HW6.out] at this;exact this
    have hDcb:∀b,Dl b→b≠cb:=fun b hb e=>by
     obtain ⟨cur,hc⟩:=(HD2.out b hb).2;rw [e,HY2.out.box] at hc;simp at hc
    have hDk:∀b,Dl b→b<(wc.alloc (.cells #[.int .i64 0,.string eB,.int .i64 0,.slice none 0 0] 44)).heap.size→W6.heap[b]? =(wc.alloc (.cells #[.int .i64 0,.string eB,.int .i64 0,.slice none 0 0] 44)).heap[b]? :=fun b hb hl=>by
     rw [HW6.out,Below.heap_setCell _ _ _ _ (hDcb b hb)];exact HG5.out.block b hl (fun e=>(HD2.out b hb).1.1 e.symm)
    have hDl:∀b,Dl b→b<wc.heap.size:=fun b hb=>aA (HD2.out b hb).2.choose_spec
    have HD6:Hid (∀k,Dl k→(k≠g5∧w0.heap.size≤k)∧∃cur,W6.heap[k]? =some (.cells cur 44 (0,0))):=J (fun k hk=>⟨⟨fun e=>by
     rcases HAT.out with z | z
     ·exact (HD2.out k hk).1.1 (by rw [z,e])
     ·have:=hDl k hk;rw [e,z,World.size_alloc] at this;omega,(HD2.out k hk).1.2⟩,by
     obtain ⟨cur,hc⟩:=(HD2.out k hk).2;exact ⟨cur,(hDk k hk (by rw [World.size_alloc];have:=hDl k hk;omega)).trans ((HBA.out.block k (hDl k hk)).trans hc)⟩⟩)
    have hI6:IsLt W6 Dl l q:=(HI2.out.under HBA.out).same hT6.size hDk (fun _ z=>z);have HCY:=J hcy;have HT6:=J hT6;have HI6:=J hI6;have g0:(0:Int)≤(n:Int):=I;have g1:(n:Int)<(n:Int)+1:=I;clear hcy own6 hh6 hcl6 fz hb6 hT6 hI6 hll hDcb hDk hDl;go_wp2_with fail;go_ret;rw [HP.out];have hfx:=CY.fix (lv:=.slice none 0 0) (p:=(l,q)) (s2:={s with lits:=s.lits++[l]}) HCY.out HN.out HI6.out HD6.out (by rw [List.map_append,HY.out.lps];rfl);exact ⟨rfl,⟨_,_,_,hfx.1⟩,(((Turns.of_below HBC.out).trans (Turns.of_below HBA.out)).trans HT6.out).trans hfx.2⟩
theorem eG (s:CSt) (l:LitT):(bS s l).2.names=s.names∧(bS s l).2.temps=s.temps∧(bS s l).2.code=s.code∧(bS s l).2.err=s.err∧(bS s l).2.ename=s.ename∧(bS s l).2.lits.length≤s.lits.length+1∧(bS s l).1≤s.lits.length:=by
 unfold bS
 cases h:s.lits.findIdx? (fun k=>eA k l) with
 | some i=>
  rw [List.findIdx?_eq_some_iff_getElem] at h;exact ⟨rfl,rfl,rfl,rfl,rfl,Nat.le_succ _,Nat.le_of_lt h.1⟩
 | none=>exact ⟨rfl,rfl,rfl,rfl,rfl,by simp,Nat.le_refl _⟩
theorem mH {w0 w:World} {P:Nat→Prop} {cb:Nat} {m:MK} {s:CSt} (h:CX w0 P w cb m s) (t:ByteArray) (ht:t.size≤bL) (hle:s.lits.length≤100000):Calls Tryz.prog 96 #[.pointer (some ⟨cb,0,none⟩),.string t] w fun e w'=>e= .returned (.int .i64 ((fO s t).1:Int))∧CT w0 P w w' cb m (fO s t).2:=by
 obtain ⟨lv,cv,nv,D,ps,hy,hfw⟩:=h;have hli:=iB hy (l:=.node 3 t 0 []) (q:=⟨none,0⟩) (Dl:=fun _=>False) (IsLt.leaf _ _ ⟨by decide,by decide⟩ ⟨by decide,by decide⟩ ht) (fun k z=>z.elim) hle;have hk:=eG s (.node 3 t 0 []);have HK:=J hk;have HL:=J hli;have HFW:=J hfw
 show Calls Tryz.prog 96 #[.pointer (some ⟨cb,0,none⟩),.string t] w fun e w'=>e= .returned (.int .i64 ((bS s (.node 3 t 0 [])).1:Int))∧CT w0 P w w' cb m (bS s (.node 3 t 0 [])).2
 unfold ltV at HL;simp only [LitT.kind_,LitT.text_,LitT.num_,LitT.kids_,List.length_nil] at HL;clear hli hy hfw hk;go_enter Tryz.func96,Tryz.ntmps96;go_wp2_with (go_at_call 77;(with_reducible refine HL.out.mono ?_);rintro e w3 ⟨rfl,hcy,htu⟩;have HC:=J (And.intro hcy htu);clear hcy htu);go_ret;obtain ⟨⟨lv',D',ps',hc⟩,htu⟩:=HC.out;exact ⟨rfl,⟨lv',cv,nv,D',ps',hc,by rw [HK.out.2.1,HK.out.1];exact HFW.out⟩,htu⟩
theorem iP {w0 ws w1 w:World} {P:Nat→Prop} {cb:Nat} {m:MK} {s:CSt} (h:CT w0 P ws w1 cb m s) (hb:Below w1.heap.size w1 w) (t:ByteArray) (ht:t.size≤bL) (hle:s.lits.length≤100000):Calls Tryz.prog 96 #[.pointer (some ⟨cb,0,none⟩),.string t] w fun e w'=>e= .returned (.int .i64 ((fO s t).1:Int))∧CT w0 P ws w' cb m ((fO s t).2):=by
 have h2:=h.below hb;refine (mH h2.1 t ht hle).mono ?_;rintro e w' ⟨he,hc⟩;exact ⟨he,h2.go hc⟩
theorem xK (a:Int):(BitVec.ofInt 64 a).toNat=(a % 18446744073709551616).toNat:=by rw [BitVec.toNat_ofInt];rfl
theorem and_nat (a:Int) (m:Nat) (hm:m<9223372036854775808):bits .and .i64 a (m:Int)=(((a % 18446744073709551616).toNat &&& m:Nat):Int):=by
 have h2:(BitVec.ofInt 64 (m:Int)).toNat=m:=by
  rw [BitVec.ofInt_natCast,BitVec.toNat_ofNat];exact Nat.mod_eq_of_lt I
 show IntKind.i64.wrap ((BitVec.ofInt 64 a &&& BitVec.ofInt 64 (m:Int)).toNat:Int)=_
 have hx:(a % 18446744073709551616).toNat &&& m≤m:=Nat.and_le_right;rw [BitVec.toNat_and,xK,h2,IntWalk.i64_in _ ⟨by omega,by omega⟩]
theorem and_255 (a:Int):bits .and .i64 a 255=a % 256:=by
 have h:=and_nat a 255 I;have e:(a % 18446744073709551616).toNat &&& 255=(a % 18446744073709551616).toNat % 256:=Nat.and_two_pow_sub_one_eq_mod _ 8;rw [e] at h;rw [show (255:Int)=((255:Nat):Int) from rfl,h];omega
theorem set3:∀(l:List Ins) (a:Nat) (i:Ins),a<l.length→(l.set a i).flatMap gF=(((l.flatMap gF).set (a*3) (.int .i64 i.op)).set (a*3+1) (.int .i64 i.a)).set (a*3+2) (.int .i64 i.b)
 | [],a,i,h=>absurd h Y12
 | x :: l,0,i,h=>rfl
 | x :: l,a+1,i,h=>by
  have ih:=set3 l a i Y123;rw [List.set_cons_succ,List.flatMap_cons,ih,List.flatMap_cons];have e:(gF x).length=3:=rfl;rw [List.set_append_right _ _ (by rw [e];omega),List.set_append_right _ _ (by rw [e];omega),List.set_append_right _ _ (by rw [e];omega),e];rw [show (a+1)*3-3=a*3 by omega,show (a+1)*3+1-3=a*3+1 by omega,show (a+1)*3+2-3=a*3+2 by omega]
theorem CY.put {w0 w:World} {P:Nat→Prop} {cb:Nat} {m:MK} {s:CSt} {lv cv nv:Value} {D:Nat→Prop} {ps:List LP} {g n c a:Nat} {w':World} (h:CY w0 P w cb m s lv (.slice (some ⟨g,0,none⟩) n c) nv D ps) (hn:s.code.length=n) (ha:a<n) (i:Ins) (hw:w'=(((w.setCell ⟨g,a*3,none⟩ (.int .i64 i.op)).setCell ⟨g,a*3+1,none⟩ (.int .i64 i.a)).setCell ⟨g,a*3+2,none⟩ (.int .i64 i.b))):
  CY w0 P w' cb m {s with code:=s.code.set a i} lv (.slice (some ⟨g,0,none⟩) n c) nv D ps∧Turns (cP P) w w':=by
 have ht:Turns (fun k=>k=g) w w':=by
  rw [hw];exact (((Turns.refl (fun k=>k=g) w).setCell ⟨g,a*3,none⟩ _ (.inl rfl)).setCell ⟨g,a*3+1,none⟩ _ (.inl rfl)).setCell ⟨g,a*3+2,none⟩ _ (.inl rfl)
 have hown:=h.code;rw [hn] at hown;have h1:=cJ hown (.int .i64 i.op) (j:=a*3) I;have h2:=cJ h1 (.int .i64 i.a) (j:=a*3+1) I;have h3:=cJ h2 (.int .i64 i.b) (j:=a*3+2) I;rw [←set3 s.code a i I,←hw] at h3;obtain ⟨n1,n2⟩:=h.ne;have hgP:=h.cvP g rfl;have hg:=n2 g rfl;obtain ⟨curg,hcg⟩:=bN h.code (v:=.slice (some ⟨g,0,none⟩) n c) rfl;refine ⟨⟨(ht.block cb (aA h.box) (fun e=>hg.1 e.symm)).trans h.box,h.lits.same ht.size (fun k hk=>ht.block k (World.ownsRow.lt h.lits.own k hk).2 (fun e=>(n1 k hk).2 Y1)) (fun b hb hl=>ht.block b hl (fun e=>hg.2 (e▸hb))) (fun _ z=>z),h.lps,?_,?_,h.nok,h.cbP,h.lvP,h.cvP,fun k hk=>⟨aN (h.dlt k hk).1 ht.size,(h.dlt k hk).2⟩,fun k hk=>?_,?_,h.low,fun k hk=>aN (h.lim k hk) ht.size,h.enm,h.dge⟩,ht.mono (fun k _ e=>by rw [e];exact hgP)⟩
 ·show World.ownsRow _ 0 42 3 _ (s.code.set a i).length _
  rw [List.length_set,hn];exact h3
 ·refine h.names.same ht.size (fun k hk=>ht.block k (h.names.lt hk) (fun e=>?_)) (fun _ _ z=>z);obtain ⟨cur,hc⟩:=h.names.type hk;rw [e,hcg] at hc;simp at hc
 ·obtain ⟨cur,hc⟩:=h.dty k hk;exact ⟨cur,(ht.block k (aA hc) (fun e=>hg.2 (e▸hk))).trans hc⟩
 ·refine h.stat.trans (ht.below (fun k q=>?_) h.stat.size)
  rcases Nat.lt_or_ge k w0.heap.size with z | z
  ·exact absurd (q▸h.low k z) hgP
  ·exact z
theorem to_any {w0 w:World} {P:Nat→Prop} {cb:Nat} {m:MK} {s:CSt} (h:CX w0 P w cb m s) (a:Nat) (ha:a<s.code.length) (op:Int) (t:Nat) (ht:t≤1000000) (hf:s.code.length≤1000000):Calls Tryz.prog 103 #[.pointer (some ⟨cb,0,none⟩),.int .i64 (a:Int),.int .i64 op,.int .i64 (t:Int)] w fun e w'=>e= .returned (.tuple #[])∧CT w0 P w w' cb m (toP s a op t):=by
 obtain ⟨lv,cv,nv,D,ps,hy,hfw⟩:=h;obtain ⟨n,hn⟩:=aE s.code.length;have HN:=J hn;obtain ⟨g,c,hcv⟩:∃g c,cv= .slice (some ⟨g,0,none⟩) n c:=by
  rcases hy.code.2 with ⟨_,h0⟩ | ⟨g,cap,cur,hv,_⟩
  ·omega
  ·exact ⟨g,cap,by rw [hv,hn]⟩
 subst hcv;have own:=hy.code;rw [hn] at own ha hf;have hcl:∀j,j<3→w.cell? ⟨g,a*3+j,none⟩=(gF s.code[a])[j]? :=fun j hj=>by
  rw [World.ownsRow.cellAt own (a*3+j) I];exact eY jQ s.code a j I hj
 have z0:w.cell? ⟨g,a*3,none⟩=some (.int .i64 s.code[a].op):=hcl 0 I;have z1:w.cell? ⟨g,a*3+1,none⟩=some (.int .i64 s.code[a].a):=hcl 1 I;have z2:w.cell? ⟨g,a*3+2,none⟩=some (.int .i64 s.code[a].b):=hcl 2 I;obtain ⟨curg,hcg⟩:=bN own (v:=.slice (some ⟨g,0,none⟩) n c) rfl;have f0:w.frozen? ⟨g,a*3,none⟩=false:=Y119;have f1:w.frozen? ⟨g,a*3+1,none⟩=false:=Y119;have f2:w.frozen? ⟨g,a*3+2,none⟩=false:=Y119;have k5:w.cell? ⟨cb,5,none⟩=some (.slice (some ⟨g,0,none⟩) n c):=Y15;have hand:=and_255 (t:Int);have g0:(0:Int)≤(a:Int):=I;have g1:(a:Int)<(n:Int):=I;have HY:=J hy;have HFW:=J hfw;obtain ⟨y0,hy0⟩:=aE (s.code[a].op);obtain ⟨y1,hy1⟩:=aE (s.code[a].a);obtain ⟨y2,hy2⟩:=aE (s.code[a].b);rw [hy0] at z0;rw [hy1] at z1;rw [hy2] at z2;clear hy hfw own hcl hcg hn hy0 hy1 hy2;go_enter Tryz.func103,Tryz.ntmps103;go_wp2_with fail;go_returns;have hp:=CY.put (cv:=.slice none 0 0) HY.out HN.out ha ⟨op,((t % 256:Nat):Int),((t / 256:Nat):Int)⟩ rfl;simp only [Int.natCast_emod,Int.natCast_ediv] at hp;exact ⟨rfl,⟨_,_,_,_,_,hp.1,HFW.out⟩,hp.2⟩
theorem to_at {w0 ws w1 w:World} {P:Nat→Prop} {cb:Nat} {m:MK} {s:CSt} (h:CT w0 P ws w1 cb m s) (hb:Below w1.heap.size w1 w) (a:Nat) (ha:a<s.code.length) (op:Int) (t:Nat) (ht:t≤1000000) (hf:s.code.length≤1000000):Calls Tryz.prog 103 #[.pointer (some ⟨cb,0,none⟩),.int .i64 (a:Int),.int .i64 op,.int .i64 (t:Int)] w fun e w'=>e= .returned (.tuple #[])∧CT w0 P ws w' cb m (toP s a op t):=by
 have h2:=h.below hb;refine (to_any h2.1 a ha op t ht hf).mono ?_;rintro e w' ⟨he,hc⟩;exact ⟨he,h2.go hc⟩
theorem Z15 {P:Prop} (h:P:=by
 go_enter Tryz.func113,Tryz.ntmps113;go_wp2_with fail;go_ret;exact ⟨aY Y49,bel⟩):P:=h
theorem fZ {x:NodT} {q:NS} (hok:NdOk x q) (w:World):Calls Tryz.prog 113 #[ndV x q] w fun e w'=>e= .returned (.bool (bU x))∧Below w.heap.size w w':=by
 obtain ⟨k,t,nm,ns,ts,ks⟩:=x;obtain ⟨hki,hnu,htx,hnl,htl,hkl⟩:=hok;simp only [NodT.kind,NodT.text,NodT.num,NodT.kids,NodT.names,NodT.temps] at hki hnu htx hnl htl hkl;unfold ndV;simp only [NodT.kind,NodT.text,NodT.num,NodT.kids,NodT.names,NodT.temps];obtain ⟨nn,hnn⟩:=aE ns.length;obtain ⟨nk,hnk⟩:=aE ks.length;rw [hnn] at hnl;rw [hnk] at hkl;have hnl2:nn≤9223372036854775807:=Y136;have hkl2:nk≤9223372036854775807:=Y137;have HV:Hid (bU (.node k t nm ns ts ks)=(decide (k=9) && decide (nn=0))):=J (by rw [←hnn];rfl);rw [HV.out];rw [hnn,hnk]
 by_cases e1:k=9
 ·subst e1
  by_cases e2:nn=0
  ·have d2:(nn==0)=true:=Y148;have d3:((nn:Int)==0)=true:=Y4;exact Z15
  ·have d2:(nn==0)=false:=Y148;have d3:((nn:Int)==0)=false:=Y4;exact Z15
 ·have d1:(k==9)=false:=Y29;exact Z15
theorem Z16 {P:Prop} (h:P:=by
 go_enter Tryz.func114,Tryz.ntmps114;go_wp2_with fail;go_ret;exact ⟨aY Y49,bel⟩):P:=h
theorem xL {x:NodT} {q:NS} (hok:NdOk x q) (w:World):Calls Tryz.prog 114 #[ndV x q] w fun e w'=>e= .returned (.bool (mB x))∧Below w.heap.size w w':=by
 obtain ⟨k,t,nm,ns,ts,ks⟩:=x;obtain ⟨hki,hnu,htx,hnl,htl,hkl⟩:=hok;simp only [NodT.kind,NodT.text,NodT.num,NodT.kids,NodT.names,NodT.temps] at hki hnu htx hnl htl hkl;unfold ndV;simp only [NodT.kind,NodT.text,NodT.num,NodT.kids,NodT.names,NodT.temps];obtain ⟨nn,hnn⟩:=aE ns.length;obtain ⟨nk,hnk⟩:=aE ks.length;rw [hnn] at hnl;rw [hnk] at hkl;have hnl2:nn≤9223372036854775807:=Y136;have hkl2:nk≤9223372036854775807:=Y137;have HV:Hid (mB (.node k t nm ns ts ks)=(decide (k=5) && (t.toList==[115,117,112,101,114]))):=J rfl;rw [HV.out];rw [hnn,hnk]
 by_cases e1:k=5
 ·subst e1
  cases e2:t.toList==[115,117,112,101,114] with
  | true=>
   exact Z16
  | false=>
   exact Z16
 ·have d1:(k==5)=false:=Y29;exact Z16
def oX (x:NodT) (s:CSt):CSt:=if x.kids.length=1 then s else aG s eB 1
theorem rO {w0 w:World} {P:Nat→Prop} {cb:Nat} {m:MK} {s:CSt} (h:CX w0 P w cb m s) {x:NodT} {q:NS} (hok:NdOk x q):Calls Tryz.prog 85 #[.pointer (some ⟨cb,0,none⟩),ndV x q] w fun e w'=>e= .returned (.bool (x.kids.length==1))∧CT w0 P w w' cb m (oX x s):=by
 obtain ⟨k,t,nm,ns,ts,ks⟩:=x;obtain ⟨hki,hnu,htx,hnl,htl,hkl⟩:=hok;simp only [NodT.kind,NodT.text,NodT.num,NodT.kids,NodT.names,NodT.temps] at hki hnu htx hnl htl hkl;unfold ndV;simp only [NodT.kind,NodT.text,NodT.num,NodT.kids,NodT.names,NodT.temps];obtain ⟨nn,hnn⟩:=aE ns.length;obtain ⟨nk,hnk⟩:=aE ks.length;rw [hnn] at hnl;rw [hnk] at hkl;have hnl2:nn≤9223372036854775807:=Y136;have hkl2:nk≤9223372036854775807:=Y137;have HV:Hid (oX (.node k t nm ns ts ks) s=if nk=1 then s else aG s eB 1):=J (by rw [←hnk];rfl);rw [HV.out,hnk]
 by_cases e1:nk=1
 ·rw [if_pos e1];have d1:(nk==1)=true:=Y29;have d2:((nk:Int)==1)=true:=Y4;go_enter Tryz.func85,Tryz.ntmps85;go_wp2_with fail;go_ret;exact ⟨aY Y49,h.ct.below bel⟩
 ·rw [if_neg e1];have d1:(nk==1)=false:=Y29;have d2:((nk:Int)==1)=false:=Y4;have hb:Below w.heap.size w (w.alloc (.cells #[.int .i64 k,.string t,.int .i64 nm,.slice q.pn nn q.cn,.slice q.pt ts.length q.ct,.slice q.pk nk q.ck] 25)):=ba;have HB:=J hb;have HK:=J (h.keep hb);have HBX:Hid ((w.alloc (.cells #[.int .i64 k,.string t,.int .i64 nm,.slice q.pn nn q.cn,.slice q.pt ts.length q.ct,.slice q.pk nk q.ck] 25)).heap[w.heap.size]? =some (.cells #[.int .i64 k,.string t,.int .i64 nm,.slice q.pn nn q.cn,.slice q.pt ts.length q.ct,.slice q.pk nk q.ck] 25 (0,0))):=J (heap_alloc_new w _);have HH:=J h;clear h hb;go_enter Tryz.func85,Tryz.ntmps85;go_wp2_with (first | (go_at_call 76;(with_reducible refine (eP HK.out ⟨#[]⟩ (Nat.zero_le _) 1).mono ?_);rintro e w3 ⟨rfl,hx3⟩;have HX3:=J hx3;have hb5:=(hx3.2.block w.heap.size Y12 (fun z=>z (.inr ⟨Nat.le_refl _,by simp⟩))).trans HBX.out;have k5:w3.cell? ⟨w.heap.size,5,none⟩=some (.slice q.pk nk q.ck):=(by simp [World.cell?,hb5]);clear hx3 hb5));go_ret;exact ⟨aY Y49,HH.out.ct.back HB.out HX3.out (fun k z=>.inl z)⟩
structure Clo (w:World) (kb cb a:Nat) (op:Int):Prop where
 b0:w.heap[kb]? =some (.cells #[.pointer (some ⟨cb,0,none⟩)] 77 (0,0))
 b1:w.heap[kb+1]? =some (.cells #[.int .i64 op] 3 (0,0))
 b2:w.heap[kb+2]? =some (.cells #[.int .i64 (a:Int)] 3 (0,0))
def sK (kb:Nat):Value:=.func (.func 102) #[] #[.pointer (some ⟨kb,0,none⟩),.pointer (some ⟨kb+2,0,none⟩),.pointer (some ⟨kb+1,0,none⟩)]
def cloS (kb:Nat) (k:Nat):Prop:=kb≤k∧k≤kb+2
theorem Clo.turns {w w':World} {kb cb a:Nat} {op:Int} {S:Nat→Prop} (h:Clo w kb cb a op) (ht:Turns S w w') (hS:∀k,cloS kb k→¬S k):Clo w' kb cb a op:=
 ⟨(ht.block _ (aA h.b0) (hS _ ⟨by omega,by omega⟩)).trans h.b0,(ht.block _ (aA h.b1) (hS _ ⟨by omega,by omega⟩)).trans h.b1,(ht.block _ (aA h.b2) (hS _ ⟨by omega,by omega⟩)).trans h.b2⟩
theorem xM {w0 w:World} {P:Nat→Prop} {cb:Nat} {m:MK} {s:CSt} (h:CX w0 P w cb m s) (op:Int) (hf:s.code.length≤1000000):Calls Tryz.prog 83 #[.pointer (some ⟨cb,0,none⟩),.int .i64 op] w fun e w'=>e= .returned (sK w.heap.size)∧w.heap.size+2<w'.heap.size∧Clo w' w.heap.size cb s.code.length op∧CX w0 (fun k=>P k∨cloS w.heap.size k) w' cb m (aB s op 0 0)∧Turns (cP P) w w':=by
 obtain ⟨n,hn⟩:=aE s.code.length;have HN:=J hn;have hb:Below w.heap.size w (((w.alloc (.cells #[.pointer (some ⟨cb,0,none⟩)] 77)).alloc (.cells #[.int .i64 op] 3)).alloc (.cells #[.int .i64 (s.code.length:Int)] 3)):=bel;have hk:=h.keep hb;have HB:=J hb;have HK:=J hk;have HH:=J h;have HCL:Hid (Clo (((w.alloc (.cells #[.pointer (some ⟨cb,0,none⟩)] 77)).alloc (.cells #[.int .i64 op] 3)).alloc (.cells #[.int .i64 (s.code.length:Int)] 3)) w.heap.size cb s.code.length op):=J (by
  refine ⟨?_,?_,?_⟩
  ·exact (ba |>.block _ Y50).trans ((ba |>.block _ Y50).trans (heap_alloc_new w _))
  ·have h2:=heap_alloc_new (w.alloc (.cells #[.pointer (some ⟨cb,0,none⟩)] 77)) (.cells #[.int .i64 op] 3);rw [World.size_alloc] at h2;exact (ba |>.block _ Y50).trans h2
  ·have h2:=heap_alloc_new ((w.alloc (.cells #[.pointer (some ⟨cb,0,none⟩)] 77)).alloc (.cells #[.int .i64 op] 3)) (.cells #[.int .i64 (s.code.length:Int)] 3);simp only [World.size_alloc] at h2;exact h2)
 have HF:=J hf;clear h hb hk hf hn;go_enter Tryz.func83,Tryz.ntmps83;go_wp2_with (first | (go_at_call 101;(with_reducible refine (oU (HH.out.below bel)).mono ?_);rintro e w2 ⟨rfl,hw2⟩;replace hw2:=hw2.symm;subst hw2) | (go_at_call 56;(with_reducible refine (iA HK.out op 0 0 HF.out).mono ?_);rintro e w3 ⟨rfl,HX3⟩;replace HX3:=J HX3));go_ret;have hs:=HX3.out.2.size;simp only [World.size_alloc] at hs;refine ⟨rfl,by omega,HCL.out.turns HX3.out.2 (fun k hk z=>z (.inr ⟨hk.1,?_⟩)),HX3.out.1.less (fun k hk=>?_) (fun k hk=>.inl (HH.out.low k hk)),(Turns.of_below HB.out).trans (HX3.out.2.mono (fun k _ z q=>z (.inl q)))⟩
 ·have:=hk.2;simp only [World.size_alloc];omega
 ·rcases hk with q | q
  ·exact .inl q
  ·exact .inr ⟨q.1,by have:=q.2;simp only [World.size_alloc];omega⟩
theorem xN {w0 w:World} {P:Nat→Prop} {cb:Nat} {m:MK} {s:CSt} (h:CX w0 P w cb m s) {kb a:Nat} {op:Int} (hc:Clo w kb cb a op) (hS:∀k,cloS kb k→P k) (ha:a<s.code.length) (hf:s.code.length≤1000000):Calls Tryz.prog 102 #[.pointer (some ⟨kb,0,none⟩),.pointer (some ⟨kb+2,0,none⟩),.pointer (some ⟨kb+1,0,none⟩)] w fun e w'=>e= .returned (.tuple #[])∧CT w0 P w w' cb m (toP s a op s.code.length):=by
 obtain ⟨n,hn⟩:=aE s.code.length;have HN:=J hn;have c0:w.cell? ⟨kb,0,none⟩=some (.pointer (some ⟨cb,0,none⟩)):=by simp [World.cell?,hc.b0]
 have c1:w.cell? ⟨kb+1,0,none⟩=some (.int .i64 op):=by simp [World.cell?,hc.b1]
 have c2:w.cell? ⟨kb+2,0,none⟩=some (.int .i64 (a:Int)):=by simp [World.cell?,hc.b2]
 have HH:=J h;have HC:=J hc;have HS:=J hS;have HA:=J ha;rw [hn] at hf ⊢;have HF:Hid (s.code.length≤1000000):=J I;clear h hc hS ha hn;go_enter Tryz.func102,Tryz.ntmps102
 go_region_held3 (fun w'=>w'.cell? ⟨kb,0,none⟩=some (.pointer (some ⟨cb,0,none⟩))∧w'.cell? ⟨kb+1,0,none⟩=some (.int .i64 op)∧w'.cell? ⟨kb+2,0,none⟩=some (.int .i64 (a:Int))) (first | assumption | (simp [go_sem];done) | (simp [go_sem, *];done)) (first | (go_at_call 101;(with_reducible refine (oU (HH.out.below bel)).mono ?_);rw [HN.out];rintro e w2 ⟨rfl,hw2⟩;replace hw2:=hw2.symm;subst hw2) | (go_at_call 103;(with_reducible refine (to_at HH.out.ct bel a HA.out op n I HF.out).mono ?_);rintro e w3 ⟨rfl,hx3⟩;have hc3:=(HC.out.turns (Turns.of_below (bz w)) (fun k hk z=>z)).turns hx3.2 (fun k hk z=>z (HS.out k hk));have HX3:=J hx3;clear hx3;have c0:w3.cell? ⟨kb,0,none⟩=some (.pointer (some ⟨cb,0,none⟩)):=(by simp [World.cell?,hc3.b0]);have c1:w3.cell? ⟨kb+1,0,none⟩=some (.int .i64 op):=(by simp [World.cell?,hc3.b1]);have c2:w3.cell? ⟨kb+2,0,none⟩=some (.int .i64 (a:Int)):=(by simp [World.cell?,hc3.b2])))
 all_goals
  go_returns;exact ⟨rfl,HX3.out⟩
theorem aW {l r:List UInt8} (h:(l==r)=false):¬l=r:=by intro e;rw [e,beq_self_eq_true] at h;cases h
def rP (s:CSt) (n:ByteArray):CSt:=match cE s.names n with
 | some k=>if k.kind=1 then aB s 8 k.at_ 0 else aB s 7 k.at_ 0
 | none=>if fA n then aB (fO s n).2 9 (fO s n).1 0 else aG s n 15
theorem nQ (s:CSt) (n:ByteArray) (x:Int):(aG s n x).code=s.code:=by unfold aG;split <;> rfl
theorem nR (s:CSt) (n:ByteArray) (x:Int):(aG s n x).lits=s.lits:=by unfold aG;split <;> rfl
theorem uM (s:CSt) (l:LitT):(bS s l).2.code=s.code:=by unfold bS;split <;> rfl
theorem mX (s:CSt) (t:ByteArray):(fO s t).2.code=s.code:=uM s _
theorem kD {w0 w:World} {P:Nat→Prop} {cb:Nat} {m:MK} {s:CSt} (h:CX w0 P w cb m s) (n:ByteArray) (hn:n.size≤bL) (hf:s.code.length≤1000000) (hl:s.lits.length≤100000):Calls Tryz.prog 79 #[.pointer (some ⟨cb,0,none⟩),.string n] w fun e w'=>e= .returned (.tuple #[])∧CT w0 P w w' cb m (gG s n):=by
 have HH:=J h;have HN:=J hn;have HF0:=J hf;have HL0:=J hl;clear h hn hf hl
 cases q0:n.toList==[115,101,108,102] with
 | true=>
  rw [show gG s n=aB s 1 0 0 from by unfold gG;rw [if_pos (show n.toList=eE from beq_iff_eq.1 q0)]];go_enter Tryz.func79,Tryz.ntmps79;go_wp2_with (first | (go_at_call 56;(with_reducible refine (iA HH.out 1 0 0 HF0.out).mono ?_);rintro e w7 ⟨rfl,HY⟩;replace HY:=J HY));go_returns;exact ⟨rfl,HY.out⟩
 | false=>
  cases q1:n.toList==[110,105,108] with
  | true=>
   rw [show gG s n=aB s 2 0 0 from by unfold gG;rw [if_neg (show ¬n.toList=eE from aW q0)];rw [if_pos (show n.toList=gS from beq_iff_eq.1 q1)]];go_enter Tryz.func79,Tryz.ntmps79;go_wp2_with (first | (go_at_call 56;(with_reducible refine (iA HH.out 2 0 0 HF0.out).mono ?_);rintro e w7 ⟨rfl,HY⟩;replace HY:=J HY));go_returns;exact ⟨rfl,HY.out⟩
  | false=>
   cases q2:n.toList==[116,114,117,101] with
   | true=>
    rw [show gG s n=aB s 3 0 0 from by unfold gG;rw [if_neg (show ¬n.toList=eE from aW q0)];rw [if_neg (show ¬n.toList=gS from aW q1)];rw [if_pos (show n.toList=eZ from beq_iff_eq.1 q2)]];go_enter Tryz.func79,Tryz.ntmps79;go_wp2_with (first | (go_at_call 56;(with_reducible refine (iA HH.out 3 0 0 HF0.out).mono ?_);rintro e w7 ⟨rfl,HY⟩;replace HY:=J HY));go_returns;exact ⟨rfl,HY.out⟩
   | false=>
    cases q3:n.toList==[102,97,108,115,101] with
    | true=>
     rw [show gG s n=aB s 4 0 0 from by unfold gG;rw [if_neg (show ¬n.toList=eE from aW q0)];rw [if_neg (show ¬n.toList=gS from aW q1)];rw [if_neg (show ¬n.toList=eZ from aW q2)];rw [if_pos (show n.toList=dU from beq_iff_eq.1 q3)]];go_enter Tryz.func79,Tryz.ntmps79;go_wp2_with (first | (go_at_call 56;(with_reducible refine (iA HH.out 4 0 0 HF0.out).mono ?_);rintro e w7 ⟨rfl,HY⟩;replace HY:=J HY));go_returns;exact ⟨rfl,HY.out⟩
    | false=>
     cases q4:n.toList==[116,104,105,115,67,111,110,116,101,120,116] with
     | true=>
      rw [show gG s n=aB s 5 0 0 from by unfold gG;rw [if_neg (show ¬n.toList=eE from aW q0)];rw [if_neg (show ¬n.toList=gS from aW q1)];rw [if_neg (show ¬n.toList=eZ from aW q2)];rw [if_neg (show ¬n.toList=dU from aW q3)];rw [if_pos (show n.toList=cL from beq_iff_eq.1 q4)]];go_enter Tryz.func79,Tryz.ntmps79;go_wp2_with (first | (go_at_call 56;(with_reducible refine (iA HH.out 5 0 0 HF0.out).mono ?_);rintro e w7 ⟨rfl,HY⟩;replace HY:=J HY));go_returns;exact ⟨rfl,HY.out⟩
     | false=>
      rw [show gG s n=rP (if n.toList=cG then aG s n 15 else s) n from by unfold gG;rw [if_neg (show ¬n.toList=eE from aW q0)];rw [if_neg (show ¬n.toList=gS from aW q1)];rw [if_neg (show ¬n.toList=eZ from aW q2)];rw [if_neg (show ¬n.toList=dU from aW q3)];rw [if_neg (show ¬n.toList=cL from aW q4)];rfl]
      cases q5:n.toList==[115,117,112,101,114] with
      | true=>
       rw [if_pos (show n.toList=cG from beq_iff_eq.1 q5)];have HF:Hid ((aG s n 15).code.length≤1000000):=J (by rw [nQ];exact HF0.out);have HL:Hid ((aG s n 15).lits.length≤100000):=J (by rw [nR];exact HL0.out);obtain ⟨o,ho⟩:=aE (cE (aG s n 15).names n)
       cases o with
       | some k=>
        obtain ⟨kn,kk,ka⟩:=k;have HFV:Hid (gR (cE (aG s n 15).names n)= .tuple #[.agg #[.string kn,.bool (decide (kk=1)),.bool (decide (kk=3)),.int .i64 ka],.bool true]):=J Y102;rw [show rP (aG s n 15) n=(if kk=1 then aB (aG s n 15) 8 ka 0 else aB (aG s n 15) 7 ka 0) from by unfold rP;rw [ho]];clear ho
        by_cases e1:kk=1
        ·rw [if_pos e1];have d1:decide (kk=1)=true:=aD e1;clear e1;go_enter Tryz.func79,Tryz.ntmps79;go_wp2_with (first | (go_at_call 76;(with_reducible refine (eP HH.out n HN.out 15).mono ?_);rintro e w2 ⟨rfl,HX⟩;replace HX:=J HX) | (go_at_call 74;(with_reducible refine (bJ (HX.out.below bel).1 n HN.out).mono ?_);rw [HFV.out];rintro e w3 ⟨rfl,hb3⟩;have HX3:=J ((HX.out.below (bz w2)).below hb3);clear hb3) | (go_at_call 56;(with_reducible refine (bP HX3.out bel 8 ka 0 HF.out).mono ?_);rintro e w7 ⟨rfl,HY⟩;replace HY:=J HY));go_returns;exact ⟨rfl,HY.out⟩
        ·rw [if_neg e1];have d1:decide (kk=1)=false:=aK e1;clear e1;go_enter Tryz.func79,Tryz.ntmps79;go_wp2_with (first | (go_at_call 76;(with_reducible refine (eP HH.out n HN.out 15).mono ?_);rintro e w2 ⟨rfl,HX⟩;replace HX:=J HX) | (go_at_call 74;(with_reducible refine (bJ (HX.out.below bel).1 n HN.out).mono ?_);rw [HFV.out];rintro e w3 ⟨rfl,hb3⟩;have HX3:=J ((HX.out.below (bz w2)).below hb3);clear hb3) | (go_at_call 56;(with_reducible refine (bP HX3.out bel 7 ka 0 HF.out).mono ?_);rintro e w7 ⟨rfl,HY⟩;replace HY:=J HY));go_returns;exact ⟨rfl,HY.out⟩
       | none=>
        have HFV:Hid (gR (cE (aG s n 15).names n)= .tuple #[.agg #[.string eB,.bool false,.bool false,.int .i64 0],.bool false]):=J Y102;rw [show rP (aG s n 15) n=(if fA n then aB (fO (aG s n 15) n).2 9 (fO (aG s n 15) n).1 0 else aG (aG s n 15) n 15) from by unfold rP;rw [ho]];clear ho;obtain ⟨cl,hcl⟩:=aE (fA n);rw [hcl];have HC:=J hcl;clear hcl
        cases cl with
        | true=>
         rw [if_pos rfl];obtain ⟨g,hg⟩:=aE ((fO (aG s n 15) n).1);have HSY:=J hg;rw [hg];have HF5:Hid ((fO (aG s n 15) n).2.code.length≤1000000):=J (by rw [mX];exact HF.out);clear hg;go_enter Tryz.func79,Tryz.ntmps79;go_wp2_with (first | (go_at_call 76;(with_reducible refine (eP HH.out n HN.out 15).mono ?_);rintro e w2 ⟨rfl,HX⟩;replace HX:=J HX) | (go_at_call 74;(with_reducible refine (bJ (HX.out.below bel).1 n HN.out).mono ?_);rw [HFV.out];rintro e w3 ⟨rfl,hb3⟩;have HX3:=J ((HX.out.below (bz w2)).below hb3);clear hb3) | (go_at_call 95;(with_reducible refine (eM n HN.out _).mono ?_);rw [HC.out];rintro e w5 ⟨rfl,hw5⟩;replace hw5:=hw5.symm;subst hw5) | (go_at_call 96;(with_reducible refine (iP HX3.out bel n HN.out HL.out).mono ?_);rw [HSY.out];rintro e w5 ⟨rfl,HX5⟩;replace HX5:=J HX5) | (go_at_call 56;(with_reducible refine (bP HX5.out bel 9 (g:Int) 0 HF5.out).mono ?_);rintro e w7 ⟨rfl,HY⟩;replace HY:=J HY));go_returns;exact ⟨rfl,HY.out⟩
        | false=>
         rw [if_neg Y3];go_enter Tryz.func79,Tryz.ntmps79;go_wp2_with (first | (go_at_call 76;(with_reducible refine (eP HH.out n HN.out 15).mono ?_);rintro e w2 ⟨rfl,HX⟩;replace HX:=J HX) | (go_at_call 74;(with_reducible refine (bJ (HX.out.below bel).1 n HN.out).mono ?_);rw [HFV.out];rintro e w3 ⟨rfl,hb3⟩;have HX3:=J ((HX.out.below (bz w2)).below hb3);clear hb3) | (go_at_call 95;(with_reducible refine (eM n HN.out _).mono ?_);rw [HC.out];rintro e w5 ⟨rfl,hw5⟩;replace hw5:=hw5.symm;subst hw5) | (go_at_call 76;(with_reducible refine (cO HX3.out bel n HN.out 15).mono ?_);rintro e w7 ⟨rfl,HY⟩;replace HY:=J HY));go_returns;exact ⟨rfl,HY.out⟩
      | false=>
       rw [if_neg (show ¬n.toList=cG from aW q5)];have HF:Hid ((s).code.length≤1000000):=J (HF0.out);have HL:Hid ((s).lits.length≤100000):=J (HL0.out);have HX:=J HH.out.ct;obtain ⟨o,ho⟩:=aE (cE (s).names n)
       cases o with
       | some k=>
        obtain ⟨kn,kk,ka⟩:=k;have HFV:Hid (gR (cE (s).names n)= .tuple #[.agg #[.string kn,.bool (decide (kk=1)),.bool (decide (kk=3)),.int .i64 ka],.bool true]):=J Y102;rw [show rP (s) n=(if kk=1 then aB (s) 8 ka 0 else aB (s) 7 ka 0) from by unfold rP;rw [ho]];clear ho
        by_cases e1:kk=1
        ·rw [if_pos e1];have d1:decide (kk=1)=true:=aD e1;clear e1;go_enter Tryz.func79,Tryz.ntmps79;go_wp2_with (first | (go_at_call 74;(with_reducible refine (bJ (HX.out.below bel).1 n HN.out).mono ?_);rw [HFV.out];rintro e w3 ⟨rfl,hb3⟩;have HX3:=J ((HX.out.below (bz w)).below hb3);clear hb3) | (go_at_call 56;(with_reducible refine (bP HX3.out bel 8 ka 0 HF.out).mono ?_);rintro e w7 ⟨rfl,HY⟩;replace HY:=J HY));go_returns;exact ⟨rfl,HY.out⟩
        ·rw [if_neg e1];have d1:decide (kk=1)=false:=aK e1;clear e1;go_enter Tryz.func79,Tryz.ntmps79;go_wp2_with (first | (go_at_call 74;(with_reducible refine (bJ (HX.out.below bel).1 n HN.out).mono ?_);rw [HFV.out];rintro e w3 ⟨rfl,hb3⟩;have HX3:=J ((HX.out.below (bz w)).below hb3);clear hb3) | (go_at_call 56;(with_reducible refine (bP HX3.out bel 7 ka 0 HF.out).mono ?_);rintro e w7 ⟨rfl,HY⟩;replace HY:=J HY));go_returns;exact ⟨rfl,HY.out⟩
       | none=>
        have HFV:Hid (gR (cE (s).names n)= .tuple #[.agg #[.string eB,.bool false,.bool false,.int .i64 0],.bool false]):=J Y102;rw [show rP (s) n=(if fA n then aB (fO (s) n).2 9 (fO (s) n).1 0 else aG (s) n 15) from by unfold rP;rw [ho]];clear ho;obtain ⟨cl,hcl⟩:=aE (fA n);rw [hcl];have HC:=J hcl;clear hcl
        cases cl with
        | true=>
         rw [if_pos rfl];obtain ⟨g,hg⟩:=aE ((fO (s) n).1);have HSY:=J hg;rw [hg];have HF5:Hid ((fO (s) n).2.code.length≤1000000):=J (by rw [mX];exact HF.out);clear hg;go_enter Tryz.func79,Tryz.ntmps79;go_wp2_with (first | (go_at_call 74;(with_reducible refine (bJ (HX.out.below bel).1 n HN.out).mono ?_);rw [HFV.out];rintro e w3 ⟨rfl,hb3⟩;have HX3:=J ((HX.out.below (bz w)).below hb3);clear hb3) | (go_at_call 95;(with_reducible refine (eM n HN.out _).mono ?_);rw [HC.out];rintro e w5 ⟨rfl,hw5⟩;replace hw5:=hw5.symm;subst hw5) | (go_at_call 96;(with_reducible refine (iP HX3.out bel n HN.out HL.out).mono ?_);rw [HSY.out];rintro e w5 ⟨rfl,HX5⟩;replace HX5:=J HX5) | (go_at_call 56;(with_reducible refine (bP HX5.out bel 9 (g:Int) 0 HF5.out).mono ?_);rintro e w7 ⟨rfl,HY⟩;replace HY:=J HY));go_returns;exact ⟨rfl,HY.out⟩
        | false=>
         rw [if_neg Y3];go_enter Tryz.func79,Tryz.ntmps79;go_wp2_with (first | (go_at_call 74;(with_reducible refine (bJ (HX.out.below bel).1 n HN.out).mono ?_);rw [HFV.out];rintro e w3 ⟨rfl,hb3⟩;have HX3:=J ((HX.out.below (bz w)).below hb3);clear hb3) | (go_at_call 95;(with_reducible refine (eM n HN.out _).mono ?_);rw [HC.out];rintro e w5 ⟨rfl,hw5⟩;replace hw5:=hw5.symm;subst hw5) | (go_at_call 76;(with_reducible refine (cO HX3.out bel n HN.out 15).mono ?_);rintro e w7 ⟨rfl,HY⟩;replace HY:=J HY));go_returns;exact ⟨rfl,HY.out⟩
theorem kX {w0 ws w1 w:World} {P:Nat→Prop} {cb:Nat} {m:MK} {s:CSt} (h:CT w0 P ws w1 cb m s) (hb:Below w1.heap.size w1 w) (n:ByteArray) (hn:n.size≤bL) (hf:s.code.length≤1000000) (hl:s.lits.length≤100000):Calls Tryz.prog 79 #[.pointer (some ⟨cb,0,none⟩),.string n] w fun e w'=>e= .returned (.tuple #[])∧CT w0 P ws w' cb m (gG s n):=by
 have h2:=h.below hb;refine (kD h2.1 n hn hf hl).mono ?_;rintro e w' ⟨he,hc⟩;exact ⟨he,h2.go hc⟩
end Go.Proofs.YtnojndgmgkgnpaaGreat
