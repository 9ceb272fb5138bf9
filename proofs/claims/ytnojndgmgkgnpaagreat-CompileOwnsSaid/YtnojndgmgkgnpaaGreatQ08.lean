/- Chapter 10: words and contracts for the law. -/
import Derived.Test.YtnojndgmgkgnpaaGreatQ03
import Derived.Test.YtnojndgmgkgnpaaGreatQ07
set_option maxRecDepth 100000
set_option maxHeartbeats 40000000
set_option linter.unusedVariables false
set_option linter.unusedSimpArgs false
namespace Go.Proofs.YtnojndgmgkgnpaaGreat
open Go.ChangeShapes Go.WideShapes Go.ChangeAt Go.RowKit Go.Deep Go.Joins Go.Maps
def iK (w w':World) (k:Nat):Prop:=w.heap.size≤k∧k<w'.heap.size∧∃cur,w'.heap[k]? =some (.cells cur 44 (0,0))
def dO (w0 w:World) (P:Nat→Prop) (cb:Nat) (m:MK) (lv cv nv:Value) (D:Nat→Prop) (ps:List LP) (l:LitT) (s':CSt) (e:Ending) (w':World):Prop:=
 ∃q,e= .returned (ltV l q)∧CY w0 P w' cb m s' lv cv nv D ps∧IsLt w' (iK w w') l q∧Turns (fun k=>k=cb) w w'
theorem CY.under {w0 w:World} {P:Nat→Prop} {cb:Nat} {m:MK} {s:CSt} {lv cv nv:Value} {D:Nat→Prop} {ps:List LP} {w':World} (h:CY w0 P w cb m s lv cv nv D ps) (hb:Below w.heap.size w w'):CY w0 P w' cb m s lv cv nv D ps:=h.below hb (fun _ z=>z) (fun _ z=>.inl z)
theorem CY.apart {w0 w:World} {P:Nat→Prop} {cb:Nat} {m:MK} {s:CSt} {lv cv nv:Value} {D:Nat→Prop} {ps:List LP} {w':World} (h:CY w0 P w cb m s lv cv nv D ps) {T:Nat→Prop} (ht:Turns T w w') (hT:∀k,T k→k≠cb∧lv.ownBlock≠some k∧cv.ownBlock≠some k∧nv.ownBlock≠some k∧¬D k∧w0.heap.size≤k):CY w0 P w' cb m s lv cv nv D ps:=by
 refine ⟨(ht.block cb (aA h.box) (fun q=>(hT cb q).1 rfl)).trans h.box,h.lits.same ht.size (fun k hk=>ht.block k (World.ownsRow.lt h.lits.own k hk).2 (fun q=>(hT k q).2.1 hk)) (fun b hb hl=>ht.block b hl (fun q=>(hT b q).2.2.2.2.1 hb)) (fun _ z=>z),h.lps,aJ h.code ht.size (fun k hk=>ht.block k (World.ownsRow.lt h.code k hk).2 (fun q=>(hT k q).2.2.1 hk)),h.names.same ht.size (fun k hk=>ht.block k (h.names.lt hk) (fun q=>(hT k q).2.2.2.1 hk)) (fun _ _ z=>z),h.nok,h.cbP,h.lvP,h.cvP,fun k hk=>⟨aN (h.dlt k hk).1 ht.size,(h.dlt k hk).2⟩,fun k hk=>?_,h.stat.trans (ht.below (fun k q=>(hT k q).2.2.2.2.2) h.stat.size),h.low,fun k hk=>aN (h.lim k hk) ht.size,h.enm,h.dge⟩;obtain ⟨cur,hc⟩:=h.dty k hk;exact ⟨cur,(ht.block k (aA hc) (fun q=>(hT k q).2.2.2.2.1 hk)).trans hc⟩
theorem CY.fresh {w0 w:World} {P:Nat→Prop} {cb:Nat} {m:MK} {s:CSt} {lv cv nv:Value} {D:Nat→Prop} {ps:List LP} (h:CY w0 P w cb m s lv cv nv D ps) {k:Nat} (hk:w.heap.size≤k):k≠cb∧lv.ownBlock≠some k∧cv.ownBlock≠some k∧nv.ownBlock≠some k∧¬D k∧w0.heap.size≤k:=
 ⟨fun e=>by have:=aA h.box;omega,fun e=>by have:=(World.ownsRow.lt h.lits.own k e).2;omega,fun e=>by have:=(World.ownsRow.lt h.code k e).2;omega,fun e=>by have:=h.names.lt e;omega,fun e=>by have:=(h.dlt k e).1;omega,Nat.le_trans h.stat.size hk⟩
theorem wP (x:NodT):x.kids.length<x.size:=by
 have h:∀l:List NodT,l.length≤NodT.sizes l:=fun l=>by
  induction l with
  | nil=>simp [NodT.sizes]
  | cons a l ih=>simp only [NodT.sizes,List.length_cons];have:=a.size_pos;omega
 have h1:=h x.kids;rw [NodT.size_kids x];omega
theorem hM {w0 w:World} {P:Nat→Prop} {cb:Nat} {m:MK} {s:CSt} {lv cv nv:Value} {D:Nat→Prop} {ps:List LP} {w':World} (h:CY w0 P w cb m s lv cv nv D ps) (hb:Below w.heap.size w w') {k n:Int} {t:ByteArray} (hk:InI k) (hn:InI n) (ht:t.size≤bL):dO w0 w P cb m lv cv nv D ps (.node k t n []) s (.returned (.agg #[.int .i64 k,.string t,.int .i64 n,.slice none 0 0])) w':=
 ⟨⟨none,0⟩,rfl,h.under hb,IsLt.leaf _ _ hk hn ht,Turns.of_below hb⟩
theorem InI0:InI 0:=⟨by decide,by decide⟩
def leafS (l:LitT) (n:Int):Prop:=True
structure AR (w0 w:World) (P:Nat→Prop) (cb:Nat) (m:MK) (lv cv nv:Value) (D:Nat→Prop) (ps:List LP) (rp:List LP) (v:Value) (sk:CSt) (wr:World):Prop where
 cy:CY w0 P wr cb m sk lv cv nv D ps
 ts:Turns (fun k=>k=cb) w wr
 ob:wr.heap[w.heap.size+2]? =some (.cells #[.int .i64 4,.string eB,.int .i64 0,v] 44 (0,0))
 tb:wr.heap[w.heap.size+1]? =some (.cells #[.int .i64 0,.string eB,.int .i64 0,.slice none 0 0] 44 (0,0))
 own:wr.ownsRow (w.heap.size+3) 44 4 v rp.length (rp.flatMap lpC)
 lits:∀p,p∈rp→IsLt wr (fun k=>w.heap.size+3≤k∧k<wr.heap.size∧v.ownBlock≠some k∧k≠cb∧∃cur,wr.heap[k]? =some (.cells cur 44 (0,0))) p.1 p.2
 cbl:cb<w.heap.size
 sz:w.heap.size+3≤wr.heap.size
theorem AR.step {w0 w:World} {P:Nat→Prop} {cb:Nat} {m:MK} {lv cv nv:Value} {D:Nat→Prop} {ps rp:List LP} {v:Value} {sk sk':CSt} {wr W w4 w5:World} (h:AR w0 w P cb m lv cv nv D ps rp v sk wr) (h0:∀k,w.heap.size≤k→k≠cb∧lv.ownBlock≠some k∧cv.ownBlock≠some k∧nv.ownBlock≠some k∧¬D k∧w0.heap.size≤k)
  (hW:Below wr.heap.size wr W) (hc:CY w0 P w4 cb m sk' lv cv nv D ps) (p:LP) (hl:IsLt w4 (iK W w4) p.1 p.2) (ht:Turns (fun k=>k=cb) W w4) (o:Obj) {v':Value}
  (hown:w5.ownsRow (w.heap.size+3) 44 4 v' (rp.length+1) (rp.flatMap lpC++lpC p)) (hg:(w4.alloc o).grownBy w5 v.ownBlock) (hat:v'.ownBlock=v.ownBlock∨v'.ownBlock=some (w4.alloc o).heap.size):
  w5.heap[w.heap.size+2]? =some (.cells #[.int .i64 4,.string eB,.int .i64 0,v] 44 (0,0))∧AR w0 w P cb m lv cv nv D ps (rp++[p]) v' sk' (w5.setCell ⟨w.heap.size+2,3,none⟩ v'):=by
 have hcb:=h.cbl;have hba:Below w4.heap.size w4 (w4.alloc o):=ba;have hvl:∀k,v.ownBlock=some k→w.heap.size+3≤k∧k<wr.heap.size:=fun k hk=>World.ownsRow.lt h.own k hk
 have htg:Turns (fun k=>v.ownBlock=some k) (w4.alloc o) w5:=⟨hg.os,hg.tape,hg.output,hg.size,fun k hk hs=>hg.block k hk (fun e=>hs e.symm)⟩;have hsA:(w4.alloc o).heap.size=w4.heap.size+1:=World.size_alloc _ _
 -- what stands from wr to w5, but for cb and v's row
 have k1:∀k,k<wr.heap.size→k≠cb→v.ownBlock≠some k→w5.heap[k]? =wr.heap[k]? :=fun k hk a b=>by
  have e1:=hW.block k hk;have l1:=aN hk hW.size;have e2:=ht.block k l1 a;have l2:=aN l1 ht.size;have e3:=hba.block k l2;have e4:=htg.block k I b;exact e4.trans (e3.trans (e2.trans e1))
 have k2:∀k,k<w4.heap.size→v.ownBlock≠some k→w5.heap[k]? =w4.heap[k]? :=fun k hk b=>(htg.block k I b).trans (hba.block k hk)
 have s5:wr.heap.size≤w5.heap.size:=Nat.le_trans hW.size (Nat.le_trans ht.size Y161);have s45:w4.heap.size≤w5.heap.size:=Y161;have hsz:=h.sz;have hv':∀k,v'.ownBlock=some k→v.ownBlock=some k∨k=w4.heap.size+1:=fun k hk=>by
  rcases hat with q | q
  ·exact .inl (by rw [←q];exact hk)
  ·rw [q] at hk;cases hk;exact .inr hsA
 have hob:w5.heap[w.heap.size+2]? =some (.cells #[.int .i64 4,.string eB,.int .i64 0,v] 44 (0,0)):=(k1 _ I I (fun e=>by have:=(hvl _ e).1;omega)).trans h.ob;have ht6:Turns (fun k=>k=w.heap.size+2) w5 (w5.setCell ⟨w.heap.size+2,3,none⟩ v'):=(Turns.refl _ _).setCell _ _ (.inl rfl);have hcy5:CY w0 P w5 cb m sk' lv cv nv D ps:=(hc.under hba).apart htg (fun k hk=>h0 k (by have:=(hvl k hk).1;omega));refine ⟨hob,hcy5.apart ht6 (fun k hk=>h0 k I),?_,?_,?_,?_,fun x hx=>?_,hcb,by have:=ht6.size;omega⟩
 ·refine ⟨?_,?_,?_,?_,fun k hk hs=>?_⟩
  ·exact ht6.os.trans (htg.os.trans (hba.os.trans (ht.os.trans (hW.os.trans h.ts.os))))
  ·exact ht6.tape.trans (htg.tape.trans (hba.tape.trans (ht.tape.trans (hW.tape.trans h.ts.tape))))
  ·exact ht6.output.trans (htg.output.trans (hba.output.trans (ht.output.trans (hW.output.trans h.ts.output))))
  ·have:=h.ts.size;have:=ht6.size;omega
  ·have e1:=h.ts.block k hk hs;have l1:=aN hk h.ts.size;have e2:=k1 k l1 hs (fun e=>by have:=(hvl k e).1;omega);have e3:=ht6.block k I I;exact e3.trans (e2.trans e1)
 ·rw [heap_setCell_same w5 _ 3 _ _ _ hob];rfl
 ·exact (ht6.block _ I I).trans ((k1 _ I I (fun e=>by have:=(hvl _ e).1;omega)).trans h.tb)
 ·rw [List.length_append,show (rp++[p]).flatMap lpC=rp.flatMap lpC++lpC p by simp];exact aJ hown ht6.size (fun k hk=>ht6.block k (World.ownsRow.lt hown k hk).2 (fun e=>by have:=(World.ownsRow.lt hown k hk).1;omega))
 ·have s6:w5.heap.size≤(w5.setCell ⟨w.heap.size+2,3,none⟩ v').heap.size:=ht6.size
  rcases List.mem_append.1 hx with q | q
  ·have hk:∀b,w.heap.size+3≤b→b<wr.heap.size→v.ownBlock≠some b→b≠cb→(w5.setCell ⟨w.heap.size+2,3,none⟩ v').heap[b]? =wr.heap[b]? :=fun b a1 a2 a3 a4=>(ht6.block b I I).trans (k1 b a2 a4 a3)
   refine (h.lits x q).same (Nat.le_trans s5 ht6.size) (fun b hb hl=>hk b hb.1 hl hb.2.2.1 hb.2.2.2.1) (fun b hb=>⟨hb.1,aN hb.2.1 (Nat.le_trans s5 s6),fun e=>?_,hb.2.2.2.1,hb.2.2.2.2.choose,(hk b hb.1 hb.2.1 hb.2.2.1 hb.2.2.2.1).trans hb.2.2.2.2.choose_spec⟩)
   ·rcases hv' b e with z | z
    ·exact hb.2.2.1 z
    ·have:=hb.2.1;have:=hW.size;have:=ht.size;omega
  ·rw [List.mem_singleton.1 q];have hWs:=hW.size;have hk:∀b,W.heap.size≤b→b<w4.heap.size→(w5.setCell ⟨w.heap.size+2,3,none⟩ v').heap[b]? =w4.heap[b]? :=fun b a1 a2=>(ht6.block b I I).trans (k2 b a2 (fun e=>by have:=(hvl b e).2;omega))
   refine (hl.same (Nat.le_trans s45 ht6.size) (fun b hb hlt=>hk b hb.1 hlt) (fun b hb=>?_))
   ·have h1:=hb.1;have h2:=hb.2.1;refine ⟨by omega,by omega,fun e=>?_,by omega,hb.2.2.choose,(hk b h1 h2).trans hb.2.2.choose_spec⟩
    rcases hv' b e with z | z
    ·have:=(hvl b z).2;omega
    ·omega
theorem oD {ops:Array Oper} {o:Oper} {a:Act} {w:World} {K:Act→World→Prop} {Q:Exit→Act→World→Prop} {E:Prop} (hgd:o.guard=none) (sl x:Operand)
  (hop:o.op= .call {callee:=.builtin .append,args:=#[sl,x],argTypes:=#[29,29]}) (B:Nat) (v:Value) (n:Nat) (xs:List Value) (hs:a.eval sl=v) (hown:w.ownsRow B 44 4 v n xs) {G:Nat} (hx:a.eval x= .slice (some ⟨G,0,none⟩) 1 1) (p:LP)
  (hG:w.heap[G]? =some (.cells #[.int .i64 p.1.kind_,.string p.1.text_,.int .i64 p.1.num_,.slice p.2.p p.1.kids_.length p.2.c] 44 (0,0))) (hle:n≤1000000) (hB:B≤w.heap.size)
  (hK:∀v' w',w'.ownsRow B 44 4 v' (n+1) (xs++lpC p)→w.grownBy w' v.ownBlock→(v'.ownBlock=v.ownBlock∨v'.ownBlock=some w.heap.size)→K (a.put o.dst v') w'):if Region.wanted o (yielded ops a.tmps)=true then Oper.wp Tryz.prog o a w K Q else E:=by
 obtain ⟨i0,hi,hz0,hz1,hz2⟩:=cQ wI;have hone:∀u∈lpC p,u.oneCell'=true:=fun u hu=>by
  unfold lpC ltC at hu;simp only [List.mem_cons,List.not_mem_nil,or_false] at hu
  rcases hu with rfl | rfl | rfl | rfl <;> rfl
 rw [if_pos Y92];obtain ⟨v',w',hr,h2,h3,_,h5⟩:=run_append_own_at (P:=Tryz.prog) w B 29 o.type 44 i0 (.agg #[.int .i64 0,.string eB,.int .i64 0,.slice none 0 0]) 4 56 Tryz.underlying29 hi hz0 hz1 hz2 rfl Y3 v n xs hown ⟨G,0,none⟩ 1 1 (lpC p) rfl (cY hG) hone Y24 I hB;unfold Oper.wp execOp;simp only [hop,resolve,invoke,builtin,Sem.run_bind,Sem.run_pure,Result.andThen_ok,List.map_toArray,List.map_cons,List.map_nil,hs,hx,hr];exact hK _ _ h2 h3 h5
theorem mZ {w0 w:World} {P:Nat→Prop} {cb:Nat} {m:MK} {lv cv nv:Value} {D:Nat→Prop} {ps rp:List LP} {A3:Option Addr} {n c3:Nat} {sk:CSt} {wr w':World} (h:AR w0 w P cb m lv cv nv D ps rp (.slice A3 n c3) sk wr) (h0:∀k,w.heap.size≤k→k≠cb∧lv.ownBlock≠some k∧cv.ownBlock≠some k∧nv.ownBlock≠some k∧¬D k∧w0.heap.size≤k)
  (hn:rp.length=n) (ht:Turns (fun k=>k=w.heap.size+1) wr w'):dO w0 w P cb m lv cv nv D ps (.node 4 eB 0 (rp.map Prod.fst)) sk (.returned (.agg #[.int .i64 4,.string eB,.int .i64 0,.slice A3 n c3])) w':=by
 subst hn;obtain ⟨A,c,hv,hle,hmx⟩:=aX h.own
 cases hv
 have hcb:=h.cbl;have hsz:=h.sz;refine ⟨⟨A3,c3⟩,?_,h.cy.apart ht (fun k hk=>h0 k I),?_,?_⟩
 ·show _=Ending.returned (.agg #[_,_,_,.slice A3 (rp.map Prod.fst).length c3])
  rw [List.length_map]
  rfl
 ·have hrow:LitRow wr (fun k=>w.heap.size+3≤k∧k<wr.heap.size∧(Value.slice A3 rp.length c3).ownBlock≠some k∧k≠cb∧∃cur,wr.heap[k]? =some (.cells cur 44 (0,0))) (.slice A3 rp.length c3) rp:=⟨bR h.own (Nat.zero_le _),h.lits⟩;have hk:∀b,w.heap.size+3≤b→b<wr.heap.size→w'.heap[b]? =wr.heap[b]? :=fun b a1 a2=>ht.block b a2 I
  refine .node _ _ (fun i=>(rp.getD i (.node 0 eB 0 [],⟨none,0⟩)).2) ⟨(⟨by decide,by decide⟩:InI 4),(⟨by decide,by decide⟩:InI 0),Nat.zero_le _,?_,hmx⟩ (fun i hi=>?_) (fun i hi=>?_)
  ·show (rp.map Prod.fst).length≤c3
   rw [List.length_map];exact hle
  ·have hi':i<rp.length:=Y130;obtain ⟨b,c,cur,hv,_,hh,hc⟩:=hrow.at_ hi'
   cases hv
   have hb:=World.ownsRow.lt h.own b rfl;refine ⟨b,cur,rfl,(hk b hb.1 hb.2).trans hh,⟨by omega,aN hb.2 ht.size,cur,(hk b hb.1 hb.2).trans hh⟩,?_⟩;have e1:(LitT.node 4 eB 0 (rp.map Prod.fst)).kids_[i]=rp[i].1:=Y129;have e2:rp.getD i (.node 0 eB 0 [],⟨none,0⟩)=rp[i]:=by rw [List.getD_eq_getElem?_getD,List.getElem?_eq_getElem hi'];rfl
   rw [e1]
   show Cells4 w' b (i*4) rp[i].1 (rp.getD i (.node 0 eB 0 [],⟨none,0⟩)).2
   rw [e2];exact hc.same (hk b hb.1 hb.2)
  ·have hi':i<rp.length:=Y130;have e1:(LitT.node 4 eB 0 (rp.map Prod.fst)).kids_[i]=rp[i].1:=Y129;have e2:rp.getD i (.node 0 eB 0 [],⟨none,0⟩)=rp[i]:=by rw [List.getD_eq_getElem?_getD,List.getElem?_eq_getElem hi'];rfl
   rw [e1]
   show IsLt w' _ rp[i].1 (rp.getD i (.node 0 eB 0 [],⟨none,0⟩)).2
   rw [e2];exact (h.lits rp[i] (List.getElem_mem hi')).same ht.size (fun b hb hl=>hk b hb.1 hl) (fun b hb=>⟨by have:=hb.1;omega,aN hb.2.1 ht.size,hb.2.2.2.2.choose,(hk b hb.1 hb.2.1).trans hb.2.2.2.2.choose_spec⟩)
 ·refine ⟨ht.os.trans h.ts.os,ht.tape.trans h.ts.tape,ht.output.trans h.ts.output,Nat.le_trans h.ts.size ht.size,fun k hk hs=>?_⟩;exact (ht.block k (aN hk h.ts.size) I).trans (h.ts.block k hk hs)
theorem uQ (f:Nat):∀(x:NodT),x.size≤f→x.size≤100000→∀{w0 w:World} {P:Nat→Prop} {cb:Nat} {m:MK} {s:CSt} {lv cv nv:Value} {D:Nat→Prop} {ps:List LP} {q:NS},CY w0 P w cb m s lv cv nv D ps→IsNd w0 (fun _=>True) x q→Calls Tryz.prog 78 #[.pointer (some ⟨cb,0,none⟩),ndV x q] w (dO w0 w P cb m lv cv nv D ps (dS x s).1 (dS x s).2):=by
 induction f with
 | zero=>intro x hx;have:=x.size_pos;omega
 | succ f ih=>
 intro x hx hx2 w0 w P cb m s lv cv nv D ps q hy hnd;have hok:=hnd.ok;have HND:=J hnd;have HY:=J hy;have HIH:=J ih;obtain ⟨k,t,nm,ns,ts,ks⟩:=x;have ht:=hok.text;have hnu:=hok.num;have hki:=hok.kind;have hkl:=hok.klen;simp only [NodT.kind,NodT.text,NodT.num,NodT.kids] at ht hnu hki hkl;have HT:=J ht;have HNU:=J hnu;clear hnd hy ih hok ht hnu;unfold ndV;simp only [NodT.kind,NodT.text,NodT.num,NodT.kids,NodT.names,NodT.temps]
 by_cases k1:k=1
 ·subst k1;rw [show dS (.node 1 t nm ns ts ks) s=(.node 1 eB nm [],s) from by unfold dS;rw [if_pos rfl]];go_enter Tryz.func78,Tryz.ntmps78;go_wp2_with fail;refine bodyPost_ret (v:=.agg #[.int .i64 1,.string eB,.int .i64 nm,.slice none 0 0]) Y133 rfl ?_;exact hM HY.out bel ⟨by decide,by decide⟩ HNU.out (Nat.zero_le _)
 by_cases k2:k=2
 ·subst k2;rw [show dS (.node 2 t nm ns ts ks) s=(.node 2 t 0 [],s) from by unfold dS;rw [if_neg Y3,if_pos rfl]];go_enter Tryz.func78,Tryz.ntmps78;go_wp2_with fail;refine bodyPost_ret (v:=.agg #[.int .i64 2,.string t,.int .i64 0,.slice none 0 0]) Y133 rfl ?_;exact hM HY.out bel ⟨by decide,by decide⟩ ⟨by decide,by decide⟩ HT.out
 by_cases k3:k=3
 ·subst k3;rw [show dS (.node 3 t nm ns ts ks) s=(.node 3 t 0 [],s) from by unfold dS;rw [if_neg Y3,if_neg Y3,if_pos rfl]];go_enter Tryz.func78,Tryz.ntmps78;go_wp2_with fail;refine bodyPost_ret (v:=.agg #[.int .i64 3,.string t,.int .i64 0,.slice none 0 0]) Y133 rfl ?_;exact hM HY.out bel ⟨by decide,by decide⟩ ⟨by decide,by decide⟩ HT.out
 by_cases k4:k=4
 ·subst k4;have HLI:Hid (dS (.node 4 t nm ns ts ks) s=(.node 4 eB 0 (gC ks s).1,(gC ks s).2)):=J (by conv=>lhs;unfold dS;rw [if_neg Y3,if_neg Y3,if_neg Y3,if_pos rfl]);rw [HLI.out];have hcb:=aA HY.out.box;obtain ⟨n,hn⟩:=aE ks.length;have HN:=J hn;rw [hn] at hkl ⊢;have hn5:n≤100000:=by
   rw [←hn];have:=wP (NodT.node 4 t nm ns ts ks);simp only [NodT.kids] at this;omega
  obtain ⟨W3,hW3⟩:∃W3,W3=((w.alloc (.cells #[.int .i64 4,.string t,.int .i64 nm,.slice q.pn ns.length q.cn,.slice q.pt ts.length q.ct,.slice q.pk n q.ck] 25)).alloc (.cells #[.int .i64 0,.string eB,.int .i64 0,.slice none 0 0] 44)).alloc (.cells #[.int .i64 4,.string eB,.int .i64 0,.slice none 0 0] 44):=⟨_,rfl⟩;have hb3:Below w.heap.size w W3:=Y47;have har:AR w0 w P cb m lv cv nv D ps [] (.slice none 0 0) s W3:=by
   refine ⟨HY.out.under hb3,Turns.of_below hb3,?_,?_,World.ownsRow_nil _ _ _ _,fun p hp=>absurd hp Y12,hcb,by rw [hW3];simp⟩
   ·rw [hW3];have:=heap_alloc_new ((w.alloc (.cells #[.int .i64 4,.string t,.int .i64 nm,.slice q.pn ns.length q.cn,.slice q.pt ts.length q.ct,.slice q.pk n q.ck] 25)).alloc (.cells #[.int .i64 0,.string eB,.int .i64 0,.slice none 0 0] 44)) (.cells #[.int .i64 4,.string eB,.int .i64 0,.slice none 0 0] 44);simp only [World.size_alloc] at this;exact this
   ·rw [hW3];refine ((Below.refl _ _).alloc aR (.cells #[.int .i64 4,.string eB,.int .i64 0,.slice none 0 0] 44)).block _ Y12 |>.trans ?_;have:=heap_alloc_new (w.alloc (.cells #[.int .i64 4,.string t,.int .i64 nm,.slice q.pn ns.length q.cn,.slice q.pt ts.length q.ct,.slice q.pk n q.ck] 25)) (.cells #[.int .i64 0,.string eB,.int .i64 0,.slice none 0 0] 44);rw [World.size_alloc] at this;exact this
  have HAR:=J har;clear har hb3 hn;go_enter Tryz.func78,Tryz.ntmps78;go_wp2_with fail
  go_loopw [31] (fun i wr=>∃(j:Nat) (sk:CSt) (rp:List LP) (A3:Option Addr) (c3:Nat),i= .int .i64 j∧j≤n∧rp.length=j∧AR w0 w P cb m lv cv nv D ps rp (.slice A3 j c3) sk wr∧gC ks s=(rp.map Prod.fst++(gC (ks.drop j) sk).1,(gC (ks.drop j) sk).2)) (fun i _=>n-(intOf i).toNat)
  case atStart=>exact ⟨0,s,[],none,0,rfl,Nat.zero_le _,rfl,by rw [←hW3];exact HAR.out,rfl⟩
  case round=>
   obtain ⟨j,sk,rp,A3,c3,rfl,hj,hrp,har,hli⟩:=hrel;clear HAR hW3;have HAR:=J har;have HLP:=J hli;have HRP:=J hrp;have o3:wr.cell? ⟨w.heap.size+2,3,none⟩=some (.slice A3 j c3):=Y56;have o0:wr.cell? ⟨w.heap.size+2,0,none⟩=some (.int .i64 4):=Y56;have o1:wr.cell? ⟨w.heap.size+2,1,none⟩=some (.string eB):=Y56;have o2:wr.cell? ⟨w.heap.size+2,2,none⟩=some (.int .i64 0):=Y56;have fo:wr.frozen? ⟨w.heap.size+2,3,none⟩=false:=by simp [World.frozen?,har.ob]
   have hobl:w.heap.size+2<wr.heap.size:=by have:=har.sz;omega
   clear hli hrp
   by_cases hlt:j<n
   ·have d1:=aD hlt;have d2:=aT hlt;have hkl:j<(NodT.node 4 t nm ns ts ks).kids.length:=by have:=HN.out;simp only [NodT.kids];omega
    obtain ⟨b,off,q',hpk,hbl,_,hc6,hkd⟩:=HND.out.kid hkl;have hst:=har.cy.stat;have hc6w:=hc6.same (hst.block b hbl);have hbw:b<wr.heap.size:=aN hbl hst.size;have hsz:=NodT.size_kid (List.getElem_mem hkl);obtain ⟨kd,hkx⟩:=aE ((NodT.node 4 t nm ns ts ks).kids[j]);rw [hkx] at hc6w hkd hsz;have HKX:=J hkx;have c0:=hc6w.c0;have c1:=hc6w.c1;have c2:=hc6w.c2;have c3':=hc6w.c3;have c4:=hc6w.c4;have c5:=hc6w.c5;have hck:∀W,Below wr.heap.size wr W→Calls Tryz.prog 78 #[.pointer (some ⟨cb,0,none⟩),ndV kd q'] W (dO w0 W P cb m lv cv nv D ps (dS kd sk).1 (dS kd sk).2):=fun W hW=>HIH.out kd I I (har.cy.under hW) hkd
    obtain ⟨ld,sd,hld⟩:∃l s,dS kd sk=(l,s):=⟨_,_,rfl⟩;rw [hld] at hck;have HLD:=J hld;unfold ndV dO ltV at hck;have HIC:=J hck;have g0:(0:Int)≤(j:Int):=I;have g1:(j:Int)<(n:Int):=I;clear hck hld hkx hkd hc6 hc6w har hst hsz hx hx2;have HBW:Hid (Below wr.heap.size wr (wr.alloc (.cells #[.int .i64 kd.kind,.string kd.text,.int .i64 kd.num,.slice q'.pn kd.names.length q'.cn,.slice q'.pt kd.temps.length q'.ct,.slice q'.pk kd.kids.length q'.ck] 25)).drew):=J (Below.drew (ba))
    go_upto_region 13 with fail
    go_region_law (first | (go_simp;go_at_call 78;(with_reducible refine (HIC.out _ bel).mono ?_);rintro e w4 ⟨ql,rfl,hc4,hl4,ht4⟩;have HC4:=J hc4;have HL4:=J hl4;have HT4:=J ht4;have hob4:=(ht4.block (w.heap.size+2) Y4 I).trans ((HBW.out.block (w.heap.size+2) hobl).trans HAR.out.ob);have s3:w4.cell? ⟨w.heap.size+2,3,none⟩=some (.slice A3 j c3):=(by simp [World.cell?,hob4]);have s3a:(w4.alloc (.cells #[.int .i64 ld.kind_,.string ld.text_,.int .i64 ld.num_,.slice ql.p ld.kids_.length ql.c] 44)).cell? ⟨w.heap.size+2,3,none⟩=some (.slice A3 j c3):=Lib.cell?_alloc_marked _ s3;have HOW:Hid ((w4.alloc (.cells #[.int .i64 ld.kind_,.string ld.text_,.int .i64 ld.num_,.slice ql.p ld.kids_.length ql.c] 44)).ownsRow (w.heap.size+3) 44 4 (.slice A3 j c3) j (rp.flatMap lpC)):=J (World.ownsRow.alloc (by have h9:=HAR.out.own;rw [HRP.out] at h9;refine aJ h9 (by have:=ht4.size;simp at this;omega) (fun k hk=>(ht4.block k (by have:=(World.ownsRow.lt h9 k hk).2;simp;omega) (fun e=>by have:=(World.ownsRow.lt h9 k hk).1;omega)).trans (HBW.out.block k (World.ownsRow.lt h9 k hk).2))) _);have hs4:=ht4.size;simp at hs4;have hb4l:w.heap.size+3≤w4.heap.size:=(by have:=HAR.out.sz;omega);clear hc4 hl4 ht4 hob4) | ((refine oD rfl _ _ rfl (w.heap.size+3) (.slice A3 j c3) j (rp.flatMap lpC) Y10 HOW.out (G:=w4.heap.size) Y10 (ld,ql) (heap_alloc_new w4 _) I Y4 ?_;intro v5 w5 hown5 hg5 hat5;have hst:=HAR.out.step (fun k hk=>HY.out.fresh hk) HBW.out HC4.out (ld,ql) HL4.out HT4.out _ (by rw [HRP.out];exact hown5) hg5 hat5;obtain ⟨A5,c5,hv5,_⟩:=aX hown5;subst hv5;have HST:=J hst;have s35:w5.cell? ⟨w.heap.size+2,3,none⟩=some (.slice A3 j c3):=(by simp [World.cell?,hst.1]);have f35:w5.frozen? ⟨w.heap.size+2,3,none⟩=false:=(by simp [World.frozen?,hst.1]);clear hst hown5 hg5 hat5)))
    all_goals
     go_wp2_with fail;go_roundw
     case rel=>
      refine ⟨j+1,by omega,hlt,sd,rp++[(ld,ql)],by rw [List.length_append,HRP.out];rfl,⟨A5,c5,HST.out.2⟩,?_⟩;have hd:ks.drop j=kd :: ks.drop (j+1):=by
       have h9:ks[j]? =some kd:=by
        have h8:(NodT.node 4 t nm ns ts ks).kids[j]? =some kd:=by rw [List.getElem?_eq_getElem hkl,HKX.out]
        exact h8
       obtain ⟨h7,h6⟩:=List.getElem?_eq_some_iff.1 h9;rw [List.drop_eq_getElem_cons h7,h6]
      rw [HLP.out,hd]
      show (_++((dS kd sk).1 :: (gC (ks.drop (j+1)) (dS kd sk).2).1),(gC (ks.drop (j+1)) (dS kd sk).2).2)=_
      rw [HLD.out];simp
     case measure=>simp [intOf];omega
   ·have hkn:j=n:=I;have d1:=aK hlt;have d2:=aF hlt;clear hlt;subst hkn;have HTB:=har.tb;have u0:wr.cell? ⟨w.heap.size+1,0,none⟩=some (.int .i64 0):=Y32;have u1:wr.cell? ⟨w.heap.size+1,1,none⟩=some (.string eB):=Y32;have u2:wr.cell? ⟨w.heap.size+1,2,none⟩=some (.int .i64 0):=Y32;have u3:wr.cell? ⟨w.heap.size+1,3,none⟩=some (.slice none 0 0):=Y32;have r0:wr.frozen? ⟨w.heap.size+1,0,none⟩=false:=Y28;have r1:wr.frozen? ⟨w.heap.size+1,1,none⟩=false:=Y28;have r2:wr.frozen? ⟨w.heap.size+1,2,none⟩=false:=Y28;have r3:wr.frozen? ⟨w.heap.size+1,3,none⟩=false:=Y28;clear har;go_wp2_with fail;obtain ⟨W9,hW9⟩:∃W9,W9=((((wr.setCell ⟨w.heap.size+1,0,none⟩ (.int .i64 4)).setCell ⟨w.heap.size+1,1,none⟩ (.string eB)).setCell ⟨w.heap.size+1,2,none⟩ (.int .i64 0)).setCell ⟨w.heap.size+1,3,none⟩ (.slice A3 j c3)):=⟨_,rfl⟩;have h9:W9.heap[w.heap.size+1]? =some (.cells #[.int .i64 4,.string eB,.int .i64 0,.slice A3 j c3] 44 (0,0)):=by rw [hW9];exact fT HTB
    have z0:W9.cell? ⟨w.heap.size+1,0,none⟩=some (.int .i64 4):=Y11;have z1:W9.cell? ⟨w.heap.size+1,1,none⟩=some (.string eB):=Y11;have z2:W9.cell? ⟨w.heap.size+1,2,none⟩=some (.int .i64 0):=Y11;have z3:W9.cell? ⟨w.heap.size+1,3,none⟩=some (.slice A3 j c3):=Y11;have HW9:=J hW9;rw [←hW9];clear hW9 h9;refine bodyPost_ret (v:=.agg #[.int .i64 4,.string eB,.int .i64 0,.slice A3 j c3]) (by simp [results,Tryz.results78,go_sem,z0,z1,z2,z3]) rfl ?_;have htq:Turns (fun k=>k=w.heap.size+1) wr W9:=by
     rw [HW9.out];exact ((((Turns.refl (fun k=>k=w.heap.size+1) wr).setCell ⟨w.heap.size+1,0,none⟩ _ (.inl rfl)).setCell ⟨w.heap.size+1,1,none⟩ _ (.inl rfl)).setCell ⟨w.heap.size+1,2,none⟩ _ (.inl rfl)).setCell ⟨w.heap.size+1,3,none⟩ _ (.inl rfl)
    have hls:gC ks s=(rp.map Prod.fst,sk):=by
     rw [HLP.out,←HN.out,List.drop_length];simp [gC]
    rw [hls];exact mZ HAR.out (fun k hk=>HY.out.fresh hk) HRP.out htq
 ·rw [show dS (.node k t nm ns ts ks) s=(.node 0 eB 0 [],aG s eB 1) from by unfold dS;rw [if_neg k1,if_neg k2,if_neg k3,if_neg k4]];have e1:(k==1)=false:=by simpa using k1
  have e2:(k==2)=false:=by simpa using k2
  have e3:(k==3)=false:=by simpa using k3
  have e4:(k==4)=false:=by simpa using k4
  have hcb:=aA HY.out.box;have HTB:Hid (((w.alloc (.cells #[.int .i64 k,.string t,.int .i64 nm,.slice q.pn ns.length q.cn,.slice q.pt ts.length q.ct,.slice q.pk ks.length q.ck] 25)).alloc (.cells #[.int .i64 0,.string eB,.int .i64 0,.slice none 0 0] 44)).heap[w.heap.size+1]? =some (.cells #[.int .i64 0,.string eB,.int .i64 0,.slice none 0 0] 44 (0,0))):=J (by
   have:=heap_alloc_new (w.alloc (.cells #[.int .i64 k,.string t,.int .i64 nm,.slice q.pn ns.length q.cn,.slice q.pt ts.length q.ct,.slice q.pk ks.length q.ck] 25)) (.cells #[.int .i64 0,.string eB,.int .i64 0,.slice none 0 0] 44);rw [World.size_alloc] at this;exact this)
  go_enter Tryz.func78,Tryz.ntmps78;go_wp2_with (first | (go_at_call 76;(with_reducible refine (mW (HY.out.under bel) ⟨#[]⟩ (Nat.zero_le _) 1).mono ?_);rintro e w3 ⟨rfl,hc3,ht3⟩;have HC3:=J hc3;have htb3:=(ht3.block (w.heap.size+1) Y12 I).trans (HTB.out);have HT3:=J ht3;have HTB3:=J htb3;have v0:w3.cell? ⟨w.heap.size+1,0,none⟩=some (.int .i64 0):=Y63;have v1:w3.cell? ⟨w.heap.size+1,1,none⟩=some (.string eB):=Y63;have v2:w3.cell? ⟨w.heap.size+1,2,none⟩=some (.int .i64 0):=Y63;have v3:w3.cell? ⟨w.heap.size+1,3,none⟩=some (.slice none 0 0):=Y63;have r0:w3.frozen? ⟨w.heap.size+1,0,none⟩=false:=Y55;have r1:w3.frozen? ⟨w.heap.size+1,1,none⟩=false:=Y55;have r2:w3.frozen? ⟨w.heap.size+1,2,none⟩=false:=Y55;have r3:w3.frozen? ⟨w.heap.size+1,3,none⟩=false:=Y55;clear hc3 ht3 htb3));obtain ⟨W9,hW9⟩:∃W9,W9=((((w3.setCell ⟨w.heap.size+1,0,none⟩ (.int .i64 0)).setCell ⟨w.heap.size+1,1,none⟩ (.string eB)).setCell ⟨w.heap.size+1,2,none⟩ (.int .i64 0)).setCell ⟨w.heap.size+1,3,none⟩ (.slice none 0 0)):=⟨_,rfl⟩;have h9:W9.heap[w.heap.size+1]? =some (.cells #[.int .i64 0,.string eB,.int .i64 0,.slice none 0 0] 44 (0,0)):=by rw [hW9];exact fT HTB3.out
  have z0:W9.cell? ⟨w.heap.size+1,0,none⟩=some (.int .i64 0):=Y11;have z1:W9.cell? ⟨w.heap.size+1,1,none⟩=some (.string eB):=Y11;have z2:W9.cell? ⟨w.heap.size+1,2,none⟩=some (.int .i64 0):=Y11;have z3:W9.cell? ⟨w.heap.size+1,3,none⟩=some (.slice none 0 0):=Y11;have HW9:=J hW9;rw [←hW9];clear hW9 h9;refine bodyPost_ret (v:=.agg #[.int .i64 0,.string eB,.int .i64 0,.slice none 0 0]) (by simp [results,Tryz.results78,go_sem,z0,z1,z2,z3]) rfl ?_;have hb2:Below w.heap.size w ((w.alloc (.cells #[.int .i64 k,.string t,.int .i64 nm,.slice q.pn ns.length q.cn,.slice q.pt ts.length q.ct,.slice q.pk ks.length q.ck] 25)).alloc (.cells #[.int .i64 0,.string eB,.int .i64 0,.slice none 0 0] 44)):=bel;have htq:Turns (fun k=>k=w.heap.size+1) w3 W9:=by
   rw [HW9.out];exact ((((Turns.refl (fun k=>k=w.heap.size+1) w3).setCell ⟨w.heap.size+1,0,none⟩ _ (.inl rfl)).setCell ⟨w.heap.size+1,1,none⟩ _ (.inl rfl)).setCell ⟨w.heap.size+1,2,none⟩ _ (.inl rfl)).setCell ⟨w.heap.size+1,3,none⟩ _ (.inl rfl)
  have hT3:Turns (fun k=>k=cb) w W9:=by
   refine ⟨htq.os.trans (HT3.out.os.trans hb2.os),htq.tape.trans (HT3.out.tape.trans hb2.tape),htq.output.trans (HT3.out.output.trans hb2.output),Nat.le_trans hb2.size (Nat.le_trans HT3.out.size htq.size),fun j hj hs=>?_⟩;have h1:=hb2.block j hj;have h2:=HT3.out.block j (aN hj hb2.size) hs;have h3:=htq.block j (aN hj (Nat.le_trans hb2.size HT3.out.size)) I;exact h3.trans (h2.trans h1)
  exact ⟨⟨none,0⟩,rfl,HC3.out.apart htq (fun k e=>HY.out.fresh I),IsLt.leaf _ _ InI0 InI0 (Nat.zero_le _),hT3⟩
theorem iL {w0 w:World} {P:Nat→Prop} {cb:Nat} {m:MK} {s:CSt} {lv cv nv:Value} {D:Nat→Prop} {ps:List LP} {x:NodT} {q:NS} (h:CY w0 P w cb m s lv cv nv D ps) (hn:IsNd w0 (fun _=>True) x q) (hx:x.size≤100000):Calls Tryz.prog 78 #[.pointer (some ⟨cb,0,none⟩),ndV x q] w (dO w0 w P cb m lv cv nv D ps (dS x s).1 (dS x s).2):=uQ x.size x aR hx h hn
mutual
theorem iY:∀(x:NodT) (s:CSt),(dS x s).2.temps=s.temps
 | .node k t n _ _ ks,s=>by
  unfold dS
  split
  ·rfl
  split
  ·rfl
  split
  ·rfl
  split
  ·exact oE ks s
  ·unfold aG;split <;> rfl
theorem oE:∀(l:List NodT) (s:CSt),(gC l s).2.temps=s.temps
 | [],s=>rfl
 | x :: r,s=>by
  unfold gC;exact (oE r _).trans (iY x s)
end
theorem nT {f:Nat} (hv:VSpec f) {w0 ws w1 w:World} {P:Nat→Prop} {cb:Nat} {m:MK} {s:CSt} (h:CT w0 P ws w1 cb m s) (hb:Below w1.heap.size w1 w) {x:NodT} {q:NS} (hn:IsNd w0 (fun _=>True) x q) (hx:x.size≤f+1) (hf:s.code.length+8*x.size≤1000000) (hl:s.lits.length+x.size≤100000):Calls Tryz.prog 80 #[.pointer (some ⟨cb,0,none⟩),ndV x q] w fun e w'=>e= .returned (.tuple #[])∧CT w0 P ws w' cb m (fI (aL f) x s):=by
 have h2:=h.below hb;refine (mI hv h2.1 hn hx hf hl).mono ?_;rintro e w' ⟨he,hc⟩;exact ⟨he,h2.go hc⟩
theorem send_at {f:Nat} (hv:VSpec f) {w0 ws w1 w:World} {P:Nat→Prop} {cb:Nat} {m:MK} {s:CSt} (h:CT w0 P ws w1 cb m s) (hb:Below w1.heap.size w1 w) {x:NodT} {q:NS} (hn:IsNd w0 (fun _=>True) x q) (hx:x.size≤f+1) (hf:s.code.length+8*x.size≤1000000) (hl:s.lits.length+x.size≤100000):Calls Tryz.prog 81 #[.pointer (some ⟨cb,0,none⟩),ndV x q] w fun e w'=>e= .returned (.tuple #[])∧CT w0 P ws w' cb m (iU (aL f) x s):=by
 have h2:=h.below hb;refine (send_any hv h2.1 hn hx hf hl).mono ?_;rintro e w' ⟨he,hc⟩;exact ⟨he,h2.go hc⟩
theorem mJ {f:Nat} (hv:VSpec f) {w0 ws w1 w:World} {P:Nat→Prop} {cb:Nat} {m:MK} {s:CSt} (h:CT w0 P ws w1 cb m s) (hb:Below w1.heap.size w1 w) {x:NodT} {q:NS} (hn:IsNd w0 (fun _=>True) x q) (hx:x.size≤f+1) (hf:s.code.length+8*x.size≤1000000) (hl:s.lits.length+x.size≤100000):Calls Tryz.prog 82 #[.pointer (some ⟨cb,0,none⟩),ndV x q] w fun e w'=>e= .returned (.tuple #[])∧CT w0 P ws w' cb m (iV (aL f) x s):=by
 have h2:=h.below hb;refine (kY hv h2.1 hn hx hf hl).mono ?_;rintro e w' ⟨he,hc⟩;exact ⟨he,h2.go hc⟩
theorem cell8_of {w0 w:World} {P:Nat→Prop} {cb:Nat} {m:MK} {s:CSt} (h:CX w0 P w cb m s):w.cell? ⟨cb,8,none⟩=some (.int .i64 s.err):=by
 obtain ⟨lv,cv,nv,D,ps,hy,_⟩:=h;rw [hy.cell];rfl
theorem nB {w0 w:World} {P:Nat→Prop} {cb:Nat} {m:MK} {s:CSt} (h:CX w0 P w cb m s) {nt:Nat} (hn:s.temps=nt):w.cell? ⟨cb,2,none⟩=some (.int .i64 (nt:Int)):=by
 obtain ⟨lv,cv,nv,D,ps,hy,_⟩:=h;rw [hy.cell,←hn];rfl
theorem Z28 {P:Prop} (h:P:=by
 obtain ⟨lv,cv,nv,D,ps,hy,hfw⟩:=HH.out;have HYB:Hid (CY w0 P (w.alloc (.cells #[.int .i64 x.kind,.string x.text,.int .i64 x.num,.slice q.pn x.names.length q.cn,.slice q.pt x.temps.length q.ct,.slice q.pk x.kids.length q.ck] 25)) cb m s lv cv nv D ps):=J (hy.under (ba));obtain ⟨l,hl0⟩:=aE ((dS x s).1);obtain ⟨s1,hs1⟩:=aE ((dS x s).2);obtain ⟨g,hg⟩:=aE ((bS s1 l).1);obtain ⟨s2,hs2⟩:=aE ((bS s1 l).2);have HST:Hid (aL (f+1) x s=aB s2 6 (g:Int) 0):=J (by
  show dV (aL f) x s=_
  unfold dV;rw [if_neg (fun z=>z HER.out),if_pos Y7,hl0,hs1,hg,hs2])
 have hgr:=lH x s;have htm:=iY x s;have hpk:=eG s1 l;rw [hs1] at hgr htm;rw [hs2] at hpk;have HFW2:Hid (s2.temps≤24∧s2.names.length≤8+s2.temps):=J (by rw [hpk.1,hpk.2.1,hgr.names,htm];exact hfw);have HLL:Hid (s1.lits.length≤100000):=J (by have h1:=hgr.lits;have h2:=HBD.out.2.1;omega);have HF4:Hid (s2.code.length≤1000000):=J Y131;have HLT0:=J hl0;have HLS0:=J hs1;have HPL:=J hg;have HPS:=J hs2;have hcall:∀W,Below (w.alloc (.cells #[.int .i64 x.kind,.string x.text,.int .i64 x.num,.slice q.pn x.names.length q.cn,.slice q.pt x.temps.length q.ct,.slice q.pk x.kids.length q.ck] 25)).heap.size (w.alloc (.cells #[.int .i64 x.kind,.string x.text,.int .i64 x.num,.slice q.pn x.names.length q.cn,.slice q.pt x.temps.length q.ct,.slice q.pk x.kids.length q.ck] 25)) W→Calls Tryz.prog 78 #[.pointer (some ⟨cb,0,none⟩),ndV x q] W (dO w0 W P cb m lv cv nv D ps (dS x s).1 (dS x s).2):=fun W hb=>iL (HYB.out.under hb) HN.out HBD.out.2.2
 rw [hl0,hs1] at hcall;unfold ndV at hcall;have HCA:=J hcall;clear hy hfw hl0 hs1 hg hs2 hgr htm hpk e hcall;go_enter Tryz.func55,Tryz.ntmps55;go_wp2_with (first | (go_at_call 78;(with_reducible refine (HCA.out _ bel).mono ?_);rintro e w3 ⟨ql,rfl,hcy,hlt,htu⟩;have HCY:=J hcy;have HLT:=J hlt;have HTU:=J htu;have HDD:Hid (∀k,iK (w.alloc (.cells #[.int .i64 x.kind,.string x.text,.int .i64 x.num,.slice q.pn x.names.length q.cn,.slice q.pt x.temps.length q.ct,.slice q.pk x.kids.length q.ck] 25)) w3 k→(lv.ownBlock≠some k∧w0.heap.size≤k)∧∃cur,w3.heap[k]? =some (.cells cur 44 (0,0))):=J (fun k hk=>⟨⟨(HYB.out.fresh hk.1).2.1,(HYB.out.fresh hk.1).2.2.2.2.2⟩,hk.2.2⟩);clear hcy hlt htu) | (go_at_call 77;(with_reducible refine (iB HCY.out HLT.out HDD.out HLL.out).mono ?_);rw [HPL.out,HPS.out];rintro e w4 ⟨rfl,hcy,htu⟩;have HX4:Hid (CX w0 P w4 cb m s2):=J (by obtain ⟨lv',D',ps',hc9⟩:=hcy;exact ⟨lv',_,_,D',ps',hc9,HFW2.out⟩);have HTU4:=J htu;clear hcy htu) | (go_at_call 56;(with_reducible refine (bP HX4.out.ct bel 6 (g:Int) 0 HF4.out).mono ?_);rintro e w5 ⟨rfl,HX5⟩;replace HX5:=J HX5));go_returns;rw [HST.out];exact ⟨rfl,HX5.out.1,(((Turns.of_below (ba)).trans (HTU.out.outOf HYB.out.cbP)).trans HTU4.out).trans HX5.out.2⟩):P:=h
theorem nU {f:Nat} (hv:VSpec f):VSpec (f+1):=by
 intro x hx w0 w P cb m s q h hn hf hl;have HH:=J h;have HN:=J hn;have HV:=J hv;have HSZ:=J hx;have HTX:Hid (x.text.size≤bL):=J hn.ok.text;have HBD:Hid (s.code.length+8*x.size≤1000000∧s.lits.length+x.size≤100000∧x.size≤100000):=J ⟨hf,hl,by omega⟩;have HF0:Hid (s.code.length≤1000000):=J I;have HL0:Hid (s.lits.length≤100000):=J I;have HX0:Hid (CT w0 P w (w.alloc (.cells #[.int .i64 x.kind,.string x.text,.int .i64 x.num,.slice q.pn x.names.length q.cn,.slice q.pt x.temps.length q.ct,.slice q.pk x.kids.length q.ck] 25)) cb m s):=J (h.ct.below (ba));have k8:(w.alloc (.cells #[.int .i64 x.kind,.string x.text,.int .i64 x.num,.slice q.pn x.names.length q.cn,.slice q.pt x.temps.length q.ct,.slice q.pk x.kids.length q.ck] 25)).cell? ⟨cb,8,none⟩=some (.int .i64 s.err):=cell8_of HX0.out.1;clear h hn hv hx hf hl
 by_cases her:s.err=0
 ·have HER:=J her;rw [her] at k8;clear her;unfold ndV
  by_cases e1:x.kind=1
  ·have e:=e1;have q1:(x.kind==1)=true:=Y1;have q2:(x.kind==2)=false:=Y1;have q3:(x.kind==3)=false:=Y1;have q4:(x.kind==4)=false:=Y1;have q5:(x.kind==5)=false:=Y1;have q6:(x.kind==6)=false:=Y1;have q7:(x.kind==7)=false:=Y1;have q8:(x.kind==8)=false:=Y1;have q9:(x.kind==9)=false:=Y1;have q10:(x.kind==10)=false:=Y1;clear e1;exact Z28
  by_cases e2:x.kind=2
  ·have e:=e2;have q1:(x.kind==1)=false:=Y1;have q2:(x.kind==2)=true:=Y1;have q3:(x.kind==3)=false:=Y1;have q4:(x.kind==4)=false:=Y1;have q5:(x.kind==5)=false:=Y1;have q6:(x.kind==6)=false:=Y1;have q7:(x.kind==7)=false:=Y1;have q8:(x.kind==8)=false:=Y1;have q9:(x.kind==9)=false:=Y1;have q10:(x.kind==10)=false:=Y1;clear e1 e2;exact Z28
  by_cases e3:x.kind=3
  ·have e:=e3;have q1:(x.kind==1)=false:=Y1;have q2:(x.kind==2)=false:=Y1;have q3:(x.kind==3)=true:=Y1;have q4:(x.kind==4)=false:=Y1;have q5:(x.kind==5)=false:=Y1;have q6:(x.kind==6)=false:=Y1;have q7:(x.kind==7)=false:=Y1;have q8:(x.kind==8)=false:=Y1;have q9:(x.kind==9)=false:=Y1;have q10:(x.kind==10)=false:=Y1;clear e1 e2 e3;exact Z28
  by_cases e4:x.kind=4
  ·have e:=e4;have q1:(x.kind==1)=false:=Y1;have q2:(x.kind==2)=false:=Y1;have q3:(x.kind==3)=false:=Y1;have q4:(x.kind==4)=true:=Y1;have q5:(x.kind==5)=false:=Y1;have q6:(x.kind==6)=false:=Y1;have q7:(x.kind==7)=false:=Y1;have q8:(x.kind==8)=false:=Y1;have q9:(x.kind==9)=false:=Y1;have q10:(x.kind==10)=false:=Y1;clear e1 e2 e3 e4;exact Z28
  by_cases e5:x.kind=5
  ·have e:=e5;have q1:(x.kind==1)=false:=Y1;have q2:(x.kind==2)=false:=Y1;have q3:(x.kind==3)=false:=Y1;have q4:(x.kind==4)=false:=Y1;have q5:(x.kind==5)=true:=Y1;have q6:(x.kind==6)=false:=Y1;have q7:(x.kind==7)=false:=Y1;have q8:(x.kind==8)=false:=Y1;have q9:(x.kind==9)=false:=Y1;have q10:(x.kind==10)=false:=Y1;clear e1 e2 e3 e4 e5;have HST:Hid (aL (f+1) x s=gG s x.text):=J (by
    show dV (aL f) x s=_
    unfold dV;rw [if_neg (fun z=>z HER.out),if_neg Y7,if_pos e])
   skip
   clear e;go_enter Tryz.func55,Tryz.ntmps55;go_wp2_with (first | (go_at_call 79;(with_reducible refine (kX HX0.out bel x.text HTX.out HF0.out HL0.out).mono ?_);rintro e w5 ⟨rfl,HX5⟩;replace HX5:=J HX5));go_returns;rw [HST.out];exact ⟨rfl,HX5.out⟩
  by_cases e6:x.kind=6
  ·have e:=e6;have q1:(x.kind==1)=false:=Y1;have q2:(x.kind==2)=false:=Y1;have q3:(x.kind==3)=false:=Y1;have q4:(x.kind==4)=false:=Y1;have q5:(x.kind==5)=false:=Y1;have q6:(x.kind==6)=true:=Y1;have q7:(x.kind==7)=false:=Y1;have q8:(x.kind==8)=false:=Y1;have q9:(x.kind==9)=false:=Y1;have q10:(x.kind==10)=false:=Y1;clear e1 e2 e3 e4 e5 e6;have HST:Hid (aL (f+1) x s=fI (aL f) x s):=J (by
    show dV (aL f) x s=_
    unfold dV;rw [if_neg (fun z=>z HER.out),if_neg Y7,if_neg Y7,if_pos e])
   have hcall:∀{ws w1 W:World},CT w0 P ws w1 cb m s→Below w1.heap.size w1 W→Calls Tryz.prog 80 #[.pointer (some ⟨cb,0,none⟩),ndV x q] W fun e w'=>e= .returned (.tuple #[])∧CT w0 P ws w' cb m (fI (aL f) x s):=fun hc hb=>nT HV.out hc hb HN.out HSZ.out HBD.out.1 HBD.out.2.1
   unfold ndV at hcall;have HCA:Hid (∀{ws w1 W:World},CT w0 P ws w1 cb m s→Below w1.heap.size w1 W→_):=J hcall;clear hcall;clear e;go_enter Tryz.func55,Tryz.ntmps55;go_wp2_with (first | (go_at_call 80;(with_reducible refine (HCA.out HX0.out bel).mono ?_);rintro e w5 ⟨rfl,HX5⟩;replace HX5:=J HX5));go_returns;rw [HST.out];exact ⟨rfl,HX5.out⟩
  by_cases e7:x.kind=7
  ·have e:=e7;have q1:(x.kind==1)=false:=Y1;have q2:(x.kind==2)=false:=Y1;have q3:(x.kind==3)=false:=Y1;have q4:(x.kind==4)=false:=Y1;have q5:(x.kind==5)=false:=Y1;have q6:(x.kind==6)=false:=Y1;have q7:(x.kind==7)=true:=Y1;have q8:(x.kind==8)=false:=Y1;have q9:(x.kind==9)=false:=Y1;have q10:(x.kind==10)=false:=Y1;clear e1 e2 e3 e4 e5 e6 e7;have HST:Hid (aL (f+1) x s=iU (aL f) x s):=J (by
    show dV (aL f) x s=_
    unfold dV;rw [if_neg (fun z=>z HER.out),if_neg Y7,if_neg Y7,if_neg Y7,if_pos e])
   have hcall:∀{ws w1 W:World},CT w0 P ws w1 cb m s→Below w1.heap.size w1 W→Calls Tryz.prog 81 #[.pointer (some ⟨cb,0,none⟩),ndV x q] W fun e w'=>e= .returned (.tuple #[])∧CT w0 P ws w' cb m (iU (aL f) x s):=fun hc hb=>send_at HV.out hc hb HN.out HSZ.out HBD.out.1 HBD.out.2.1
   unfold ndV at hcall;have HCA:Hid (∀{ws w1 W:World},CT w0 P ws w1 cb m s→Below w1.heap.size w1 W→_):=J hcall;clear hcall;clear e;go_enter Tryz.func55,Tryz.ntmps55;go_wp2_with (first | (go_at_call 81;(with_reducible refine (HCA.out HX0.out bel).mono ?_);rintro e w5 ⟨rfl,HX5⟩;replace HX5:=J HX5));go_returns;rw [HST.out];exact ⟨rfl,HX5.out⟩
  by_cases e8:x.kind=8
  ·have e:=e8;have q1:(x.kind==1)=false:=Y1;have q2:(x.kind==2)=false:=Y1;have q3:(x.kind==3)=false:=Y1;have q4:(x.kind==4)=false:=Y1;have q5:(x.kind==5)=false:=Y1;have q6:(x.kind==6)=false:=Y1;have q7:(x.kind==7)=false:=Y1;have q8:(x.kind==8)=true:=Y1;have q9:(x.kind==9)=false:=Y1;have q10:(x.kind==10)=false:=Y1;clear e1 e2 e3 e4 e5 e6 e7 e8;have HST:Hid (aL (f+1) x s=iV (aL f) x s):=J (by
    show dV (aL f) x s=_
    unfold dV;rw [if_neg (fun z=>z HER.out),if_neg Y7,if_neg Y7,if_neg Y7,if_neg Y7,if_pos e])
   have hcall:∀{ws w1 W:World},CT w0 P ws w1 cb m s→Below w1.heap.size w1 W→Calls Tryz.prog 82 #[.pointer (some ⟨cb,0,none⟩),ndV x q] W fun e w'=>e= .returned (.tuple #[])∧CT w0 P ws w' cb m (iV (aL f) x s):=fun hc hb=>mJ HV.out hc hb HN.out HSZ.out HBD.out.1 HBD.out.2.1
   unfold ndV at hcall;have HCA:Hid (∀{ws w1 W:World},CT w0 P ws w1 cb m s→Below w1.heap.size w1 W→_):=J hcall;clear hcall;clear e;go_enter Tryz.func55,Tryz.ntmps55;go_wp2_with (first | (go_at_call 82;(with_reducible refine (HCA.out HX0.out bel).mono ?_);rintro e w5 ⟨rfl,HX5⟩;replace HX5:=J HX5));go_returns;rw [HST.out];exact ⟨rfl,HX5.out⟩
  by_cases e9:x.kind=9
  ·have e:=e9;have q1:(x.kind==1)=false:=Y1;have q2:(x.kind==2)=false:=Y1;have q3:(x.kind==3)=false:=Y1;have q4:(x.kind==4)=false:=Y1;have q5:(x.kind==5)=false:=Y1;have q6:(x.kind==6)=false:=Y1;have q7:(x.kind==7)=false:=Y1;have q8:(x.kind==8)=false:=Y1;have q9:(x.kind==9)=true:=Y1;have q10:(x.kind==10)=false:=Y1;clear e1 e2 e3 e4 e5 e6 e7 e8 e9;obtain ⟨nn,hnn⟩:=aE x.names.length;obtain ⟨nt,hnt⟩:=aE s.temps;have HNT:=J hnt;have HNN:=J hnn;obtain ⟨s1,hs1⟩:∃s1,aB s 18 (nt:Int) (nn:Int)=s1:=⟨_,rfl⟩;obtain ⟨s2,hs2⟩:=aE (cN (aL f) x (aB s1 16 0 0));have HST:Hid (aL (f+1) x s=toP (aB s2 19 0 0) s1.code.length 16 (aB s2 19 0 0).code.length):=J (by
    show dV (aL f) x s=_
    unfold dV;rw [if_neg (fun z=>z HER.out),if_neg Y7,if_neg Y7,if_neg Y7,if_neg Y7,if_neg Y7,if_pos e];unfold iW;dsimp only;rw [hnt,hnn,hs1,hs2])
   have hgr:=eQ (dB f) HSZ.out (aB s1 16 0 0);have htm:=eS (jG f) x (aB s1 16 0 0);rw [hs2] at hgr htm;have e1:s1.code.length=s.code.length+1:=by rw [←hs1];exact aM _ _ _ _
   have e2:(aB s1 16 0 0).code.length=s.code.length+2:=by rw [aM,e1]
   have e3:(aB s1 16 0 0).lits=s.lits:=by rw [←hs1];rfl
   have hxp:=x.size_pos;have HF3:Hid (s1.code.length≤1000000):=J (by have h1:=HBD.out.1;omega);have HF7:Hid (s2.code.length≤1000000):=J (by have h1:=HBD.out.1;have h2:=hgr.code;omega);have HA8:Hid (s1.code.length<(aB s2 19 0 0).code.length):=J (by have h2:=htm.code;rw [aM];omega);have HF8:Hid ((aB s2 19 0 0).code.length≤1000000):=J (by have h1:=HBD.out.1;have h2:=hgr.code;rw [aM];omega);have hbo:∀{P':Nat→Prop} {ws w1 W:World},CT w0 P' ws w1 cb m (aB s1 16 0 0)→Below w1.heap.size w1 W→Calls Tryz.prog 84 #[.pointer (some ⟨cb,0,none⟩),ndV x q] W fun e w'=>e= .returned (.tuple #[])∧CT w0 P' ws w' cb m s2:=fun hc hb=>by
    rw [←hs2];have h2:=hc.below hb;refine (eO HV.out h2.1 HN.out HSZ.out (by have h1:=HBD.out.1;omega) (by rw [e3];exact HBD.out.2.1)).mono ?_;rintro e w' ⟨he,hc⟩;exact ⟨he,h2.go hc⟩
   unfold ndV at hbo;have hbe:Below w.heap.size w (w.alloc (.cells #[.int .i64 x.kind,.string x.text,.int .i64 x.num,.slice q.pn x.names.length q.cn,.slice q.pt x.temps.length q.ct,.slice q.pk x.kids.length q.ck] 25)):=ba;have HX:Hid (CT w0 (fun k=>P k∨(w.heap.size≤k∧k<(w.alloc (.cells #[.int .i64 x.kind,.string x.text,.int .i64 x.num,.slice q.pn x.names.length q.cn,.slice q.pt x.temps.length q.ct,.slice q.pk x.kids.length q.ck] 25)).heap.size)) (w.alloc (.cells #[.int .i64 x.kind,.string x.text,.int .i64 x.num,.slice q.pn x.names.length q.cn,.slice q.pt x.temps.length q.ct,.slice q.pk x.kids.length q.ck] 25)) (w.alloc (.cells #[.int .i64 x.kind,.string x.text,.int .i64 x.num,.slice q.pn x.names.length q.cn,.slice q.pt x.temps.length q.ct,.slice q.pk x.kids.length q.ck] 25)) cb m s):=J (HH.out.keep hbe).ct;have HXB:Hid ((w.alloc (.cells #[.int .i64 x.kind,.string x.text,.int .i64 x.num,.slice q.pn x.names.length q.cn,.slice q.pt x.temps.length q.ct,.slice q.pk x.kids.length q.ck] 25)).heap[w.heap.size]? =some (.cells #[.int .i64 x.kind,.string x.text,.int .i64 x.num,.slice q.pn x.names.length q.cn,.slice q.pt x.temps.length q.ct,.slice q.pk x.kids.length q.ck] 25 (0,0))):=J (heap_alloc_new w _);have HBX:=J (aA HXB.out);have HTS:Hid (Turns (cP P) w (w.alloc (.cells #[.int .i64 x.kind,.string x.text,.int .i64 x.num,.slice q.pn x.names.length q.cn,.slice q.pt x.temps.length q.ct,.slice q.pk x.kids.length q.ck] 25))):=J (Turns.of_below hbe);obtain ⟨Pk,hPk⟩:∃Pk:Nat→Prop,(fun k=>P k∨(w.heap.size≤k∧k<(w.alloc (.cells #[.int .i64 x.kind,.string x.text,.int .i64 x.num,.slice q.pn x.names.length q.cn,.slice q.pt x.temps.length q.ct,.slice q.pk x.kids.length q.ck] 25)).heap.size))=Pk:=⟨_,rfl⟩;rw [hPk] at HX;have HPX:Hid (Pk w.heap.size):=J Y43;have HSUB:Hid (∀k,P k→Pk k):=J (fun k z=>by rw [←hPk];exact .inl z);clear hbe hPk;have HS1:=J hs1;rw [hnn] at hbo HXB HX HTS HBX k8 ⊢;have HBO:Hid (∀{P':Nat→Prop} {ws w1 W:World},CT w0 P' ws w1 cb m (aB s1 16 0 0)→Below w1.heap.size w1 W→_):=J hbo;have xb9:=(HX.out.2.block w.heap.size HBX.out (fun z=>z HPX.out)).trans HXB.out;obtain ⟨c0,c1,c2,c3,c4,c5⟩:=cc6 xb9;clear xb9;have a2:(w.alloc (.cells #[.int .i64 x.kind,.string x.text,.int .i64 x.num,.slice q.pn nn q.cn,.slice q.pt x.temps.length q.ct,.slice q.pk x.kids.length q.ck] 25)).cell? ⟨cb,2,none⟩=some (.int .i64 (nt:Int)):=nB HX.out.1 HNT.out;clear hbo hgr htm e1 e2 e3 hxp hs1 hs2 hnn hnt e;go_enter Tryz.func55,Tryz.ntmps55
   go_upto_region 18 with fail
   go_region_held3 (fun w'=>w'.cell? ⟨cb,2,none⟩=some (.int .i64 (nt:Int))∧w'.cell? ⟨w.heap.size,3,none⟩=some (.slice q.pn nn q.cn)) (first | assumption | (simp [go_sem];done) | (simp [go_sem, *];done)) (first | (go_at_call 56;(with_reducible refine (bP HX.out bel 18 (nt:Int) (nn:Int) HF0.out).mono ?_);rintro e w3 ⟨rfl,hx3⟩;have a2:w3.cell? ⟨cb,2,none⟩=some (.int .i64 (nt:Int)):=nB hx3.1 HNT.out;rw [HS1.out] at hx3;have HX3:=J hx3;have xb9:=(hx3.2.block w.heap.size HBX.out (fun z=>z HPX.out)).trans HXB.out;obtain ⟨c0,c1,c2,c3,c4,c5⟩:=cc6 xb9;clear xb9;clear hx3))
   go_wp2_with (first | (go_at_call 83;(with_reducible refine (jU HX3.out bel 16 HF3.out).mono ?_);rintro e w6 ⟨P1,k1,rfl,hcl,hp1,hq1,hx6,ht6⟩;have HCL:=J hcl;have HP1:=J hp1;have HQ1:=J hq1;have HX6:=J hx6;have HT6:=J ht6;have xb9:=(ht6.block w.heap.size HBX.out (fun z=>z HPX.out)).trans HXB.out;obtain ⟨c0,c1,c2,c3,c4,c5⟩:=cc6 xb9;clear xb9;unfold sK;clear hcl hp1 hq1 hx6 ht6) | (go_at_call 84;(with_reducible refine (HBO.out HX6.out.ct bel).mono ?_);rintro e w7 ⟨rfl,HX7⟩;replace HX7:=J HX7) | (go_at_call 56;(with_reducible refine (bP HX7.out bel 19 0 0 HF7.out).mono ?_);rintro e w8 ⟨rfl,hx3⟩;have HX8:=J hx3;have HC8:=J (HCL.out.turns hx3.2 (fun k hk z=>z (HQ1.out k hk)));clear hx3) | (go_at_call 102;(with_reducible refine (jV HX8.out bel HC8.out HQ1.out HA8.out HF8.out).mono ?_);rintro e w9 ⟨rfl,HX9⟩;replace HX9:=J HX9));go_returns;rw [HST.out];exact ⟨rfl,CT.deep (HTS.out.trans (HT6.out.mono (fun k _ z q=>z (HSUB.out k q)))) HX9.out (fun k q=>HP1.out k (HSUB.out k q)) HH.out.low⟩
  by_cases e10:x.kind=10
  ·have e:=e10;have q1:(x.kind==1)=false:=Y1;have q2:(x.kind==2)=false:=Y1;have q3:(x.kind==3)=false:=Y1;have q4:(x.kind==4)=false:=Y1;have q5:(x.kind==5)=false:=Y1;have q6:(x.kind==6)=false:=Y1;have q7:(x.kind==7)=false:=Y1;have q8:(x.kind==8)=false:=Y1;have q9:(x.kind==9)=false:=Y1;have q10:(x.kind==10)=true:=Y1;clear e1 e2 e3 e4 e5 e6 e7 e8 e9 e10;have hone:∀{P':Nat→Prop} {ws w1 W:World},CT w0 P' ws w1 cb m s→Below w1.heap.size w1 W→Calls Tryz.prog 85 #[.pointer (some ⟨cb,0,none⟩),ndV x q] W fun e w'=>e= .returned (.bool (x.kids.length==1))∧CT w0 P' ws w' cb m (oX x s):=fun hc hb=>by
    have h2:=hc.below hb;refine (rO h2.1 HN.out.ok).mono ?_;rintro e w' ⟨he,hc⟩;exact ⟨he,h2.go hc⟩
   by_cases e1:x.kids.length=1
   ·obtain ⟨kd,hkd⟩:=List.length_eq_one_iff.1 e1;obtain ⟨b,off,q',hpk,hbl,_,hc6,hkn⟩:=HN.out.kid (i:=0) I;rw [show x.kids[0]'I=kd from by simp [hkd],Nat.zero_mul,Nat.add_zero] at hc6;rw [show x.kids[0]'I=kd from by simp [hkd]] at hkn;have hsz:=iC hkd;have HST:Hid (aL (f+1) x s=aB (aL f kd s) 20 0 0):=J (by
     show dV (aL f) x s=_
     unfold dV;rw [if_neg (fun z=>z HER.out),if_neg Y7,if_neg Y7,if_neg Y7,if_neg Y7,if_neg Y7,if_neg Y7,if_pos e,hkd])
    have hgr:=dB f kd s (by have h9:=HSZ.out;omega);have HF5:Hid ((aL f kd s).code.length≤1000000):=J (by have h1:=hgr.code;have h2:=HBD.out.1;omega);have hva:∀{P':Nat→Prop} {ws w1 W:World},CT w0 P' ws w1 cb m s→Below w1.heap.size w1 W→Calls Tryz.prog 55 #[.pointer (some ⟨cb,0,none⟩),ndV kd q'] W fun e w'=>e= .returned (.tuple #[])∧CT w0 P' ws w' cb m (aL f kd s):=fun hc hb=>HV.out.at_ (by have h9:=HSZ.out;omega) hc hb hkn (by have h9:=HBD.out.1;omega) (by have h9:=HBD.out.2.1;omega)
    have hbe:Below w.heap.size w (w.alloc (.cells #[.int .i64 x.kind,.string x.text,.int .i64 x.num,.slice q.pn x.names.length q.cn,.slice q.pt x.temps.length q.ct,.slice q.pk x.kids.length q.ck] 25)):=ba;have HX:Hid (CT w0 (fun k=>P k∨(w.heap.size≤k∧k<(w.alloc (.cells #[.int .i64 x.kind,.string x.text,.int .i64 x.num,.slice q.pn x.names.length q.cn,.slice q.pt x.temps.length q.ct,.slice q.pk x.kids.length q.ck] 25)).heap.size)) (w.alloc (.cells #[.int .i64 x.kind,.string x.text,.int .i64 x.num,.slice q.pn x.names.length q.cn,.slice q.pt x.temps.length q.ct,.slice q.pk x.kids.length q.ck] 25)) (w.alloc (.cells #[.int .i64 x.kind,.string x.text,.int .i64 x.num,.slice q.pn x.names.length q.cn,.slice q.pt x.temps.length q.ct,.slice q.pk x.kids.length q.ck] 25)) cb m s):=J (HH.out.keep hbe).ct;have HXB:Hid ((w.alloc (.cells #[.int .i64 x.kind,.string x.text,.int .i64 x.num,.slice q.pn x.names.length q.cn,.slice q.pt x.temps.length q.ct,.slice q.pk x.kids.length q.ck] 25)).heap[w.heap.size]? =some (.cells #[.int .i64 x.kind,.string x.text,.int .i64 x.num,.slice q.pn x.names.length q.cn,.slice q.pt x.temps.length q.ct,.slice q.pk x.kids.length q.ck] 25 (0,0))):=J (heap_alloc_new w _);have HBX:=J (aA HXB.out);have HTS:Hid (Turns (cP P) w (w.alloc (.cells #[.int .i64 x.kind,.string x.text,.int .i64 x.num,.slice q.pn x.names.length q.cn,.slice q.pt x.temps.length q.ct,.slice q.pk x.kids.length q.ck] 25))):=J (Turns.of_below hbe);obtain ⟨Pk,hPk⟩:∃Pk:Nat→Prop,(fun k=>P k∨(w.heap.size≤k∧k<(w.alloc (.cells #[.int .i64 x.kind,.string x.text,.int .i64 x.num,.slice q.pn x.names.length q.cn,.slice q.pt x.temps.length q.ct,.slice q.pk x.kids.length q.ck] 25)).heap.size))=Pk:=⟨_,rfl⟩;rw [hPk] at HX;have HPX:Hid (Pk w.heap.size):=J Y43;have HSUB:Hid (∀k,P k→Pk k):=J (fun k z=>by rw [←hPk];exact .inl z);clear hbe hPk;have HK0:=J hc6;have HBL:=J hbl;rw [show oX x s=s from by unfold oX;rw [if_pos e1]] at hone;unfold ndV at hone hva;rw [e1,hpk] at hone HXB HX HTS HBX k8 ⊢;have HONE:Hid (∀{P':Nat→Prop} {ws w1 W:World},CT w0 P' ws w1 cb m s→Below w1.heap.size w1 W→_):=J hone;have HVA:Hid (∀{P':Nat→Prop} {ws w1 W:World},CT w0 P' ws w1 cb m s→Below w1.heap.size w1 W→_):=J hva;clear hone hva hgr hsz hkn hc6 hbl hpk hkd e1 e;go_enter Tryz.func55,Tryz.ntmps55;go_wp2_with (first | (go_at_call 85;(with_reducible refine (HONE.out HX.out bel).mono ?_);rintro e w3 ⟨rfl,hx3⟩;have HX3:=J hx3;have xb9:=(hx3.2.block w.heap.size HBX.out (fun z=>z HPX.out)).trans HXB.out;have c5:w3.cell? ⟨w.heap.size,5,none⟩=some (.slice (some ⟨b,off,none⟩) 1 q.ck):=aC xb9 rfl;have hk0:=HK0.out.same (hx3.1.stat.block b HBL.out);have d0:=hk0.c0;have d1:=hk0.c1;have d2:=hk0.c2;have d3:=hk0.c3;have d4:=hk0.c4;have d5:=hk0.c5;have hb9:b<w3.heap.size:=aN HBL.out hx3.1.stat.size;clear xb9 hk0 hx3) | (go_at_call 55;(with_reducible refine (HVA.out HX3.out bel).mono ?_);rintro e w5 ⟨rfl,HX5⟩;replace HX5:=J HX5) | (go_at_call 56;(with_reducible refine (bP HX5.out bel 20 0 0 HF5.out).mono ?_);rintro e w6 ⟨rfl,HX6⟩;replace HX6:=J HX6));go_returns;rw [HST.out];exact ⟨rfl,CT.deep HTS.out HX6.out HSUB.out HH.out.low⟩
   ·have HST:Hid (aL (f+1) x s=aG s eB 1):=J (by
     show dV (aL f) x s=_
     unfold dV;rw [if_neg (fun z=>z HER.out),if_neg Y7,if_neg Y7,if_neg Y7,if_neg Y7,if_neg Y7,if_neg Y7,if_pos e]
     split
     ·rename_i k hk;exact absurd (by rw [hk];rfl) e1
     ·rfl)
    rw [show oX x s=aG s eB 1 from by unfold oX;rw [if_neg e1],show (x.kids.length==1)=false from by simpa using e1] at hone;unfold ndV at hone;have HONE:Hid (∀{P':Nat→Prop} {ws w1 W:World},CT w0 P' ws w1 cb m s→Below w1.heap.size w1 W→_):=J hone;clear hone e1 e;go_enter Tryz.func55,Tryz.ntmps55;go_wp2_with (first | (go_at_call 85;(with_reducible refine (HONE.out HX0.out bel).mono ?_);rintro e w3 ⟨rfl,HX3⟩;replace HX3:=J HX3));go_returns;rw [HST.out];exact ⟨rfl,HX3.out⟩
  have q1:(x.kind==1)=false:=Y29;have q2:(x.kind==2)=false:=Y148;have q3:(x.kind==3)=false:=Y147;have q4:(x.kind==4)=false:=by simpa using e4
  have q5:(x.kind==5)=false:=by simpa using e5
  have q6:(x.kind==6)=false:=by simpa using e6
  have q7:(x.kind==7)=false:=Y118;have q8:(x.kind==8)=false:=by simpa using e8
  have q9:(x.kind==9)=false:=by simpa using e9
  have q10:(x.kind==10)=false:=Y26;have HST:Hid (aL (f+1) x s=aG s eB 1):=J (by
   show dV (aL f) x s=_
   unfold dV;rw [if_neg (fun z=>z HER.out),if_neg (fun z=>z.elim e1 (fun z=>z.elim e2 (fun z=>z.elim e3 e4))),if_neg e5,if_neg e6,if_neg e7,if_neg e8,if_neg e9,if_neg e10])
  skip
  clear e1 e2 e3 e4 e5 e6 e7 e8 e9 e10;go_enter Tryz.func55,Tryz.ntmps55;go_wp2_with (first | (go_at_call 76;(with_reducible refine (cO HX0.out bel eB Y3 1).mono ?_);rintro e w5 ⟨rfl,HX5⟩;replace HX5:=J HX5));go_returns;rw [HST.out];exact ⟨rfl,HX5.out⟩
 ·have HST:Hid (aL (f+1) x s=s):=J (by
   show dV (aL f) x s=_
   unfold dV;rw [if_pos her])
  have e1:(s.err==0)=false:=by simpa using her
  unfold ndV;clear her;go_enter Tryz.func55,Tryz.ntmps55;go_wp2_with fail;go_returns;rw [HST.out];exact ⟨rfl,HX0.out⟩
theorem vspec:∀f,VSpec f
 | 0=>fun x hx=>by have:=x.size_pos;omega
 | f+1=>nU (vspec f)
end Go.Proofs.YtnojndgmgkgnpaaGreat
