/- Chapter 10: words and contracts for the law. -/
import Derived.Test.YtnojndgmgkgnpaaGreatQ12
import Derived.Laws.AppendOwnNone
set_option maxRecDepth 100000
set_option maxHeartbeats 40000000
set_option linter.unusedVariables false
set_option linter.unusedSimpArgs false
namespace Go.Proofs.YtnojndgmgkgnpaaGreat
open Go.ChangeShapes Go.WideShapes Go.ChangeAt Go.RowKit Go.Deep Go.Joins Go.Maps
def yJ (v:Value) (s:PSt):Array Value:=#[v,.int .i64 (s.i:Int),.int .i64 s.deep,.int .i64 s.e,.int .i64 s.at_]
theorem PW.put {w:World} {pb:Nat} {v:Value} {T:Tks} {s:PSt} {s':PSt} (h:PW w pb v T s) (k:Nat) (x:Value) (hb:(yJ v s).set! k x=yJ v s') (hl:s'.i≤T.length+1):PT pb v T w (w.setCell ⟨pb,k,none⟩ x) s':=by
 have ht:Turns (atP pb) w (w.setCell ⟨pb,k,none⟩ x):=(Turns.refl _ _).setCell ⟨pb,k,none⟩ x (.inl rfl);refine ⟨⟨?_,aJ h.row ht.size (fun j hj=>ht.block j (World.ownsRow.lt h.row j hj).2 (h.ne j hj)),hl⟩,ht⟩;have hbx:w.heap[pb]? =some (.cells (yJ v s) 67 (0,0)):=h.box;rw [heap_setCell_same w pb k _ _ _ hbx]
 show some (Obj.cells ((yJ v s).set! k x) _ _)=some (Obj.cells (yJ v s') _ _)
 rw [hb]
theorem gO {ws w1 w:World} {pb:Nat} {v:Value} {T:Tks} {s:PSt} (h:PT pb v T ws w1 s) (hb:Below w1.heap.size w1 w) (hok:TokOk T) {t:Lx.ATok} (ht:ahd T s 0=t):Calls Tryz.prog 53 #[.pointer (some ⟨pb,0,none⟩),.int .i64 0] w fun e w'=>e= .returned (.agg #[.int .i64 t.kind,.string (tx t),.int .i64 t.num,.int .i64 (t.at_:Int)])∧PT pb v T ws w' (s):=by
 have h2:=h.below hb;refine (vB h2.1 hok).mono ?_;rintro e w' ⟨he,hc⟩;exact ⟨by rw [he,←ht];rfl,h2.below hc⟩
theorem lR {ws w1 w:World} {pb:Nat} {v:Value} {T:Tks} {s:PSt} (h:PT pb v T ws w1 s) (hb:Below w1.heap.size w1 w) (hok:TokOk T) {t:Lx.ATok} (ht:ahd T s 1=t):Calls Tryz.prog 53 #[.pointer (some ⟨pb,0,none⟩),.int .i64 1] w fun e w'=>e= .returned (.agg #[.int .i64 t.kind,.string (tx t),.int .i64 t.num,.int .i64 (t.at_:Int)])∧PT pb v T ws w' (s):=by
 have h2:=h.below hb;refine (vC h2.1 hok).mono ?_;rintro e w' ⟨he,hc⟩;exact ⟨by rw [he,←ht];rfl,h2.below hc⟩
theorem iR {w:World} {pb:Nat} {v:Value} {T:Tks} {s:PSt} (h:PW w pb v T s) (t:Lx.ATok) (x:Int):Calls Tryz.prog 51 #[.pointer (some ⟨pb,0,none⟩),.agg #[.int .i64 t.kind,.string (tx t),.int .i64 t.num,.int .i64 (t.at_:Int)],.int .i64 x] w fun e w'=>e= .returned (.tuple #[])∧PT pb v T w w' (cH s t x):=by
 have HA0:Hid (PW (w.alloc (.cells #[.int .i64 t.kind,.string (tx t),.int .i64 t.num,.int .i64 (t.at_:Int)] 72)) pb v T s∧Below w.heap.size w (w.alloc (.cells #[.int .i64 t.kind,.string (tx t),.int .i64 t.num,.int .i64 (t.at_:Int)] 72))∧(w.alloc (.cells #[.int .i64 t.kind,.string (tx t),.int .i64 t.num,.int .i64 (t.at_:Int)] 72)).heap[w.heap.size]? =some (.cells #[.int .i64 t.kind,.string (tx t),.int .i64 t.num,.int .i64 (t.at_:Int)] 72 (0,0))∧pb≠w.heap.size):=J ⟨h.below (ba),ba,heap_alloc_new w _,by have:=aA h.box;omega⟩;clear h;go_enter Tryz.func51,Tryz.ntmps51
 go_upto_region 1 with fail
 have hx:=HA0.out;obtain ⟨wa,hwa⟩:∃wa,w.alloc (.cells #[.int .i64 t.kind,.string (tx t),.int .i64 t.num,.int .i64 (t.at_:Int)] 72)=wa:=⟨_,rfl⟩;rw [hwa] at hx ⊢;clear hwa;obtain ⟨ha,hb,hm,hne⟩:=hx;have m3:wa.cell? ⟨w.heap.size,3,none⟩=some (.int .i64 (t.at_:Int)):=aC hm rfl;have k3:wa.cell? ⟨pb,3,none⟩=some (.int .i64 s.e):=ha.cell rfl;have f3:=ha.free 3;have k4:wa.cell? ⟨pb,4,none⟩=some (.int .i64 s.at_):=ha.cell rfl;have f4:=ha.free 4;have HA:=J ha;have HB:=J hb;clear ha hb hm
 by_cases he:s.e=0
 ·have HE:=J he;rw [he] at k3;clear he;go_wp2_with fail;go_returns;have h1:PT pb v T wa (wa.setCell ⟨pb,3,none⟩ (.int .i64 x)) {s with e:=x}:=HA.out.put 3 _ rfl HA.out.le;have h2:PT pb v T (wa.setCell ⟨pb,3,none⟩ (.int .i64 x)) ((wa.setCell ⟨pb,3,none⟩ (.int .i64 x)).setCell ⟨pb,4,none⟩ (.int .i64 (t.at_:Int))) {s with e:=x,at_:=(t.at_:Int)}:=h1.1.put 4 _ rfl HA.out.le;rw [show cH s t x={s with e:=x,at_:=(t.at_:Int)} from by unfold cH;rw [if_pos HE.out]];exact ⟨rfl,h2.1,((Turns.of_below HB.out).trans h1.2).trans h2.2⟩
 ·have HE:=J he;have e1:(s.e==0)=false:=Y20;clear he;go_wp2_with fail;go_returns;rw [show cH s t x=s from by unfold cH;rw [if_neg HE.out]];exact ⟨rfl,HA.out,Turns.of_below HB.out⟩
theorem pN {ws w1 w:World} {pb:Nat} {v:Value} {T:Tks} {s:PSt} (h:PT pb v T ws w1 s) (hb:Below w1.heap.size w1 w) (t:Lx.ATok) (x:Int):Calls Tryz.prog 51 #[.pointer (some ⟨pb,0,none⟩),.agg #[.int .i64 t.kind,.string (tx t),.int .i64 t.num,.int .i64 (t.at_:Int)],.int .i64 x] w fun e w'=>e= .returned (.tuple #[])∧PT pb v T ws w' (cH s t x):=by
 have h2:=h.below hb;refine (iR h2.1 t x).mono ?_;rintro e w' ⟨he,hc⟩;exact ⟨he,h2.go hc⟩
theorem is_any {w:World} {pb:Nat} {v:Value} {T:Tks} {s:PSt} (h:PW w pb v T s) (hok:TokOk T) (k:Int) (text:ByteArray):Calls Tryz.prog 48 #[.pointer (some ⟨pb,0,none⟩),.int .i64 k,.string text] w fun e w'=>e= .returned (.bool (isT T s k text))∧PT pb v T w w' (s):=by
 have HH:=J h;have HOK:=J hok;obtain ⟨t,ht⟩:=aE (ahd T s 0);have HT:=J ht;have HV:Hid (isT T s k text=(s.e==0 && (t.kind==k && (text.toList==[] || (tx t).toList==text.toList)))):=J (by unfold isT;rw [ht]);clear h hok ht;go_enter Tryz.func48,Tryz.ntmps48
 go_upto_region 2 with (first | (go_at_call 53;(with_reducible refine (gO HH.out.pt bel HOK.out HT.out).mono ?_);rintro e w2 ⟨rfl,HX2⟩;replace HX2:=J HX2))
 have hb3:Below w2.heap.size w2 (w2.alloc (.cells #[.int .i64 t.kind,.string (tx t),.int .i64 t.num,.int .i64 (t.at_:Int)] 72)):=ba;have hx3:=HX2.out.below hb3;have HX3:=J hx3;have hm:=heap_alloc_new w2 (.cells #[.int .i64 t.kind,.string (tx t),.int .i64 t.num,.int .i64 (t.at_:Int)] 72);have k3:(w2.alloc (.cells #[.int .i64 t.kind,.string (tx t),.int .i64 t.num,.int .i64 (t.at_:Int)] 72)).cell? ⟨pb,3,none⟩=some (.int .i64 s.e):=hx3.1.cell rfl;have m0:(w2.alloc (.cells #[.int .i64 t.kind,.string (tx t),.int .i64 t.num,.int .i64 (t.at_:Int)] 72)).cell? ⟨w2.heap.size,0,none⟩=some (.int .i64 t.kind):=aC hm rfl;have m1:(w2.alloc (.cells #[.int .i64 t.kind,.string (tx t),.int .i64 t.num,.int .i64 (t.at_:Int)] 72)).cell? ⟨w2.heap.size,1,none⟩=some (.string (tx t)):=aC hm rfl;obtain ⟨w3,hw3⟩:∃w3,w2.alloc (.cells #[.int .i64 t.kind,.string (tx t),.int .i64 t.num,.int .i64 (t.at_:Int)] 72)=w3:=⟨_,rfl⟩;rw [hw3] at k3 m0 m1 HX3 ⊢;clear hb3 hx3 hm hw3
 cases b1:s.e==0 with
 | false=>
  go_wp2_with fail;go_ret;exact ⟨by rw [HV.out,b1];rfl,HX3.out⟩
 | true=>
  cases b2:t.kind==k with
  | false=>
   go_wp2_with fail;go_ret;exact ⟨by rw [HV.out,b1,b2];rfl,HX3.out⟩
  | true=>
   cases b3:text.toList==[] with
   | true=>
    have b5:text.toList=[]:=beq_iff_eq.1 b3;go_wp2_with fail;go_ret;exact ⟨by rw [HV.out,b1,b2,b3];rfl,HX3.out⟩
   | false=>
    have b5:¬text.toList=[]:=aW b3
    cases b4:(tx t).toList==text.toList with
    | true=>
     go_wp2_with fail;go_ret;exact ⟨by rw [HV.out,b1,b2,b3,b4];rfl,HX3.out⟩
    | false=>
     go_wp2_with fail;go_ret;exact ⟨by rw [HV.out,b1,b2,b3,b4];rfl,HX3.out⟩
theorem bD {ws w1 w:World} {pb:Nat} {v:Value} {T:Tks} {s:PSt} (h:PT pb v T ws w1 s) (hb:Below w1.heap.size w1 w) (hok:TokOk T) (k:Int) (text:ByteArray):Calls Tryz.prog 48 #[.pointer (some ⟨pb,0,none⟩),.int .i64 k,.string text] w fun e w'=>e= .returned (.bool (isT T s k text))∧PT pb v T ws w' (s):=by
 have h2:=h.below hb;refine (is_any h2.1 hok k text).mono ?_;rintro e w' ⟨he,hc⟩;exact ⟨he,h2.go hc⟩
theorem eL {T:Tks} {s:PSt} {k:Int} {text:ByteArray} (h:isT T s k text=true) (hok:TokOk T) (hk:k≠0):s.i<T.length:=by
 unfold isT at h;simp only [Bool.and_eq_true,beq_iff_eq] at h
 rcases Nat.lt_or_ge s.i T.length with q | q
 ·exact q
 ·have:=h.2.1;unfold ahd at this;rw [if_pos I,hok.last] at this;exact absurd this.symm hk
theorem gK {T:Tks} {s:PSt} {k:Nat} (hok:TokOk T):ahd T s k∈T:=by
 have hp:=hok.pos;have hg:∀j,j<T.length→T.getD j fG∈T:=fun j hj=>by
  rw [List.getD_eq_getElem?_getD,List.getElem?_eq_getElem hj];exact List.getElem_mem hj
 unfold ahd
 split
 ·exact hg _ I
 ·exact hg _ I
theorem PT.own {w w1 w2 w3:World} {pb b:Nat} {v:Value} {T:Tks} {s:PSt} (h01:Below w.heap.size w w1) (h:PT pb v T w1 w2 s) (ht:Turns (fun k=>k=b) w2 w3) (hb:w.heap.size≤b) (hne:pb≠b) (hv:v.ownBlock≠some b):PT pb v T w w3 s:=by
 refine ⟨⟨(ht.block _ (aA h.1.box) (fun e=>hne e)).trans h.1.box,aJ h.1.row ht.size (fun k hk=>ht.block k (World.ownsRow.lt h.1.row k hk).2 (fun e=>hv (by rw [←e];exact hk))),h.1.le⟩,?_⟩;have h2:Turns (atP pb) w w2:=(Turns.of_below h01).trans h.2;refine ⟨ht.os.trans h2.os,ht.tape.trans h2.tape,ht.output.trans h2.output,Nat.le_trans h2.size ht.size,fun k hk hs=>(ht.block k (aN hk h2.size) (fun e=>by omega)).trans (h2.block k hk hs)⟩
theorem PW.old {w:World} {pb:Nat} {v:Value} {T:Tks} {s:PSt} (h:PW w pb v T s):v.ownBlock≠some w.heap.size:=fun e=>by
 have:=(World.ownsRow.lt h.row _ e).2;omega
theorem dI {w:World} {pb:Nat} {v:Value} {T:Tks} {s:PSt} (h:PW w pb v T s) (hok:TokOk T) (hi:s.i≤T.length) {t:Lx.ATok} (ht:ahd T s 0=t):Calls Tryz.prog 49 #[.pointer (some ⟨pb,0,none⟩)] w fun e w'=>e= .returned (.agg #[.int .i64 t.kind,.string (tx t),.int .i64 t.num,.int .i64 (t.at_:Int)])∧PT pb v T w w' (aI s):=by
 have HOK:=J hok;have HT:=J ht;have HOLD:=J h.old;have HI:Hid (s.i≤T.length∧s.i≤100000):=J ⟨hi,by have:=hok.len;omega⟩;have hwi:wrap64 ((s.i:Int)+1)=(s.i:Int)+1:=by have:=hok.len;unfold wrap64;omega
 have hwj:IntKind.i64.wrap ((s.i:Int)+1)=(s.i:Int)+1:=by have:=hok.len;rw [IntKind.wrap_i64];omega
 clear hok hi ht;have H0:Hid (PW (w.alloc (.cells #[.int .i64 0,.string eB,.int .i64 0,.int .i64 0] 72)) pb v T s∧Below w.heap.size w (w.alloc (.cells #[.int .i64 0,.string eB,.int .i64 0,.int .i64 0] 72))∧(w.alloc (.cells #[.int .i64 0,.string eB,.int .i64 0,.int .i64 0] 72)).heap[w.heap.size]? =some (.cells #[.int .i64 0,.string eB,.int .i64 0,.int .i64 0] 72 (0,0))∧pb≠w.heap.size):=J ⟨h.below (ba),ba,heap_alloc_new w _,by have:=aA h.box;omega⟩;clear h;go_enter Tryz.func49,Tryz.ntmps49
 go_upto_region 1 with fail
 have h1:=H0.out;obtain ⟨w1,hw1⟩:=aE (w.alloc (.cells #[.int .i64 0,.string eB,.int .i64 0,.int .i64 0] 72));rw [hw1] at h1 ⊢;clear hw1;have hzl:=aA h1.2.2.1;have hne:=h1.2.2.2;have H1:=J h1;clear h1 H0
 go_upto_region 2 with (first | (go_at_call 53;(with_reducible refine (gO H1.out.1.pt bel HOK.out HT.out).mono ?_);rintro e w2 ⟨rfl,HX2⟩;replace HX2:=J HX2))
 have hb3:Below w2.heap.size w2 (w2.alloc (.cells #[.int .i64 t.kind,.string (tx t),.int .i64 t.num,.int .i64 (t.at_:Int)] 72)):=ba;have hx3:=HX2.out.below hb3;have hm:=heap_alloc_new w2 (.cells #[.int .i64 t.kind,.string (tx t),.int .i64 t.num,.int .i64 (t.at_:Int)] 72);have hz:=(hx3.2.block w.heap.size hzl (fun e=>hne e.symm)).trans H1.out.2.2.1;have hnn:w2.heap.size≠pb:=by have:=aA HX2.out.1.box;omega
 obtain ⟨w3,hw3⟩:∃w3,w2.alloc (.cells #[.int .i64 t.kind,.string (tx t),.int .i64 t.num,.int .i64 (t.at_:Int)] 72)=w3:=⟨_,rfl⟩;rw [hw3] at hx3 hm hz ⊢;have hwz:w2.heap.size≠w.heap.size:=by have:=HX2.out.2.size;omega
 have k1:w3.cell? ⟨pb,1,none⟩=some (.int .i64 (s.i:Int)):=hx3.1.cell rfl;have f1:=hx3.1.free 1;have h4:PT pb v T w1 (w3.setCell ⟨pb,1,none⟩ (.int .i64 ((s.i:Int)+1))) (aI s):=hx3.go (hx3.1.put 1 _ (by simp [yJ,aI]) (by show s.i+1≤T.length+1;have:=HI.out.1;omega));have hm4:=(Below.heap_setCell w3 ⟨pb,1,none⟩ (.int .i64 ((s.i:Int)+1)) w2.heap.size (fun e=>hnn e)).trans hm;have hz4:=(Below.heap_setCell w3 ⟨pb,1,none⟩ (.int .i64 ((s.i:Int)+1)) w.heap.size (fun e=>hne e.symm)).trans hz;clear hb3 hw3 hm hz hx3
 go_upto_region 3 with fail
 obtain ⟨w4,hw4⟩:∃w4,w3.setCell ⟨pb,1,none⟩ (.int .i64 ((s.i:Int)+1))=w4:=⟨_,rfl⟩;rw [hw4] at h4 hm4 hz4 ⊢;have mb:=hm4;obtain ⟨m0,m1,m2,m3⟩:=cc4 mb;have nb:=hz4;obtain ⟨n0,n1,n2,n3,nr0,nr1,nr2,nr3⟩:=cf4 nb;have H4:=J h4;clear hw4 h4 hm4 mb nb k1 f1 hnn hwz;go_wp2_with fail;obtain ⟨W9,hW9⟩:∃W9,W9=((((w4.setCell ⟨w.heap.size,0,none⟩ (.int .i64 t.kind)).setCell ⟨w.heap.size,1,none⟩ (.string (tx t))).setCell ⟨w.heap.size,2,none⟩ (.int .i64 t.num)).setCell ⟨w.heap.size,3,none⟩ (.int .i64 (t.at_:Int))):=⟨_,rfl⟩;have h9:W9.heap[w.heap.size]? =some (.cells #[.int .i64 t.kind,.string (tx t),.int .i64 t.num,.int .i64 (t.at_:Int)] 72 (0,0)):=by rw [hW9];exact fT hz4
 obtain ⟨z0,z1,z2,z3⟩:=cc4 h9;have HT9:Hid (Turns (fun k=>k=w.heap.size) w4 W9):=J Y52;rw [←hW9];clear hW9 h9;refine bodyPost_ret (v:=.agg #[.int .i64 t.kind,.string (tx t),.int .i64 t.num,.int .i64 (t.at_:Int)]) (by simp [results,Tryz.results49,go_sem,z0,z1,z2,z3]) rfl ?_;exact ⟨rfl,PT.own H1.out.2.1 H4.out HT9.out aR H1.out.2.2.2 HOLD.out⟩
theorem iM {ws w1 w:World} {pb:Nat} {v:Value} {T:Tks} {s:PSt} (h:PT pb v T ws w1 s) (hb:Below w1.heap.size w1 w) (hok:TokOk T) (hi:s.i≤T.length) {t:Lx.ATok} (ht:ahd T s 0=t):Calls Tryz.prog 49 #[.pointer (some ⟨pb,0,none⟩)] w fun e w'=>e= .returned (.agg #[.int .i64 t.kind,.string (tx t),.int .i64 t.num,.int .i64 (t.at_:Int)])∧PT pb v T ws w' (aI s):=by
 have h2:=h.below hb;refine (dI h2.1 hok hi ht).mono ?_;rintro e w' ⟨he,hc⟩;exact ⟨he,h2.go hc⟩
theorem gI {w:World} {pb:Nat} {v:Value} {T:Tks} {s:PSt} (h:PW w pb v T s) (hok:TokOk T) (hi:s.i≤T.length) (k:Int) (text:ByteArray) {t9:Lx.ATok} {s9:PSt} (hn:bT T s k text=(t9,s9)):Calls Tryz.prog 27 #[.pointer (some ⟨pb,0,none⟩),.int .i64 k,.string text] w fun e w'=>e= .returned (.agg #[.int .i64 t9.kind,.string (tx t9),.int .i64 t9.num,.int .i64 (t9.at_:Int)])∧PT pb v T w w' (s9):=by
 have HOK:=J hok;obtain ⟨t,ht⟩:=aE (ahd T s 0);have HT:=J ht;have HOLD:=J h.old;have HI:=J hi;have HND:Hid (bT T s k text=if isT T s k text then (t,aI s) else (fG,cH s t 13)):=J (by unfold bT;rw [ht]);have HN9:=J hn;obtain ⟨b,hb⟩:=aE (isT T s k text);have HIS:=J hb;clear hok hi ht hn;have H0:Hid (PW (w.alloc (.cells #[.int .i64 0,.string eB,.int .i64 0,.int .i64 0] 72)) pb v T s∧Below w.heap.size w (w.alloc (.cells #[.int .i64 0,.string eB,.int .i64 0,.int .i64 0] 72))∧(w.alloc (.cells #[.int .i64 0,.string eB,.int .i64 0,.int .i64 0] 72)).heap[w.heap.size]? =some (.cells #[.int .i64 0,.string eB,.int .i64 0,.int .i64 0] 72 (0,0))∧pb≠w.heap.size):=J ⟨h.below (ba),ba,heap_alloc_new w _,by have:=aA h.box;omega⟩;clear h;go_enter Tryz.func27,Tryz.ntmps27
 go_upto_region 1 with fail
 have h1:=H0.out;obtain ⟨w1,hw1⟩:=aE (w.alloc (.cells #[.int .i64 0,.string eB,.int .i64 0,.int .i64 0] 72));rw [hw1] at h1 ⊢;clear hw1;have hzl:=aA h1.2.2.1;have hne:=h1.2.2.2;have H1:=J h1;clear h1 H0
 cases b with
 | true=>
  have hq:t9=t∧s9=aI s:=by
   have h9:=HN9.out;rw [HND.out,if_pos hb] at h9
   cases h9;exact ⟨rfl,rfl⟩
  obtain ⟨rfl,rfl⟩:=hq;clear hb;go_wp2_with (first | (go_at_call 48;(with_reducible refine (bD H1.out.1.pt bel HOK.out k text).mono ?_);rw [HIS.out];rintro e w2 ⟨rfl,HX2⟩;replace HX2:=J HX2) | (go_at_call 49;(with_reducible refine (iM HX2.out bel HOK.out HI.out HT.out).mono ?_);rintro e w4 ⟨rfl,hx⟩;have hz4:=(hx.2.block w.heap.size hzl (fun e=>hne e.symm)).trans H1.out.2.2.1;obtain ⟨n0,n1,n2,n3,nr0,nr1,nr2,nr3⟩:=cf4 hz4;have HX4:=J hx;clear hx));obtain ⟨W9,hW9⟩:∃W9,W9=((((w4.setCell ⟨w.heap.size,0,none⟩ (.int .i64 t9.kind)).setCell ⟨w.heap.size,1,none⟩ (.string (tx t9))).setCell ⟨w.heap.size,2,none⟩ (.int .i64 t9.num)).setCell ⟨w.heap.size,3,none⟩ (.int .i64 (t9.at_:Int))):=⟨_,rfl⟩;have h9:W9.heap[w.heap.size]? =some (.cells #[.int .i64 t9.kind,.string (tx t9),.int .i64 t9.num,.int .i64 (t9.at_:Int)] 72 (0,0)):=by rw [hW9];exact fT hz4
  obtain ⟨z0,z1,z2,z3⟩:=cc4 h9;have HT9:Hid (Turns (fun k=>k=w.heap.size) w4 W9):=J Y52;rw [←hW9];clear hW9 h9;refine bodyPost_ret (v:=.agg #[.int .i64 t9.kind,.string (tx t9),.int .i64 t9.num,.int .i64 (t9.at_:Int)]) (by simp [results,Tryz.results27,go_sem,z0,z1,z2,z3]) rfl ?_;exact ⟨rfl,PT.own H1.out.2.1 HX4.out HT9.out aR H1.out.2.2.2 HOLD.out⟩
 | false=>
  have hq:t9=fG∧s9=cH s t 13:=by
   have h9:=HN9.out;rw [HND.out,if_neg (by rw [hb];decide)] at h9
   cases h9;exact ⟨rfl,rfl⟩
  obtain ⟨rfl,rfl⟩:=hq;clear hb;go_wp2_with (first | (go_at_call 48;(with_reducible refine (bD H1.out.1.pt bel HOK.out k text).mono ?_);rw [HIS.out];rintro e w2 ⟨rfl,HX2⟩;replace HX2:=J HX2) | (go_at_call 53;(with_reducible refine (gO HX2.out bel HOK.out HT.out).mono ?_);rintro e w3 ⟨rfl,HX3⟩;replace HX3:=J HX3) | (go_at_call 51;(with_reducible refine (pN HX3.out bel t 13).mono ?_);rintro e w4 ⟨rfl,hx⟩;have hz4:=(hx.2.block w.heap.size hzl (fun e=>hne e.symm)).trans H1.out.2.2.1;obtain ⟨n0,n1,n2,n3,nr0,nr1,nr2,nr3⟩:=cf4 hz4;have HX4:=J hx;clear hx));obtain ⟨W9,hW9⟩:∃W9,W9=((((w4.setCell ⟨w.heap.size,0,none⟩ (.int .i64 0)).setCell ⟨w.heap.size,1,none⟩ (.string eB)).setCell ⟨w.heap.size,2,none⟩ (.int .i64 0)).setCell ⟨w.heap.size,3,none⟩ (.int .i64 0)):=⟨_,rfl⟩;have h9:W9.heap[w.heap.size]? =some (.cells #[.int .i64 0,.string eB,.int .i64 0,.int .i64 0] 72 (0,0)):=by rw [hW9];exact fT hz4
  obtain ⟨z0,z1,z2,z3⟩:=cc4 h9;have HT9:Hid (Turns (fun k=>k=w.heap.size) w4 W9):=J Y52;rw [←hW9];clear hW9 h9;refine bodyPost_ret (v:=.agg #[.int .i64 0,.string eB,.int .i64 0,.int .i64 0]) (by simp [results,Tryz.results27,go_sem,z0,z1,z2,z3]) rfl ?_;exact ⟨rfl,PT.own H1.out.2.1 HX4.out HT9.out aR H1.out.2.2.2 HOLD.out⟩
theorem wS {ws w1 w:World} {pb:Nat} {v:Value} {T:Tks} {s:PSt} (h:PT pb v T ws w1 s) (hb:Below w1.heap.size w1 w) (hok:TokOk T) (hi:s.i≤T.length) (k:Int) (text:ByteArray) {t9:Lx.ATok} {s9:PSt} (hn:bT T s k text=(t9,s9)):Calls Tryz.prog 27 #[.pointer (some ⟨pb,0,none⟩),.int .i64 k,.string text] w fun e w'=>e= .returned (.agg #[.int .i64 t9.kind,.string (tx t9),.int .i64 t9.num,.int .i64 (t9.at_:Int)])∧PT pb v T ws w' (s9):=by
 have h2:=h.below hb;refine (gI h2.1 hok hi k text hn).mono ?_;rintro e w' ⟨he,hc⟩;exact ⟨he,h2.go hc⟩
theorem lA {w:World} {pb:Nat} {v:Value} {T:Tks} {s:PSt} (h:PW w pb v T s) (hok:TokOk T) (hi:s.i≤T.length):Calls Tryz.prog 88 #[.pointer (some ⟨pb,0,none⟩)] w fun e w'=>e= .returned (.bool (dW T s).1)∧PT pb v T w w' ((dW T s).2):=by
 have HOK:=J hok;obtain ⟨t,ht⟩:=aE (ahd T s 0);have HT:=J ht;have HI:=J hi;have HH:=J h;have HO:Hid (dW T s=if s.deep=20 then (false,cH (aI s) t 14) else (true,{aI s with deep:=wrp (s.deep+1)})):=J (by unfold dW;rw [ht]);clear hok ht hi h;go_enter Tryz.func88,Tryz.ntmps88
 go_upto_region 2 with (first | (go_at_call 49;(with_reducible refine (iM HH.out.pt bel HOK.out HI.out HT.out).mono ?_);rintro e w2 ⟨rfl,HX2⟩;replace HX2:=J HX2))
 have hx3:=HX2.out.below ((Below.refl _ _).alloc aR (.cells #[.int .i64 t.kind,.string (tx t),.int .i64 t.num,.int .i64 (t.at_:Int)] 72));have hm:=heap_alloc_new w2 (.cells #[.int .i64 t.kind,.string (tx t),.int .i64 t.num,.int .i64 (t.at_:Int)] 72);have hpl:=aA HX2.out.1.box;obtain ⟨w3,hw3⟩:∃w3,w2.alloc (.cells #[.int .i64 t.kind,.string (tx t),.int .i64 t.num,.int .i64 (t.at_:Int)] 72)=w3:=⟨_,rfl⟩;rw [hw3] at hx3 hm ⊢;have mb:=hm;obtain ⟨m0,m1,m2,m3⟩:=cc4 mb;have k2:w3.cell? ⟨pb,2,none⟩=some (.int .i64 s.deep):=hx3.1.cell rfl;have f2:=hx3.1.free 2;have HX3:=J hx3;clear hw3 hm mb hx3
 by_cases hd:s.deep=20
 ·have HE:Hid (dW T s=(false,cH (aI s) t 14)):=J (by rw [HO.out,if_pos hd]);rw [hd] at k2;clear hd;go_wp2_with (first | (go_at_call 51;(with_reducible refine (pN HX3.out bel t 14).mono ?_);rintro e w4 ⟨rfl,HX4⟩;replace HX4:=J HX4));go_ret;rw [HE.out];exact ⟨rfl,HX4.out⟩
 ·have HE:Hid (dW T s=(true,{aI s with deep:=wrp (s.deep+1)})):=J (by rw [HO.out,if_neg hd]);have e1:(s.deep==20)=false:=by simpa using hd
  have e2:¬s.deep=20:=hd;clear hd;go_wp2_with fail;go_ret;rw [HE.out];exact ⟨rfl,HX3.out.go (HX3.out.1.put 2 _ rfl HX3.out.1.le)⟩
theorem tfld0:∀(a b c d:Value) (w:World),(Instr.field 72 (.agg #[a,b,c,d]) 0).run Tryz.prog w= .ok a w:=fun _ _ _ _ _=>by kernel_rfl
theorem nF:∀(a b c d:Value) (w:World),(Instr.field 72 (.agg #[a,b,c,d]) 1).run Tryz.prog w= .ok b w:=fun _ _ _ _ _=>by kernel_rfl
theorem tfld2:∀(a b c d:Value) (w:World),(Instr.field 72 (.agg #[a,b,c,d]) 2).run Tryz.prog w= .ok c w:=fun _ _ _ _ _=>by kernel_rfl
theorem tfld3:∀(a b c d:Value) (w:World),(Instr.field 72 (.agg #[a,b,c,d]) 3).run Tryz.prog w= .ok d w:=fun _ _ _ _ _=>by kernel_rfl
theorem Z64 {P:Prop} (h:P:=by
 rw [HPL.out];exact ⟨rfl,PT.own H1.out.2.1 (HX3.out.2.go HXZ.out) HT9.out aR H1.out.2.2.2 HOLD.out⟩):P:=h
theorem pO {w:World} {pb:Nat} {v:Value} {T:Tks} {s:PSt} (h:PW w pb v T s) (hok:TokOk T) (hi:s.i≤T.length):Calls Tryz.prog 86 #[.pointer (some ⟨pb,0,none⟩)] w fun e w'=>e= .returned (.tuple #[.agg #[.int .i64 (bV T s).1.kind,.string (bV T s).1.text,.int .i64 (bV T s).1.num,.slice none 0 0,.slice none 0 0,.slice none 0 0],.bool (bV T s).2.1])∧PT pb v T w w' ((bV T s).2.2):=by
 have HOK:=J hok;obtain ⟨t,ht⟩:=aE (ahd T s 0);obtain ⟨t1,ht1⟩:=aE (ahd T s 1);have HT:=J ht;have HT1:=J ht1;have HI:=J hi;have HOLD:=J h.old;obtain ⟨b1,hb1⟩:=aE (isT T s 3 kU);obtain ⟨b4,hb4⟩:=aE (isT T s 4 eB);obtain ⟨b5,hb5⟩:=aE (isT T s 5 eB);obtain ⟨b6,hb6⟩:=aE (isT T s 6 eB);have HB1:=J hb1;have HB4:=J hb4;have HB5:=J hb5;have HB6:=J hb6;have hlen:=hok.len;have hwr:IntKind.i64.wrap ((t.at_:Int)+1)=wrp ((t.at_:Int)+1):=by rw [IntKind.wrap_i64];show _=Go.RowKit.wrap64 _;unfold Go.RowKit.wrap64;omega
 have hf0:=tfld0;have hf1:=nF;have hf2:=tfld2;have hf3:=tfld3;clear hok ht ht1 hi hb1 hb4 hb5 hb6;have H0:Hid (PW (w.alloc (.cells #[.int .i64 0,.string eB,.int .i64 0,.slice none 0 0,.slice none 0 0,.slice none 0 0] 25)) pb v T s∧Below w.heap.size w (w.alloc (.cells #[.int .i64 0,.string eB,.int .i64 0,.slice none 0 0,.slice none 0 0,.slice none 0 0] 25))∧(w.alloc (.cells #[.int .i64 0,.string eB,.int .i64 0,.slice none 0 0,.slice none 0 0,.slice none 0 0] 25)).heap[w.heap.size]? =some (.cells #[.int .i64 0,.string eB,.int .i64 0,.slice none 0 0,.slice none 0 0,.slice none 0 0] 25 (0,0))∧pb≠w.heap.size):=J ⟨h.below (ba),ba,heap_alloc_new w _,by have:=aA h.box;omega⟩;clear h;go_enter Tryz.func86,Tryz.ntmps86
 go_upto_region 1 with fail
 have h1:=H0.out;obtain ⟨w1,hw1⟩:∃w1,w.alloc (.cells #[.int .i64 0,.string eB,.int .i64 0,.slice none 0 0,.slice none 0 0,.slice none 0 0] 25)=w1:=⟨_,rfl⟩;rw [hw1] at h1 ⊢;clear hw1;have hzl:=aA h1.2.2.1;have hne:=h1.2.2.2;have H1:=J h1;clear h1 H0
 go_upto_region 2 with (first | (go_at_call 53;(with_reducible refine (gO H1.out.1.pt bel HOK.out HT.out).mono ?_);rintro e w2 ⟨rfl,HX2⟩;replace HX2:=J HX2))
 have hx3:=HX2.out.below ((Below.refl _ _).alloc aR (.cells #[.int .i64 t.kind,.string (tx t),.int .i64 t.num,.int .i64 (t.at_:Int)] 72));have hm:=heap_alloc_new w2 (.cells #[.int .i64 t.kind,.string (tx t),.int .i64 t.num,.int .i64 (t.at_:Int)] 72);have hpl:=aA HX2.out.1.box;have hzz:w2.heap.size≠w.heap.size:=by have:=HX2.out.2.size;omega
 have hz:=(hx3.2.block w.heap.size hzl (fun e=>hne e.symm)).trans H1.out.2.2.1;obtain ⟨w3,hw3⟩:∃w3,w2.alloc (.cells #[.int .i64 t.kind,.string (tx t),.int .i64 t.num,.int .i64 (t.at_:Int)] 72)=w3:=⟨_,rfl⟩;rw [hw3] at hx3 hm hz ⊢;have HTB:=J hm;have HTL:=J (aA hm);have HTN:Hid (¬w2.heap.size=pb):=J I;have c3:w3.cell? ⟨w2.heap.size,3,none⟩=some (.int .i64 (t.at_:Int)):=aC hm rfl;have HZ3:Hid (w3.heap[w.heap.size]? =some (.cells #[.int .i64 0,.string eB,.int .i64 0,.slice none 0 0,.slice none 0 0,.slice none 0 0] 25 (0,0))∧∀W,Turns (atP pb) w3 W→W.heap[w.heap.size]? =some (.cells #[.int .i64 0,.string eB,.int .i64 0,.slice none 0 0,.slice none 0 0,.slice none 0 0] 25 (0,0))):=J ⟨hz,fun W hT=>(hT.block _ (aA hz) (fun e=>hne e.symm)).trans hz⟩;have HX3:Hid (PW w3 pb v T s∧PT pb v T w1 w3 s):=J ⟨hx3.1,hx3⟩;clear hw3 hm hx3 hz;obtain ⟨bm,hbm⟩:∃b,(isT T s 3 kU && (t1.kind==4 && (t1.at_:Int)==wrp ((t.at_:Int)+1)))=b:=⟨_,rfl⟩;have HBM:=J hbm;clear hbm
 go_cut [23] (fun v23 wx=>v23= .bool bm∧PT pb v T w3 wx s)
 case first=>
  cases b1 with
  | false=>
   have HE:Hid (bm=false):=J (by rw [←HBM.out,HB1.out];simp)
   first | (go_region_with (first | (go_at_call 48;(with_reducible refine (bD HX3.out.1.pt bel HOK.out 3 kU).mono ?_);rw [HB1.out];rintro e w4 ⟨rfl,hx⟩;have HXC:=J hx;have tb9:=(hx.2.block w2.heap.size HTL.out HTN.out).trans HTB.out;have c3:w4.cell? ⟨w2.heap.size,3,none⟩=some (.int .i64 (t.at_:Int)):=aC tb9 rfl;clear tb9;clear hx))) | fail
   all_goals
    go_wp2_with fail;go_meet;exact ⟨by rw [HE.out],HXC.out⟩
  | true=>
   obtain ⟨b2,hb2⟩:=aE ((t1.kind==4));have HB2:=J hb2
   cases b2 with
   | false=>
    have HE:Hid (bm=false):=J (by rw [←HBM.out,HB1.out,HB2.out];simp)
    first | (go_region_with (first | (go_at_call 48;(with_reducible refine (bD HX3.out.1.pt bel HOK.out 3 kU).mono ?_);rw [HB1.out];rintro e w4 ⟨rfl,hx⟩;have HXC:=J hx;have tb9:=(hx.2.block w2.heap.size HTL.out HTN.out).trans HTB.out;have c3:w4.cell? ⟨w2.heap.size,3,none⟩=some (.int .i64 (t.at_:Int)):=aC tb9 rfl;clear tb9;clear hx) | (go_at_call 53;(with_reducible refine (lR HXC.out bel HOK.out HT1.out).mono ?_);rintro e w5 ⟨rfl,hx⟩;have HXC:=J hx;have tb9:=(hx.2.block w2.heap.size HTL.out HTN.out).trans HTB.out;have c3:w5.cell? ⟨w2.heap.size,3,none⟩=some (.int .i64 (t.at_:Int)):=aC tb9 rfl;clear tb9;clear hx))) | fail
    all_goals
     go_wp2_with fail;go_meet;exact ⟨by rw [HE.out],HXC.out⟩
   | true=>
    have HE:Hid (((t1.at_:Int)==wrp ((t.at_:Int)+1))=bm):=J (by rw [←HBM.out,HB1.out,HB2.out];simp)
    first | (go_region_with (first | (go_at_call 48;(with_reducible refine (bD HX3.out.1.pt bel HOK.out 3 kU).mono ?_);rw [HB1.out];rintro e w4 ⟨rfl,hx⟩;have HXC:=J hx;have tb9:=(hx.2.block w2.heap.size HTL.out HTN.out).trans HTB.out;have c3:w4.cell? ⟨w2.heap.size,3,none⟩=some (.int .i64 (t.at_:Int)):=aC tb9 rfl;clear tb9;clear hx) | (go_at_call 53;(with_reducible refine (lR HXC.out bel HOK.out HT1.out).mono ?_);rintro e w5 ⟨rfl,hx⟩;have HXC:=J hx;have tb9:=(hx.2.block w2.heap.size HTL.out HTN.out).trans HTB.out;have c3:w5.cell? ⟨w2.heap.size,3,none⟩=some (.int .i64 (t.at_:Int)):=aC tb9 rfl;clear tb9;clear hx))) | fail
    all_goals
     go_wp2_with fail;go_meet;exact ⟨by rw [←HE.out],HXC.out⟩
 case rest=>
  obtain ⟨rfl,hx4⟩:=hcut;have HX4:=J hx4;have nb0:=HZ3.out.2 wc hx4.2;have nb:=nb0;obtain ⟨n0,n1,n2,n3,n4,n5,nr0,nr1,nr2,nr3,nr4,nr5⟩:=cf6 nb;clear hx4 c3
  rename World=>wk
  cases bm with
  | false=>
   have HNM:Hid (¬(isT T s 3 kU && (t1.kind==4 && (t1.at_:Int)==wrp ((t.at_:Int)+1)))=true):=J (by rw [HBM.out];decide)
   cases b4 with
   | true=>
    have HPL:Hid (bV T s=(.node 1 eB t.num [] [] [],true,aI s)):=J (by unfold bV;rw [HT.out,HT1.out,if_neg HNM.out,if_pos HB4.out]);go_wp2_with (first | (go_at_call 48;(with_reducible refine (bD HX4.out bel HOK.out 4 eB).mono ?_);rw [HB4.out];rintro e wi4 ⟨rfl,HXI4⟩;replace HXI4:=J HXI4) | (go_at_call 49;(with_reducible refine (iM HXI4.out bel HOK.out HI.out HT.out).mono ?_);rintro e wz ⟨rfl,hx⟩;have HXZ:=J hx;have nb:=((HZ3.out.2 wz hx.2));obtain ⟨n0,n1,n2,n3,n4,n5,nr0,nr1,nr2,nr3,nr4,nr5⟩:=cf6 nb;clear hx));obtain ⟨W9,hW9⟩:∃W9,W9=((((((wz.setCell ⟨w.heap.size,0,none⟩ (.int .i64 1)).setCell ⟨w.heap.size,1,none⟩ (.string eB)).setCell ⟨w.heap.size,2,none⟩ (.int .i64 t.num)).setCell ⟨w.heap.size,3,none⟩ (.slice none 0 0)).setCell ⟨w.heap.size,4,none⟩ (.slice none 0 0)).setCell ⟨w.heap.size,5,none⟩ (.slice none 0 0)):=⟨_,rfl⟩;have h9:W9.heap[w.heap.size]? =some (.cells #[.int .i64 1,.string eB,.int .i64 t.num,.slice none 0 0,.slice none 0 0,.slice none 0 0] 25 (0,0)):=Y139;obtain ⟨z0,z1,z2,z3,z4,z5⟩:=cc6 h9;have HT9:Hid (Turns (fun k=>k=w.heap.size) wz W9):=J Y2;rw [←hW9];clear hW9 h9;refine bodyPost_ret (v:=.tuple #[.agg #[.int .i64 1,.string eB,.int .i64 t.num,.slice none 0 0,.slice none 0 0,.slice none 0 0],.bool true]) Y42 rfl ?_;exact Z64
   | false=>
    cases b5 with
    | true=>
     have HPL:Hid (bV T s=(.node 2 (tx t) 0 [] [] [],true,aI s)):=J (by unfold bV;rw [HT.out,HT1.out,if_neg HNM.out,if_neg (by rw [HB4.out];decide),if_pos HB5.out]);go_wp2_with (first | (go_at_call 48;(with_reducible refine (bD HX4.out bel HOK.out 4 eB).mono ?_);rw [HB4.out];rintro e wi4 ⟨rfl,HXI4⟩;replace HXI4:=J HXI4) | (go_at_call 48;(with_reducible refine (bD HXI4.out bel HOK.out 5 eB).mono ?_);rw [HB5.out];rintro e wi5 ⟨rfl,HXI5⟩;replace HXI5:=J HXI5) | (go_at_call 49;(with_reducible refine (iM HXI5.out bel HOK.out HI.out HT.out).mono ?_);rintro e wz ⟨rfl,hx⟩;have HXZ:=J hx;have nb:=((HZ3.out.2 wz hx.2));obtain ⟨n0,n1,n2,n3,n4,n5,nr0,nr1,nr2,nr3,nr4,nr5⟩:=cf6 nb;clear hx));obtain ⟨W9,hW9⟩:∃W9,W9=((((((wz.setCell ⟨w.heap.size,0,none⟩ (.int .i64 2)).setCell ⟨w.heap.size,1,none⟩ (.string (tx t))).setCell ⟨w.heap.size,2,none⟩ (.int .i64 0)).setCell ⟨w.heap.size,3,none⟩ (.slice none 0 0)).setCell ⟨w.heap.size,4,none⟩ (.slice none 0 0)).setCell ⟨w.heap.size,5,none⟩ (.slice none 0 0)):=⟨_,rfl⟩;have h9:W9.heap[w.heap.size]? =some (.cells #[.int .i64 2,.string (tx t),.int .i64 0,.slice none 0 0,.slice none 0 0,.slice none 0 0] 25 (0,0)):=Y139;obtain ⟨z0,z1,z2,z3,z4,z5⟩:=cc6 h9;have HT9:Hid (Turns (fun k=>k=w.heap.size) wz W9):=J Y2;rw [←hW9];clear hW9 h9;refine bodyPost_ret (v:=.tuple #[.agg #[.int .i64 2,.string (tx t),.int .i64 0,.slice none 0 0,.slice none 0 0,.slice none 0 0],.bool true]) Y42 rfl ?_;exact Z64
    | false=>
     cases b6 with
     | true=>
      have HPL:Hid (bV T s=(.node 3 (tx t) 0 [] [] [],true,aI s)):=J (by unfold bV;rw [HT.out,HT1.out,if_neg HNM.out,if_neg (by rw [HB4.out];decide),if_neg (by rw [HB5.out];decide),if_pos HB6.out]);go_wp2_with (first | (go_at_call 48;(with_reducible refine (bD HX4.out bel HOK.out 4 eB).mono ?_);rw [HB4.out];rintro e wi4 ⟨rfl,HXI4⟩;replace HXI4:=J HXI4) | (go_at_call 48;(with_reducible refine (bD HXI4.out bel HOK.out 5 eB).mono ?_);rw [HB5.out];rintro e wi5 ⟨rfl,HXI5⟩;replace HXI5:=J HXI5) | (go_at_call 48;(with_reducible refine (bD HXI5.out bel HOK.out 6 eB).mono ?_);rw [HB6.out];rintro e wc ⟨rfl,hx⟩;have HXC:=J hx;have nb:=((HZ3.out.2 wc hx.2));obtain ⟨n0,n1,n2,n3,n4,n5,nr0,nr1,nr2,nr3,nr4,nr5⟩:=cf6 nb;clear hx) | (go_at_call 49;(with_reducible refine (iM HXC.out bel HOK.out HI.out HT.out).mono ?_);rintro e wz ⟨rfl,hx⟩;have HXZ:=J hx;have nb:=((HZ3.out.2 wz hx.2));obtain ⟨n0,n1,n2,n3,n4,n5,nr0,nr1,nr2,nr3,nr4,nr5⟩:=cf6 nb;clear hx));obtain ⟨W9,hW9⟩:∃W9,W9=((((((wz.setCell ⟨w.heap.size,0,none⟩ (.int .i64 3)).setCell ⟨w.heap.size,1,none⟩ (.string (tx t))).setCell ⟨w.heap.size,2,none⟩ (.int .i64 0)).setCell ⟨w.heap.size,3,none⟩ (.slice none 0 0)).setCell ⟨w.heap.size,4,none⟩ (.slice none 0 0)).setCell ⟨w.heap.size,5,none⟩ (.slice none 0 0)):=⟨_,rfl⟩;have h9:W9.heap[w.heap.size]? =some (.cells #[.int .i64 3,.string (tx t),.int .i64 0,.slice none 0 0,.slice none 0 0,.slice none 0 0] 25 (0,0)):=Y139;obtain ⟨z0,z1,z2,z3,z4,z5⟩:=cc6 h9;have HT9:Hid (Turns (fun k=>k=w.heap.size) wz W9):=J Y2;rw [←hW9];clear hW9 h9;refine bodyPost_ret (v:=.tuple #[.agg #[.int .i64 3,.string (tx t),.int .i64 0,.slice none 0 0,.slice none 0 0,.slice none 0 0],.bool true]) Y42 rfl ?_;exact Z64
     | false=>
      have HPL:Hid (bV T s=(nd0,false,s)):=J (by unfold bV;rw [HT.out,HT1.out,if_neg HNM.out,if_neg (by rw [HB4.out];decide),if_neg (by rw [HB5.out];decide),if_neg (by rw [HB6.out];decide)]);go_wp2_with (first | (go_at_call 48;(with_reducible refine (bD HX4.out bel HOK.out 4 eB).mono ?_);rw [HB4.out];rintro e wi4 ⟨rfl,HXI4⟩;replace HXI4:=J HXI4) | (go_at_call 48;(with_reducible refine (bD HXI4.out bel HOK.out 5 eB).mono ?_);rw [HB5.out];rintro e wi5 ⟨rfl,HXI5⟩;replace HXI5:=J HXI5) | (go_at_call 48;(with_reducible refine (bD HXI5.out bel HOK.out 6 eB).mono ?_);rw [HB6.out];rintro e wc ⟨rfl,hx⟩;have HXC:=J hx;have nb:=((HZ3.out.2 wc hx.2));obtain ⟨n0,n1,n2,n3,n4,n5,nr0,nr1,nr2,nr3,nr4,nr5⟩:=cf6 nb;clear hx));obtain ⟨W9,hW9⟩:∃W9,W9=((((((wc.setCell ⟨w.heap.size,0,none⟩ (.int .i64 0)).setCell ⟨w.heap.size,1,none⟩ (.string eB)).setCell ⟨w.heap.size,2,none⟩ (.int .i64 0)).setCell ⟨w.heap.size,3,none⟩ (.slice none 0 0)).setCell ⟨w.heap.size,4,none⟩ (.slice none 0 0)).setCell ⟨w.heap.size,5,none⟩ (.slice none 0 0)):=⟨_,rfl⟩;have h9:W9.heap[w.heap.size]? =some (.cells #[.int .i64 0,.string eB,.int .i64 0,.slice none 0 0,.slice none 0 0,.slice none 0 0] 25 (0,0)):=Y139;obtain ⟨z0,z1,z2,z3,z4,z5⟩:=cc6 h9;have HT9:Hid (Turns (fun k=>k=w.heap.size) wc W9):=J Y2;rw [←hW9];clear hW9 h9;refine bodyPost_ret (v:=.tuple #[.agg #[.int .i64 0,.string eB,.int .i64 0,.slice none 0 0,.slice none 0 0,.slice none 0 0],.bool false]) Y42 rfl ?_;rw [HPL.out];exact ⟨rfl,PT.own H1.out.2.1 (HX3.out.2.go HXC.out) HT9.out aR H1.out.2.2.2 HOLD.out⟩
  | true=>
   obtain ⟨t2,ht2⟩:=aE (ahd T (aI s) 0);have HT2:=J ht2;have hb3:isT T s 3 kU=true:=by have h9:=HBM.out;simp only [Bool.and_eq_true] at h9;exact h9.1
   have HI1:Hid ((aI s).i≤T.length):=J (eL hb3 HOK.out Y3);have HPL:Hid (bV T s=(.node 1 eB (wrp (-t2.num)) [] [] [],true,aI (aI s))):=J (by unfold bV;rw [HT.out,HT1.out,HT2.out,if_pos HBM.out]);clear ht2 hb3
   go_upto_region 4 with (first | (go_at_call 49;(with_reducible refine (iM HX4.out bel HOK.out HI.out HT.out).mono ?_);rintro e w7 ⟨rfl,HX7⟩;replace HX7:=J HX7))
   go_wp2_with (first | (go_at_call 49;(with_reducible refine (iM HX7.out bel HOK.out HI1.out HT2.out).mono ?_);rintro e wz ⟨rfl,hx⟩;have HXZ:=J hx;have nb:=((HZ3.out.2 wz hx.2));obtain ⟨n0,n1,n2,n3,n4,n5,nr0,nr1,nr2,nr3,nr4,nr5⟩:=cf6 nb;clear hx));obtain ⟨W9,hW9⟩:∃W9,W9=((((((wz.setCell ⟨w.heap.size,0,none⟩ (.int .i64 1)).setCell ⟨w.heap.size,1,none⟩ (.string eB)).setCell ⟨w.heap.size,2,none⟩ (.int .i64 (wrp (-t2.num)))).setCell ⟨w.heap.size,3,none⟩ (.slice none 0 0)).setCell ⟨w.heap.size,4,none⟩ (.slice none 0 0)).setCell ⟨w.heap.size,5,none⟩ (.slice none 0 0)):=⟨_,rfl⟩;have h9:W9.heap[w.heap.size]? =some (.cells #[.int .i64 1,.string eB,.int .i64 (wrp (-t2.num)),.slice none 0 0,.slice none 0 0,.slice none 0 0] 25 (0,0)):=Y139;obtain ⟨z0,z1,z2,z3,z4,z5⟩:=cc6 h9;have HT9:Hid (Turns (fun k=>k=w.heap.size) wz W9):=J Y2;rw [←hW9];clear hW9 h9;refine bodyPost_ret (v:=.tuple #[.agg #[.int .i64 1,.string eB,.int .i64 (wrp (-t2.num)),.slice none 0 0,.slice none 0 0,.slice none 0 0],.bool true]) Y42 rfl ?_;exact Z64
abbrev SRow (w:World) (base:Nat) (v:Value) (l:List ByteArray):Prop:=w.ownsRow base 9 1 v l.length (l.map .string)
theorem infoS:(Tryz.prog.info? 9).map (fun i=>(i.zero,i.size,i.bytes))=some (some (.string eB),1,16):=Y40
theorem SRow.nil (w:World) (base:Nat):SRow w base (.slice none 0 0) []:=World.ownsRow_nil _ _ _ _
theorem SRow.slice {w:World} {base:Nat} {v:Value} {l:List ByteArray} (h:SRow w base v l):∃A c,v= .slice A l.length c∧l.length≤c∧c≤maxLen:=aX h
theorem SRow.news {w:World} {base g n c:Nat} {l:List ByteArray} (h:w.ownsRow base 9 1 (.slice (some ⟨g,0,none⟩) n c) n (l.map .string)):∀(j:Nat) (u:Value),(l.map Value.string)[j]? =some u→w.cell? ((⟨g,0,none⟩:Addr).add j)=some u:=fun j u hj=>by
 rw [hH,Nat.zero_add];have hlen:=h.1;have hlt:j<(l.map Value.string).length:=by
  rcases Nat.lt_or_ge j (l.map Value.string).length with q | q
  ·exact q
  ·rw [List.getElem?_eq_none q] at hj;cases hj
 rw [World.ownsRow.cellAt h j I];exact hj
theorem gX {w w':World} {v:Value} (hg:w.grownBy w' v.ownBlock):Turns (fun k=>v.ownBlock=some k) w w':=
 ⟨hg.os,hg.tape,hg.output,hg.size,fun k hk hs=>hg.block k hk (fun e=>hs e.symm)⟩
theorem PT.turned {ws w w':World} {pb:Nat} {v:Value} {T:Tks} {s:PSt} (h:PT pb v T ws w s) {X:Nat→Prop} (ht:Turns X w w') (hX:∀k,X k→ws.heap.size≤k∧k≠pb∧v.ownBlock≠some k):PT pb v T ws w' s:=
 ⟨⟨(ht.block _ (aA h.1.box) (fun z=>(hX _ z).2.1 rfl)).trans h.1.box,aJ h.1.row ht.size (fun k hk=>ht.block k (World.ownsRow.lt h.1.row k hk).2 (fun z=>(hX k z).2.2 hk)),h.1.le⟩,
  ht.os.trans h.2.os,ht.tape.trans h.2.tape,ht.output.trans h.2.output,Nat.le_trans h.2.size ht.size,fun k hk hs=>(ht.block k (aN hk h.2.size) (fun z=>by have:=(hX k z).1;omega)).trans (h.2.block k hk hs)⟩
theorem PW.apart {w:World} {pb:Nat} {v:Value} {T:Tks} {s:PSt} (h:PW w pb v T s) {base n size:Nat} {e:TypeId} {vr:Value} {xs:List Value} (hr:w.ownsRow base e size vr n xs) (he:e≠67∧e≠72):∀k,vr.ownBlock=some k→base≤k∧k≠pb∧v.ownBlock≠some k:=fun k hk=>by
 obtain ⟨cur,hc⟩:=bN hr hk;refine ⟨(World.ownsRow.lt hr k hk).1,fun q=>?_,fun q=>?_⟩
 ·rw [q,h.box] at hc;simp at hc;exact he.1 hc.2.symm
 ·obtain ⟨cur2,hc2⟩:=bN h.row q;rw [hc] at hc2;simp at hc2;exact he.2 hc2.2
theorem lB {w:World} {ops:Array Oper} {rest:List Oper} {o:Oper} {a:Act} {Q:Exit→Act→World→Prop} (hgd:o.guard=none) (s x:Operand)
  (ho:o.op= .call {callee:=.builtin .append,args:=#[s,x],argTypes:=#[22,22]})
  (base:Nat) (v:Value) (n:Nat) (l:List ByteArray) (hs:a.eval s=v) (hown:w.ownsRow base 9 1 v n (l.map .string))
  {v2:Value} {m:Nat} {js:List ByteArray} (hx:a.eval x=v2) {b2:Nat} (h2:w.ownsRow b2 9 1 v2 m (js.map .string)) (hb:n+m≤1000000) (hbase:base≤w.heap.size)
  (h:∀v' w',w'.ownsRow base 9 1 v' (n+m) ((l++js).map .string)→Turns (fun k=>v.ownBlock=some k) w w'→wpList Tryz.prog ops Q rest (a.put o.dst v') w'):wpList Tryz.prog ops Q (o :: rest) a w:=by
 obtain ⟨i0,hi,hz0,hz1,hz2⟩:=cQ infoS
 rcases h2.2 with ⟨hv2,h0⟩ | ⟨g,cap,cur,hv2,_⟩
 ·subst h0;have hj:js=[]:=by
   have:=h2.1;simpa using this
  subst hj;subst hv2;refine wpList_append_own_none (P:=Tryz.prog) hgd s x 22 ho base 9 i0 1 Tryz.underlying22 hi v n _ hs hown hx (h v w ?_ (Turns.refl _ _));rw [List.append_nil];exact hown
 ·subst hv2;have hl:=h2.1;refine wpList_append_own (P:=Tryz.prog) _ hgd s x 22 ho base 9 i0 (.string eB) 1 16 Tryz.underlying22 hi hz0 hz1 hz2 rfl Y3 v n _ hs hown ⟨g,0,none⟩ m cap (js.map .string) hx I (SRow.news h2) (fun u hu=>by
   obtain ⟨y,_,rfl⟩:=List.mem_map.1 hu
   rfl) Y24 I hbase ?_
  intro v' w' k2 k3 _;exact h v' w' (by rw [List.map_append];exact k2) (gX k3)
theorem gP {w:World} {ops:Array Oper} {rest:List Oper} {o:Oper} {a:Act} {Q:Exit→Act→World→Prop} (hgd:o.guard=none) (s x:Operand)
  (ho:o.op= .call {callee:=.builtin .append,args:=#[s,x],argTypes:=#[22,22]})
  (base:Nat) (v:Value) (n:Nat) (l:List ByteArray) (hs:a.eval s=v) (hown:w.ownsRow base 9 1 v n (l.map .string))
  {g:Nat} {t:ByteArray} (hx:a.eval x= .slice (some ⟨g,0,none⟩) 1 1) (hc:w.heap[g]? =some (.cells #[.string t] 9 (0,0))) (hb:n≤1000000) (hbase:base≤w.heap.size)
  (h:∀v' w',w'.ownsRow base 9 1 v' (n+1) ((l++[t]).map .string)→Turns (fun k=>v.ownBlock=some k) w w'→wpList Tryz.prog ops Q rest (a.put o.dst v') w'):wpList Tryz.prog ops Q (o :: rest) a w:=by
 obtain ⟨i0,hi,hz0,hz1,hz2⟩:=cQ infoS;refine wpList_append_own (P:=Tryz.prog) _ hgd s x 22 ho base 9 i0 (.string eB) 1 16 Tryz.underlying22 hi hz0 hz1 hz2 rfl Y3 v n _ hs hown ⟨g,0,none⟩ 1 1 [.string t] hx rfl (cY hc) Y89 Y24 I hbase ?_;intro v' w' k2 k3 _;exact h v' w' (by rw [List.map_append];exact k2) (gX k3)
theorem SRow.ne {w:World} {base:Nat} {vr:Value} {l:List ByteArray} (h:SRow w base vr l) {pb:Nat} {v:Value} {T:Tks} {s:PSt} (hp:PW w pb v T s):∀k,vr.ownBlock=some k→k≠pb:=fun k hk e=>by
 obtain ⟨cur,hc⟩:=bN h hk;rw [e,hp.box] at hc;simp at hc
theorem SRow.turns {w w':World} {base:Nat} {vr:Value} {l:List ByteArray} (h:SRow w base vr l) {pb:Nat} {v:Value} {T:Tks} {s:PSt} (hp:PW w pb v T s) (ht:Turns (atP pb) w w'):SRow w' base vr l:=
 aJ h ht.size (fun k hk=>ht.block k (World.ownsRow.lt h k hk).2 (h.ne hp k hk))
theorem SRow.below {w w':World} {base:Nat} {vr:Value} {l:List ByteArray} (h:SRow w base vr l) (hb:Below w.heap.size w w'):SRow w' base vr l:=
 aJ h hb.size (fun k hk=>hb.block k (World.ownsRow.lt h k hk).2)
theorem iS {w w':World} {base n size:Nat} {e:TypeId} {vr:Value} {xs:List Value} (h:w.ownsRow base e size vr n xs) {pb:Nat} {v:Value} {T:Tks} {s:PSt} (hp:PW w pb v T s) (he:e≠67) (ht:Turns (atP pb) w w'):w'.ownsRow base e size vr n xs:=
 aJ h ht.size (fun k hk=>ht.block k (World.ownsRow.lt h k hk).2 (fun q=>by
  obtain ⟨cur,hc⟩:=bN h hk;rw [q,hp.box] at hc;simp at hc;exact he hc.2.symm))
theorem mM {w:World} {b k:Nat} {u:Value} (h:w.cell? ⟨b,k,none⟩=some u):b<w.heap.size:=jZ h
def NamesP (pb:Nat) (v:Value) (T:Tks) (r:List ByteArray×PSt) (w:World) (e:Ending) (w':World):Prop:=∃vr,e= .returned vr∧PT pb v T w w' r.2∧SRow w' w.heap.size vr r.1
theorem Z65 {P:Prop} (h:P:=by
 go_upto_region 6 with (first | (at_builtin;refine lB rfl _ _ rfl w.heap.size _ 0 [] rfl (SRow.nil _ _) rfl HRQ.out (by have:=HL.out;omega) HBS.out ?_;intro v5 w5 hown ht5;rw [Nat.zero_add,List.nil_append] at hown;have HO5:=J hown;have c1:w5.cell? ⟨w2.heap.size,1,none⟩=some (.string (tx t9)):=(World.cell?_of_block (ht5.block w2.heap.size (mM c1) (fun z=>by cases z))).trans c1;have HX5:=J (HXQ0.out.turned ht5 (fun k z=>by cases z));obtain ⟨A5,c5,hv5,_⟩:=aX hown;subst hv5;clear hown ht5))
 have HO6:Hid ((w5.alloc (.cells #[.string (tx t9)] 9)).ownsRow w.heap.size 9 1 (.slice A5 n c5) n (l.map .string)):=J (aJ HO5.out Y80 (fun k hk=>(ba |>.block _ (World.ownsRow.lt HO5.out k hk).2)));have HB6:Hid (w.heap.size≤w5.heap.size):=J HX5.out.2.size;go_wp2_with (first | (at_builtin;refine gP rfl _ _ rfl w.heap.size _ _ _ rfl (HO6.out) rfl (heap_alloc_new _ _) (by have:=HL.out;omega) (by have:=HB6.out;rw [World.size_alloc];omega) ?_;intro v7 w7 hown ht7;have HO7:=J hown;have HT7:=J ht7;obtain ⟨A7,c7,hv7,_⟩:=aX hown;subst hv7;clear hown ht7));go_ret;have hx6:=HX5.out.below ((Below.refl _ _).alloc aR (.cells #[.string (tx t9)] 9));have hx7:=hx6.turned HT7.out (fun k z=>hx6.1.apart HO6.out ⟨by decide,by decide⟩ k z);rw [HNM.out];refine ⟨_,rfl,hx7,?_⟩;have ho:=HO7.out
 show World.ownsRow _ _ 9 1 _ (l++[tx t9]).length ((l++[tx t9]).map .string)
 rw [List.length_append,HLN.out];exact ho):P:=h
theorem Z66 {P:Prop} (h:P:=by
 go_upto_region 5 with fail
 have HXQ:=J HX3.out.1.pt;have HRQ:=HR3;have HXQ0:Hid (PT pb v T w w3 s9):=J (HX3.out.2.go HXQ.out);have HBS:Hid (w.heap.size≤w3.heap.size):=J HXQ0.out.2.size;exact Z65):P:=h
theorem lS {w:World} {pb:Nat} {v:Value} {T:Tks} {s:PSt} (h:PW w pb v T s) (hok:TokOk T) (hi:s.i≤T.length) (k:Int) {b2:Nat} {vr:Value} {l:List ByteArray} (hr:SRow w b2 vr l) (hl:l.length≤1000):Calls Tryz.prog 50 #[.pointer (some ⟨pb,0,none⟩),.int .i64 k,vr] w (NamesP pb v T (cV T k l s) w):=by
 obtain ⟨A,c,hvr,hcl,_⟩:=hr.slice;subst hvr;have HOK:=J hok;have HI:=J hi;have HH:=J h;obtain ⟨⟨t9,s9⟩,hn9⟩:=aE (bT T s k eB);have HND:=J hn9;have HNM:Hid (cV T k l s=(l++[tx t9],if s9.e=0∧l.length=4 then cH s9 t9 18 else s9)):=J (by unfold cV;rw [hn9]);obtain ⟨n,hn⟩:=aE l.length;have HLN:=J hn;have hr2:w.ownsRow b2 9 1 (.slice A n c) n (l.map .string):=by rw [←hn];exact hr
 have HR:=J hr2;have HL:Hid (n≤1000):=J I;rw [hn] at HNM ⊢;clear hok hi h hn9 hn hr hr2 hl hcl;go_enter Tryz.func50,Tryz.ntmps50
 go_upto_region 2 with (first | (go_at_call 27;(with_reducible refine (wS HH.out.pt bel HOK.out HI.out k eB HND.out).mono ?_);rintro e w2 ⟨rfl,HX2⟩;replace HX2:=J HX2))
 have hx3:=HX2.out.below ((Below.refl _ _).alloc aR (.cells #[.int .i64 t9.kind,.string (tx t9),.int .i64 t9.num,.int .i64 (t9.at_:Int)] 72));have hm:=heap_alloc_new w2 (.cells #[.int .i64 t9.kind,.string (tx t9),.int .i64 t9.num,.int .i64 (t9.at_:Int)] 72);have hpl:=aA HX2.out.1.box;have hr3:=iS HR.out HH.out Y3 hx3.2;obtain ⟨w3,hw3⟩:∃w3,w2.alloc (.cells #[.int .i64 t9.kind,.string (tx t9),.int .i64 t9.num,.int .i64 (t9.at_:Int)] 72)=w3:=⟨_,rfl⟩;rw [hw3] at hx3 hm hr3 ⊢;have cb:=hm;obtain ⟨c0,c1,c2,c3⟩:=cc4 cb;have k3:w3.cell? ⟨pb,3,none⟩=some (.int .i64 s9.e):=hx3.1.cell rfl;have HTB:=J hm;have HTL:=J (aA hm);have HTN:Hid (¬w2.heap.size=pb):=J I;have HX3:Hid (PW w3 pb v T s9∧PT pb v T w w3 s9):=J ⟨hx3.1,hx3⟩;have HR3:=J hr3;clear hw3 hm cb hx3 hr3
 by_cases e0:s9.e=0
 ·by_cases e4:n=4
  ·have HSQ:Hid ((if s9.e=0∧n=4 then cH s9 t9 18 else s9)=cH s9 t9 18):=J (if_pos ⟨e0,e4⟩);rw [HSQ.out] at HNM;rw [e0] at k3;have z1:(n==4)=true:=by simpa using e4
   have z2:((n:Int)==4)=true:=Y4;have z3:(n:Int)=4:=I;clear e0 e4
   go_upto_region 5 with (first | (go_at_call 51;(with_reducible refine (pN HX3.out.1.pt bel t9 18).mono ?_);rintro e w4 ⟨rfl,hx⟩;have HXQ:=J hx;have tb9:=(hx.2.block w2.heap.size HTL.out HTN.out).trans HTB.out;have c1:w4.cell? ⟨w2.heap.size,1,none⟩=some (.string (tx t9)):=aC tb9 rfl;have HRQ:=J (iS HR3.out HX3.out.1 Y3 hx.2);clear hx))
   have HXQ0:Hid (PT pb v T w w4 (cH s9 t9 18)):=J (HX3.out.2.go HXQ.out);have HBS:Hid (w.heap.size≤w4.heap.size):=J HXQ0.out.2.size;exact Z65
  ·have HSQ:Hid ((if s9.e=0∧n=4 then cH s9 t9 18 else s9)=s9):=J (if_neg (fun z=>e4 z.2));rw [HSQ.out] at HNM;rw [e0] at k3;have z1:(n==4)=false:=by simpa using e4
   have z2:((n:Int)==4)=false:=Y4;have z3:¬(n:Int)=4:=I;clear e0 e4;exact Z66
 ·have HSQ:Hid ((if s9.e=0∧n=4 then cH s9 t9 18 else s9)=s9):=J (if_neg (fun z=>e0 z.1));rw [HSQ.out] at HNM;have y1:(s9.e==0)=false:=by simpa using e0
  clear e0;exact Z66
theorem pP {w:World} {pb:Nat} {v:Value} {T:Tks} {s:PSt} (h:PW w pb v T s) (hok:TokOk T) (hi:s.i≤T.length):Calls Tryz.prog 25 #[.pointer (some ⟨pb,0,none⟩)] w (NamesP pb v T (fB T s) w):=by
 have HOK:=J hok;have HI:=J hi;have HH:=J h;have HLE:Hid (T.length≤100000):=J hok.len;obtain ⟨t0,ht0⟩:=aE (ahd T s 0);have HT:=J ht0;obtain ⟨b,hb⟩:=aE (isT T s 10 kR);have HB:=J hb;clear hok hi h ht0 hb
 cases b with
 | false=>
  have HE:Hid (fB T s=([],s)):=J (by unfold fB;rw [if_neg Y91]);go_enter Tryz.func25,Tryz.ntmps25;go_wp2_with (first | (go_at_call 48;(with_reducible refine (bD HH.out.pt bel HOK.out 10 kR).mono ?_);rw [HB.out];rintro e w2 ⟨rfl,HX2⟩;replace HX2:=J HX2));go_ret;rw [HE.out];exact ⟨_,rfl,HX2.out,SRow.nil _ _⟩
 | true=>
  have HE:Hid (fB T s=((hL T (T.length+1) [] (aI s)).1,(bT T (hL T (T.length+1) [] (aI s)).2 10 kR).2)):=J (by unfold fB;rw [if_pos HB.out]);have hlt:=eL HB.out HOK.out Y3;have HI1:Hid ((aI s).i≤T.length):=J hlt;have hf1:=nF;clear hlt;go_enter Tryz.func25,Tryz.ntmps25;go_wp2_with (first | (go_at_call 48;(with_reducible refine (bD HH.out.pt bel HOK.out 10 kR).mono ?_);rw [HB.out];rintro e w2 ⟨rfl,HX2⟩;replace HX2:=J HX2) | (go_at_call 49;(with_reducible refine (iM HX2.out bel HOK.out HI.out HT.out).mono ?_);rintro e w3 ⟨rfl,HX3⟩;replace HX3:=J HX3))
  go_loopg [3] (T.length+1) (fun g v3 wr=>∃(l:List ByteArray) (sk:PSt),PT pb v T w wr sk∧wr.ownsRow w.heap.size 9 1 v3 l.length (l.map .string)∧hL T (T.length+1) [] (aI s)=hL T g l sk∧T.length<g+sk.i∧sk.i≤T.length∧l.length≤sk.i)
  case atStart=>exact ⟨[],aI s,HX3.out,SRow.nil _ _,rfl,by omega,HI1.out,Nat.zero_le _⟩
  case round=>
   obtain ⟨l,sk,hpt,hown,htl,hg,hil,hll⟩:=hrel;obtain ⟨A,c,hv3,_⟩:=aX hown;subst hv3;have HX:=J hpt;have HO:=J hown;have HTQ:=J htl;have HG:=J hg;have HIL:=J hil;have HLB:Hid (l.length≤100000∧l.length≤sk.i):=J ⟨by have:=HLE.out;omega,hll⟩;obtain ⟨n,hn⟩:=aE l.length;rw [hn] at HO HLB ⊢;have HLN:=J hn;obtain ⟨t,ht⟩:=aE (ahd T sk 0);have HTL:=J ht;obtain ⟨b,hb⟩:=aE (isT T sk 1 eB);have HBL:=J hb;clear hpt hown htl hg hil hll hn ht hb
   cases b with
   | true=>
    have HLT:=J (eL HBL.out HOK.out Y3);go_wp2_with (first | (go_at_call 48;(with_reducible refine (bD HX.out.1.pt bel HOK.out 1 eB).mono ?_);rw [HBL.out];rintro e w4 ⟨rfl,hx⟩;have HO4:=J (iS HO.out HX.out.1 Y3 hx.2);have HX4:=J (HX.out.go hx);clear hx) | (go_at_call 49;(with_reducible refine (iM HX4.out.1.pt bel HOK.out HIL.out HTL.out).mono ?_);rintro e w5 ⟨rfl,hx⟩;have HO5:=J (iS HO4.out HX4.out.1 Y3 hx.2);have HX5:=J (HX4.out.go hx);have HO6:=J (aJ HO5.out (w':=w5.alloc (.cells #[.string (tx t)] 9)) Y80 (fun k hk=>(ba |>.block _ (World.ownsRow.lt HO5.out k hk).2)));have HB6:Hid (w.heap.size≤w5.heap.size):=J HX5.out.2.size;clear hx) | (at_builtin;refine gP rfl _ _ rfl w.heap.size _ _ _ rfl (HO6.out) rfl (heap_alloc_new _ _) (by have:=HLB.out;omega) (by have:=HB6.out;rw [World.size_alloc];omega) ?_;intro v7 w7 hown ht7;have HO7:=J hown;have HT7:=J ht7;obtain ⟨A7,c7,hv7,_⟩:=aX hown;subst hv7;clear hown ht7))
    go_roundg (gk-1)
    case measure=>have:=HG.out;have:=HLT.out;omega
    case rel=>
     have hx6:=HX5.out.below ((Below.refl _ _).alloc aR (.cells #[.string (tx t)] 9));have hx7:=hx6.turned HT7.out (fun k z=>hx6.1.apart HO6.out ⟨by decide,by decide⟩ k z);refine ⟨l++[tx t],aI sk,hx7,?_,?_,by show _<_+(sk.i+1);have:=HG.out;have:=HLT.out;omega,HLT.out,by rw [List.length_append,HLN.out];have:=HLB.out.2;show n+1≤sk.i+1;omega⟩
     ·rw [List.length_append,HLN.out];exact HO7.out
     ·have h9:gk=(gk-1)+1:=Y45;rw [HTQ.out,h9,hL,if_pos HBL.out,HTL.out,Nat.add_sub_cancel]
   | false=>
    have hq:hL T (T.length+1) [] (aI s)=(l,sk):=by
     rw [HTQ.out]
     cases gk with
     | zero=>rfl
     | succ g=>rw [hL,if_neg (by rw [HBL.out];decide)]
    obtain ⟨⟨t9,s9⟩,hnq⟩:=aE (bT T sk 10 kR);have HNQ:=J hnq;have HE2:Hid (fB T s=(l,s9)):=J (by rw [HE.out,hq,hnq]);clear hq hnq;go_wp2_with (first | (go_at_call 48;(with_reducible refine (bD HX.out.1.pt bel HOK.out 1 eB).mono ?_);rw [HBL.out];rintro e w4 ⟨rfl,hx⟩;have HO4:=J (iS HO.out HX.out.1 Y3 hx.2);have HX4:=J (HX.out.go hx);clear hx) | (go_at_call 27;(with_reducible refine (wS HX4.out.1.pt bel HOK.out HIL.out 10 kR HNQ.out).mono ?_);rintro e w6 ⟨rfl,hx⟩;have HO9:=J (iS HO4.out HX4.out.1 Y3 hx.2);have HX9:=J (HX4.out.go hx);clear hx));go_ret;rw [HE2.out];exact ⟨_,rfl,HX9.out,by show World.ownsRow _ _ 9 1 _ l.length _;rw [HLN.out];exact HO9.out⟩
end Go.Proofs.YtnojndgmgkgnpaaGreat
