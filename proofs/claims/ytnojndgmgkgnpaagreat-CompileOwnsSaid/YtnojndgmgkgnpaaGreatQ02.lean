/- Chapter 10: words and contracts for the law. -/
import Derived.Test.YtnojndgmgkgnpaaGreatQ01
set_option maxRecDepth 100000
set_option maxHeartbeats 40000000
set_option linter.unusedVariables false
set_option linter.unusedSimpArgs false
namespace Go.Proofs.YtnojndgmgkgnpaaGreat
open Go.ChangeShapes Go.WideShapes Go.ChangeAt Go.RowKit Go.Deep Go.Joins Go.Maps
theorem sI:(Tryz.prog.info? 82).map (fun i=>(i.zero,i.size,i.bytes))=some (some (.agg #[.string eB,.bool false,.bool false,.int .i64 0]),4,32):=Y40
structure Named (w0:World) (P:Nat→Prop) (w w':World) (cb:Nat) (m:MK) (s:CSt) (lv cv nv:Value) (D:Nat→Prop) (ps:List LP) (nv':Value) (k:Nm):Prop where
 box:w'.heap[cb]? =some (.cells (fR m s lv cv nv) 80 (0,0))
 cy:CY w0 P (w'.setCell ⟨cb,6,none⟩ nv') cb m {s with names:=s.names++[k]} lv cv nv' D ps
 ts:Turns (cP P) w (w'.setCell ⟨cb,6,none⟩ nv')
 sl:∃A n c,nv'= .slice A n c
theorem Z9 {P:Prop} (h:P:=by
 rcases q with e | e
 ·obtain ⟨cur2,hc2⟩:=hnty k e;rw [hc] at hc2;simp at hc2
 ·rw [e,h.box] at hc;simp at hc):P:=h
theorem CY.named {w0 w:World} {P:Nat→Prop} {cb:Nat} {m:MK} {s:CSt} {lv cv nv:Value} {D:Nat→Prop} {ps:List LP} {w':World} {nv':Value} (h:CY w0 P w cb m s lv cv nv D ps) (k:Nm) (hk:k.name.size≤bL∧0≤k.at_∧k.at_≤1000) (hown:w'.ownsRow 0 82 4 nv' (s.names.length+1) (s.names.flatMap nmC++nmC k)) {o:Option Nat} (hg:w.grownBy w' o) (ho:∀j,o=some j→nv.ownBlock=some j∧¬P j∧j≠cb) (hat:∀j,nv'.ownBlock=some j→o=some j∨w.heap.size≤j):
  Named w0 P w w' cb m s lv cv nv D ps nv' k:=by
 have ht:Turns (fun j=>o=some j) w w':=⟨hg.os,hg.tape,hg.output,hg.size,fun k hk hs=>hg.block k hk (fun e=>hs e.symm)⟩;have hcb:=aA h.box;have hcb':¬o=some cb:=fun e=>(ho cb e).2.2 rfl
 have hbx:w'.heap[cb]? =some (.cells (fR m s lv cv nv) 80 (0,0)):=(ht.block cb hcb hcb').trans h.box;have ht2:Turns (fun k=>k=cb) w' (w'.setCell ⟨cb,6,none⟩ nv'):=(Turns.refl _ _).setCell _ _ (.inl rfl);have ht3:Turns (fun k=>o=some k∨k=cb) w (w'.setCell ⟨cb,6,none⟩ nv'):=(ht.mono (fun _ _ z=>.inl z)).setCell _ _ (.inl (.inr rfl));have hnty:∀j,o=some j→∃cur,w.heap[j]? =some (.cells cur 82 (0,0)):=fun j hj=>h.names.type (ho j hj).1
 have hown':∀j,nv'.ownBlock=some j→¬P j∧j≠cb:=fun j hj=>by
  rcases hat j hj with q | q
  ·exact (ho j q).2
  ·exact ⟨fun z=>by have:=h.lim _ z;omega,by omega⟩
 have hlv:∀k,lv.ownBlock=some k→¬(o=some k∨k=cb):=fun k hk q=>by
  obtain ⟨cur,hc⟩:=bN h.lits.own hk;exact Z9
 have hcv:∀k,cv.ownBlock=some k→¬(o=some k∨k=cb):=fun k hk q=>by
  obtain ⟨cur,hc⟩:=bN h.code hk;exact Z9
 have hD:∀k,D k→¬(o=some k∨k=cb):=fun k hk q=>by
  obtain ⟨cur,hc⟩:=h.dty k hk;exact Z9
 refine ⟨hbx,⟨?_,?_,h.lps,?_,?_,?_,h.cbP,h.lvP,h.cvP,fun k hk=>⟨aN (h.dlt k hk).1 ht3.size,(h.dlt k hk).2⟩,fun k hk=>?_,?_,h.low,fun k hk=>aN (h.lim k hk) ht3.size,h.enm,h.dge⟩,?_,?_⟩
 ·rw [heap_setCell_same w' cb 6 _ _ _ hbx];rfl
 ·exact h.lits.same ht3.size (fun k hk=>ht3.block k (World.ownsRow.lt h.lits.own k hk).2 (hlv k hk)) (fun b hb hl=>ht3.block b hl (hD b hb)) (fun _ z=>z)
 ·exact aJ h.code ht3.size (fun k hk=>ht3.block k (World.ownsRow.lt h.code k hk).2 (hcv k hk))
 ·have e:(s.names++[k]).flatMap nmC=s.names.flatMap nmC++nmC k:=Y12;refine .inl ⟨?_,hown'⟩
  show World.ownsRow _ 0 82 4 nv' (s.names++[k]).length ((s.names++[k]).flatMap nmC)
  rw [e,List.length_append];exact aJ hown ht2.size (fun j hj=>ht2.block j (World.ownsRow.lt hown j hj).2 (hown' j hj).2)
 ·intro x hx
  rcases List.mem_append.1 hx with q | q
  ·exact h.nok x q
  ·rw [List.mem_singleton.1 q];exact hk
 ·obtain ⟨cur,hc⟩:=h.dty k hk;exact ⟨cur,(ht3.block k (aA hc) (hD k hk)).trans hc⟩
 ·refine h.stat.trans (ht3.below (fun k q=>?_) h.stat.size)
  rcases Nat.lt_or_ge k w0.heap.size with z | z
  ·exact q.elim (fun e=>absurd (h.low k z) (ho k e).2.1) (fun e=>absurd (e▸h.low k z) h.cbP)
  ·exact z
 ·exact ht3.mono (fun k _ q=>q.elim (fun e=>(ho k e).2.1) (fun e=>by rw [e];exact h.cbP))
 ·obtain ⟨A,c,e,_⟩:=aX hown;exact ⟨A,_,c,e⟩
theorem qH {ops:Array Oper} {o:Oper} {a:Act} {K:Act→World→Prop} {Q:Exit→Act→World→Prop} {E:Prop} (hgd:o.guard=none) (sl x:Operand)
  (hop:o.op= .call {callee:=.builtin .append,args:=#[sl,x],argTypes:=#[78,78]}) {w0 w:World} {P:Nat→Prop} {cb:Nat} {m:MK} {s:CSt} {lv cv nv:Value} {D:Nat→Prop} {ps:List LP} (h:CY w0 P w cb m s lv cv nv D ps) (hs:a.eval sl=nv) {G:Nat} (hx:a.eval x= .slice (some ⟨G,0,none⟩) 1 1) (k:Nm)
  (hk:k.name.size≤bL∧0≤k.at_∧k.at_≤1000) (hG:w.heap[G]? =some (.cells #[.string k.name,.bool (decide (k.kind=1)),.bool (decide (k.kind=3)),.int .i64 k.at_] 82 (0,0))) (hle:s.names.length≤100000)
  (hK:∀nv' w',Named w0 P w w' cb m s lv cv nv D ps nv' k→K (a.put o.dst nv') w'):if Region.wanted o (yielded ops a.tmps)=true then Oper.wp Tryz.prog o a w K Q else E:=by
 obtain ⟨i0,hi,hz0,hz1,hz2⟩:=cQ sI;have hone:∀u∈nmC k,u.oneCell'=true:=fun u hu=>by
  unfold nmC at hu;simp only [List.mem_cons,List.not_mem_nil,or_false] at hu
  rcases hu with rfl | rfl | rfl | rfl <;> rfl
 rcases h.names with ⟨ho,hW⟩ | ⟨A,hv,hn,hA⟩
 ·rw [if_pos Y92];obtain ⟨v',w',hr,h2,h3,_,h5⟩:=run_append_own_at (P:=Tryz.prog) w 0 78 o.type 82 i0 (.agg #[.string eB,.bool false,.bool false,.int .i64 0]) 4 32 Tryz.underlying78 hi hz0 hz1 hz2 rfl Y3 nv s.names.length _ ho ⟨G,0,none⟩ 1 1 (nmC k) rfl (cY hG) hone Y24 I (Nat.zero_le _);unfold Oper.wp execOp;simp only [hop,resolve,invoke,builtin,Sem.run_bind,Sem.run_pure,Result.andThen_ok,List.map_toArray,List.map_cons,List.map_nil,hs,hx,hr];refine hK _ _ (h.named k hk h2 h3 (fun j hj=>⟨hj,hW j hj⟩) (fun j hj=>?_))
  rcases h5 with q | q
  ·exact .inl (by rw [←q];exact hj)
  ·rw [q] at hj;cases hj;exact .inr aR
 ·refine step_append_grows hgd sl x 78 hop 82 i0 (.agg #[.string eB,.bool false,.bool false,.int .i64 0]) 4 32 Tryz.underlying78 hi hz0 hz1 hz2 rfl Y3 A s.names.length s.names.length (s.names.flatMap nmC) (by rw [hs,hv]) (fun e=>by rw [hn e];exact ⟨rfl,rfl⟩) (by rw [gT lF]) (fun b e j u hj=>?_) ⟨G,0,none⟩ 1 1 (nmC k) hx rfl (cY hG) hone I Y24 I ?_
  ·obtain ⟨e1,e2,_,e4⟩:=hA b e;obtain ⟨bb,bo,bs⟩:=b;simp only at e1 e2;subst e1;subst e2;rw [hH,Nat.zero_add];exact e4 j u hj
  ·intro v' w' h2 h3;refine hK _ _ (h.named k hk (bR h2 (Nat.zero_le _)) h3 (fun j hj=>by cases hj) (fun j hj=>.inr (World.ownsRow.lt h2 j hj).1))
theorem qI {fixed:Bool} {l:List ByteArray} {k:Nat} (hk:k<l.length) (s:CSt):bI fixed (l.drop k) s=if (gL s l[k]).err≠0 then gL s l[k] else bI fixed (l.drop (k+1)) (kS (gL s l[k]) l[k] fixed):=by
 rw [List.drop_eq_getElem_cons hk];rfl
theorem qJ (s:CSt) (n:ByteArray):(gL s n).names=s.names∧(gL s n).temps=s.temps∧(gL s n).lits=s.lits∧(gL s n).code=s.code:=by
 have hf:∀(s:CSt) (n:ByteArray) (x:Int),(aG s n x).names=s.names∧(aG s n x).temps=s.temps∧(aG s n x).lits=s.lits∧(aG s n x).code=s.code:=fun s n x=>by
  unfold aG;split <;> exact ⟨rfl,rfl,rfl,rfl⟩
 unfold gL;simp only;have h16:=hf s n 16
 by_cases h1:((cE s.names n).isSome || dH n)=true
 ·rw [if_pos h1]
  by_cases h2:(aG s n 16).temps=24
  ·rw [if_pos h2];have h18:=hf (aG s n 16) n 18;exact ⟨h18.1.trans h16.1,h18.2.1.trans h16.2.1,h18.2.2.1.trans h16.2.2.1,h18.2.2.2.trans h16.2.2.2⟩
  ·rw [if_neg h2];exact h16
 ·rw [if_neg h1]
  by_cases h2:s.temps=24
  ·rw [if_pos h2];exact hf s n 18
  ·rw [if_neg h2];exact ⟨rfl,rfl,rfl,rfl⟩
theorem qK {s:CSt} {n:ByteArray} (h:(gL s n).err=0):s.temps≠24:=by
 intro h24;have hx:∀(s:CSt) (n:ByteArray) (x:Int),x≠0→(aG s n x).err≠0:=fun s n x hx=>by
  unfold aG;split <;> assumption
 have ht:∀(s:CSt) (n:ByteArray) (x:Int),(aG s n x).temps=s.temps:=fun s n x=>by unfold aG;split <;> rfl
 unfold gL at h;simp only at h
 by_cases h1:((cE s.names n).isSome || dH n)=true
 ·rw [if_pos h1,if_pos (by rw [ht];exact h24)] at h;exact hx _ _ _ Y3 h
 ·rw [if_neg h1,if_pos h24] at h;exact hx _ _ _ Y3 h
theorem Z4 {P:Prop} (h:P:=by
 cases hfn:cE sk.names nm with
 | some kx=>
  have HFN:=J hfn;have HE:Hid (isS=true):=J (by rw [←his,hfn];rfl);clear hfn his;go_wp2_with (first | (go_at_call 74;(with_reducible refine (bJ HX.out.1 nm HSZ.out).mono ?_);rw [HFN.out];rintro e w1 ⟨rfl,hb1⟩;unfold gR;unfold kV;have hb1s:=hb1.size;have HB1:=J hb1;clear hb1));go_meet;exact ⟨by rw [HE.out],Y37⟩
 | none=>
  have HFN:=J hfn;have HE:Hid (isS=false):=J (by rw [←his,hfn];rfl);clear hfn his;go_wp2_with (first | (go_at_call 74;(with_reducible refine (bJ HX.out.1 nm HSZ.out).mono ?_);rw [HFN.out];rintro e w1 ⟨rfl,hb1⟩;unfold gR;have hb1s:=hb1.size;have HB1:=J hb1;clear hb1));go_meet;exact ⟨by rw [HE.out],Y37⟩):P:=h
theorem Z5 {P:Prop} (h:P:=by
 by_cases h24:s1.temps=24
 ·have HE:Hid (s2=aG s1 nm 18):=J (by rw [HBD.out,if_pos h24]);have e2:((s1.temps:Int)==24)=true:=by rw [h24];rfl
  have e3:decide ((s1.temps:Int)=24)=true:=aD I;clear h24;go_wp2_with (first | (go_at_call 76;(with_reducible refine (eP HX.out.1 nm HSZ.out 18).mono ?_);rintro e w3 ⟨rfl,hx3⟩;have HX3:=J (HX.out.go hx3);clear hx3));go_meet;rw [HE.out];exact HX3.out
 ·have HE:Hid (s2=s1):=J (by rw [HBD.out,if_neg h24]);have e1:(s1.temps==24)=false:=by simpa using h24
  have e2:((s1.temps:Int)==24)=false:=Y4;have e3:decide ((s1.temps:Int)=24)=false:=aK I;clear h24;go_wp2_with fail;go_meet;rw [HE.out];exact HX.out):P:=h
theorem Z6 {P:Prop} (h:P:=by
 cases tb with
 | true=>
  have HE:Hid (s1=aG sk nm 16):=J (by rw [←HS1.out,HIS.out,HTB.out];rfl);go_wp2_with (first | (go_at_call 76;(with_reducible refine (eP HX.out.1 nm HSZ.out 16).mono ?_);rintro e w3 ⟨rfl,hx3⟩;have HX3:=J (HX.out.go hx3);clear hx3));go_meet;rw [HE.out];exact HX3.out
 | false=>
  have HE:Hid (s1=sk):=J (by rw [←HS1.out,HIS.out,HTB.out];rfl);go_wp2_with fail;go_meet;rw [HE.out];exact HX.out):P:=h
theorem Z7 {P:Prop} (h:P:=by
 cases isS with
 | true=>
  have HE:Hid (tb=true):=J htb.symm;clear htb;go_wp2_with fail;go_meet;exact ⟨by rw [HE.out],rfl⟩
 | false=>
  have HOW:Hid (dH nm=tb):=J htb;clear htb;go_wp2_with (first | (go_at_call 75;(with_reducible refine (eI nm HSZ.out _).mono ?_);rw [HOW.out];rintro e w2 ⟨rfl,hw2⟩;replace hw2:=hw2.symm;subst hw2));go_meet;exact ⟨by simp,rfl⟩):P:=h
theorem Z8 {P:Prop} (h:P:=by
 have HE0:=J he;have e1:(s2.err==0)=false:=Y20;clear hy he;go_wp2_with fail;go_returns;rw [HDS.out,HS2.out,if_pos HE0.out];exact ⟨rfl,HX.out⟩):P:=h
theorem Z10 {P:Prop} (h:P:=by
 have hkn:k=n:=I;have d1:=aK hlt;have d2:=aF hlt;clear hlt;subst hkn;go_wp2_with fail;go_returns;rw [HD.out,←HN.out,List.drop_length];exact ⟨rfl,HX.out⟩):P:=h
theorem Z11 {P:Prop} (h:P:=by
 refine (HX.out.2.trans ?_).setCell _ _ (.inl HNA.out.cy.cbP);exact (Turns.of_below ((ba).trans (Below.drew (Below.refl _ _)))).trans HNA.out.ts):P:=h
theorem Z12 {P:Prop} (h:P:=by
 have h1:=qK (s:=sk) (n:=nm) (by rw [HS2.out];exact he);rw [←HKEEP.out.2.1,HS2.out] at h1;exact h1):P:=h
theorem Z13 {P:Prop} (h:P:=by
 have h1:=HFEW.out;have h2:=HN6.out;show (s2.names++[_]).length≤8+(s2.temps+1);rw [List.length_append,h2];simp;omega):P:=h
theorem xI {w0 w:World} {P:Nat→Prop} {cb:Nat} {m:MK} {s:CSt} (h:CX w0 P w cb m s) {D:Nat→Prop} {p:Option Addr} {n c0:Nat} {l:List ByteArray} (hs:Strs w0 D p l) (hn:l.length=n) (hle:n≤9223372036854775807):Calls Tryz.prog 54 #[.pointer (some ⟨cb,0,none⟩),.slice p n c0,.bool true] w fun e w'=>e= .returned (.tuple #[])∧CT w0 P w w' cb m (bI true l s):=by
 have HS:=J hs;have HN:=J hn;have H0:=J h;clear hs hn h;go_enter Tryz.func54,Tryz.ntmps54;go_wp2_with fail
 go_loopw [12] (fun i wr=>∃(k:Nat) (sk:CSt),i= .int .i64 k∧k≤n∧CT w0 P w wr cb m sk∧bI true l s=bI true (l.drop k) sk) (fun i _=>n-(intOf i).toNat)
 case atStart=>exact ⟨0,s,rfl,Nat.zero_le _,H0.out.ct,rfl⟩
 case round=>
  obtain ⟨k,sk,rfl,hk,hct,hde⟩:=hrel;have HX:=J hct;have HD:=J hde;clear hct hde H0
  by_cases hlt:k<n
  ·have d1:=aD hlt;have d2:=aT hlt;have hkl:k<l.length:=Y111;obtain ⟨b,off,rfl,hbl,_,hc,hsz⟩:=HS.out k hkl;have hst:=HX.out.1.stat;obtain ⟨nm,hnm⟩:=aE (l[k]);rw [hnm] at hc hsz;have HSZ:=J hsz;have hds:=qI (fixed:=true) hkl sk;rw [hnm,←HD.out] at hds;have HDS:=J hds;have c1:wr.cell? ⟨b,off+k,none⟩=some (.string nm):=(hst.cell (p:=⟨b,off+k,none⟩) hbl).trans hc;have g0:(0:Int)≤(k:Int):=I;have g1:(k:Int)<(n:Int):=I;clear hnm hsz hc hst hds
   rename World=>wo
   obtain ⟨s1,hs1⟩:=aE ((if (cE sk.names nm).isSome || dH nm then aG sk nm 16 else sk));have HS1:=J hs1;have HS1N:Hid (s1.temps=sk.temps):=J (by rw [←hs1];split;unfold aG;split <;> rfl;rfl);clear hs1;obtain ⟨isS,his⟩:=aE ((cE sk.names nm).isSome);have HIS:=J his
   go_upto_region 3 with fail
   go_cut [9] (fun v wx=>v= .bool isS∧Below wo.heap.size wo wx)
   case first=>
    exact Z4
   case rest=>
   obtain ⟨rfl,hb1⟩:=hcut;have HX1:=J (HX.out.below hb1);clear hb1 HX his;have HX:=J HX1.out;clear HX1;obtain ⟨tb,htb⟩:=aE ((isS || dH nm));have HTB:=J htb
   rename World=>wc0
   go_upto_region 4 with fail
   go_cut [26] (fun v wx=>v= .bool tb∧wx=wc0)
   case first=>
    exact Z7
   case rest=>
   obtain ⟨rfl,hwc⟩:=hcut;replace hwc:=hwc.symm;subst hwc;clear htb
   go_upto_if 26 with fail
   go_cut [] (fun wx=>CT w0 P w wx cb m s1)
   case first=>
    exact Z6
   case rest=>
    clear HX;have HX:=J hcut;clear hcut;have hbd:gL sk nm=(if s1.temps=24 then aG s1 nm 18 else s1):=by rw [←HS1.out];rfl
    obtain ⟨s2,hs2⟩:=aE (gL sk nm);rw [hs2] at hbd;have HBD:=J hbd;have HS2:=J hs2;clear hbd hs2;obtain ⟨lv,cv,nv,D1,ps,hy,hfw⟩:=HX.out.1;have k2:wc.cell? ⟨cb,2,none⟩=some (.int .i64 (s1.temps:Int)):=Y15;clear hy
    rename World=>wc1
    go_upto_if 35 with fail
    go_cut [] (fun wx=>CT w0 P w wx cb m s2)
    case first=>
     exact Z5
    case rest=>
     clear HX k2 hfw;have HX:=J hcut;clear hcut;obtain ⟨lv,cv,nv,D1,ps,hy,hfw⟩:=HX.out.1;have k8:wc.cell? ⟨cb,8,none⟩=some (.int .i64 s2.err):=Y15
     by_cases he:s2.err=0
     ·have HE0:=J he;rw [he] at k8;obtain ⟨A,c,hnv,hcl⟩:=hy.names.slice;subst hnv;have HKEEP:=J (qJ sk nm);obtain ⟨n6,hn6⟩:=aE s2.names.length;rw [hn6] at hfw hcl;have HN6:=J hn6;have k6:wc.cell? ⟨cb,6,none⟩=some (.slice A n6 c):=by rw [hy.cell,←hn6];rfl
      have k2:wc.cell? ⟨cb,2,none⟩=some (.int .i64 (s2.temps:Int)):=Y15;have f6:=hy.free 6;have f2:=hy.free 2;have HY:Hid (CY w0 P wc cb m s2 lv cv (.slice A n6 c) D1 ps):=J (by rw [←hn6];exact hy);have ht24:s2.temps≠24:=by
       exact Z12
      have HFEW:Hid (s2.temps≤23∧n6≤8+s2.temps):=J I;have HKK:Hid (nm.size≤bL∧(0:Int)≤(s2.temps:Int)∧(s2.temps:Int)≤1000):=J ⟨HSZ.out,by omega,by omega⟩;clear hy he hn6
      go_upto_region 9 with fail
      have HYA:Hid (CY w0 P (wc.drew.alloc (.cells #[.string nm,.bool false,.bool true,.int .i64 (s2.temps:Int)] 82)) cb m s2 lv cv (.slice A n6 c) D1 ps):=J (HY.out.below ((Below.drew (Below.refl _ _)).alloc aR _) (fun _ z=>z) (fun _ z=>.inl z));have HGK:Hid ((wc.drew.alloc (.cells #[.string nm,.bool false,.bool true,.int .i64 (s2.temps:Int)] 82)).heap[wc.heap.size]? =some (.cells #[.string nm,.bool false,.bool true,.int .i64 (s2.temps:Int)] 82 (0,0))):=J (heap_alloc_new wc.drew _);have k6a:(wc.alloc (.cells #[.string nm,.bool false,.bool true,.int .i64 (s2.temps:Int)] 82)).cell? ⟨cb,6,none⟩=some (.slice A n6 c):=Lib.cell?_alloc_marked _ k6;have k2a:(wc.alloc (.cells #[.string nm,.bool false,.bool true,.int .i64 (s2.temps:Int)] 82)).cell? ⟨cb,2,none⟩=some (.int .i64 (s2.temps:Int)):=Lib.cell?_alloc_marked _ k2
      go_region_law (first | (refine qH rfl _ _ rfl HYA.out Y10 (G:=wc.heap.size) Y10 ⟨nm,3,(s2.temps:Int)⟩ HKK.out HGK.out (by have:=HFEW.out;have:=HN6.out;omega) ?_;intro nv5 w5 hna;obtain ⟨A5,n5,c5,hnv5⟩:=hna.sl;subst hnv5;have HNA:=J hna;have s5:w5.cell? ⟨cb,6,none⟩=some (.slice A n6 c):=Y98;have sf5:w5.frozen? ⟨cb,6,none⟩=false:=Y101;clear hna))
      all_goals
       have k2n:(w5.setCell ⟨cb,6,none⟩ (.slice A5 n5 c5)).cell? ⟨cb,2,none⟩=some (.int .i64 (s2.temps:Int)):=by rw [HNA.out.cy.cell];rfl
       have f2n:=HNA.out.cy.free 2;go_wp2_with fail;go_roundw
       case rel=>
        refine ⟨k+1,kS s2 nm true,by go_num,hlt,⟨⟨lv,cv,_,D1,ps,HNA.out.cy.store (s':=kS s2 nm true) 2 _ (by simp [fR,kS]) rfl rfl HNA.out.cy.names HNA.out.cy.nok HNA.out.cy.enm,?_,?_⟩,?_⟩,?_⟩
        ·have:=HFEW.out;show s2.temps+1≤24;omega
        ·exact Z13
        ·exact Z11
        ·rw [HDS.out,HS2.out,if_neg (by rw [HE0.out];decide)]
       case measure=>simp [intOf];omega
     ·exact Z8
  ·exact Z10
theorem uL {w0 w:World} {P:Nat→Prop} {cb:Nat} {m:MK} {s:CSt} (h:CX w0 P w cb m s) {D:Nat→Prop} {p:Option Addr} {n c0:Nat} {l:List ByteArray} (hs:Strs w0 D p l) (hn:l.length=n) (hle:n≤9223372036854775807):Calls Tryz.prog 54 #[.pointer (some ⟨cb,0,none⟩),.slice p n c0,.bool false] w fun e w'=>e= .returned (.tuple #[])∧CT w0 P w w' cb m (bI false l s):=by
 have HS:=J hs;have HN:=J hn;have H0:=J h;clear hs hn h;go_enter Tryz.func54,Tryz.ntmps54;go_wp2_with fail
 go_loopw [12] (fun i wr=>∃(k:Nat) (sk:CSt),i= .int .i64 k∧k≤n∧CT w0 P w wr cb m sk∧bI false l s=bI false (l.drop k) sk) (fun i _=>n-(intOf i).toNat)
 case atStart=>exact ⟨0,s,rfl,Nat.zero_le _,H0.out.ct,rfl⟩
 case round=>
  obtain ⟨k,sk,rfl,hk,hct,hde⟩:=hrel;have HX:=J hct;have HD:=J hde;clear hct hde H0
  by_cases hlt:k<n
  ·have d1:=aD hlt;have d2:=aT hlt;have hkl:k<l.length:=Y111;obtain ⟨b,off,rfl,hbl,_,hc,hsz⟩:=HS.out k hkl;have hst:=HX.out.1.stat;obtain ⟨nm,hnm⟩:=aE (l[k]);rw [hnm] at hc hsz;have HSZ:=J hsz;have hds:=qI (fixed:=false) hkl sk;rw [hnm,←HD.out] at hds;have HDS:=J hds;have c1:wr.cell? ⟨b,off+k,none⟩=some (.string nm):=(hst.cell (p:=⟨b,off+k,none⟩) hbl).trans hc;have g0:(0:Int)≤(k:Int):=I;have g1:(k:Int)<(n:Int):=I;clear hnm hsz hc hst hds
   rename World=>wo
   obtain ⟨s1,hs1⟩:=aE ((if (cE sk.names nm).isSome || dH nm then aG sk nm 16 else sk));have HS1:=J hs1;have HS1N:Hid (s1.temps=sk.temps):=J (by rw [←hs1];split;unfold aG;split <;> rfl;rfl);clear hs1;obtain ⟨isS,his⟩:=aE ((cE sk.names nm).isSome);have HIS:=J his
   go_upto_region 3 with fail
   go_cut [9] (fun v wx=>v= .bool isS∧Below wo.heap.size wo wx)
   case first=>
    exact Z4
   case rest=>
   obtain ⟨rfl,hb1⟩:=hcut;have HX1:=J (HX.out.below hb1);clear hb1 HX his;have HX:=J HX1.out;clear HX1;obtain ⟨tb,htb⟩:=aE ((isS || dH nm));have HTB:=J htb
   rename World=>wc0
   go_upto_region 4 with fail
   go_cut [26] (fun v wx=>v= .bool tb∧wx=wc0)
   case first=>
    exact Z7
   case rest=>
   obtain ⟨rfl,hwc⟩:=hcut;replace hwc:=hwc.symm;subst hwc;clear htb
   go_upto_if 26 with fail
   go_cut [] (fun wx=>CT w0 P w wx cb m s1)
   case first=>
    exact Z6
   case rest=>
    clear HX;have HX:=J hcut;clear hcut;have hbd:gL sk nm=(if s1.temps=24 then aG s1 nm 18 else s1):=by rw [←HS1.out];rfl
    obtain ⟨s2,hs2⟩:=aE (gL sk nm);rw [hs2] at hbd;have HBD:=J hbd;have HS2:=J hs2;clear hbd hs2;obtain ⟨lv,cv,nv,D1,ps,hy,hfw⟩:=HX.out.1;have k2:wc.cell? ⟨cb,2,none⟩=some (.int .i64 (s1.temps:Int)):=Y15;clear hy
    rename World=>wc1
    go_upto_if 35 with fail
    go_cut [] (fun wx=>CT w0 P w wx cb m s2)
    case first=>
     exact Z5
    case rest=>
     clear HX k2 hfw;have HX:=J hcut;clear hcut;obtain ⟨lv,cv,nv,D1,ps,hy,hfw⟩:=HX.out.1;have k8:wc.cell? ⟨cb,8,none⟩=some (.int .i64 s2.err):=Y15
     by_cases he:s2.err=0
     ·have HE0:=J he;rw [he] at k8;obtain ⟨A,c,hnv,hcl⟩:=hy.names.slice;subst hnv;have HKEEP:=J (qJ sk nm);obtain ⟨n6,hn6⟩:=aE s2.names.length;rw [hn6] at hfw hcl;have HN6:=J hn6;have k6:wc.cell? ⟨cb,6,none⟩=some (.slice A n6 c):=by rw [hy.cell,←hn6];rfl
      have k2:wc.cell? ⟨cb,2,none⟩=some (.int .i64 (s2.temps:Int)):=Y15;have f6:=hy.free 6;have f2:=hy.free 2;have HY:Hid (CY w0 P wc cb m s2 lv cv (.slice A n6 c) D1 ps):=J (by rw [←hn6];exact hy);have ht24:s2.temps≠24:=by
       exact Z12
      have HFEW:Hid (s2.temps≤23∧n6≤8+s2.temps):=J I;have HKK:Hid (nm.size≤bL∧(0:Int)≤(s2.temps:Int)∧(s2.temps:Int)≤1000):=J ⟨HSZ.out,by omega,by omega⟩;clear hy he hn6
      go_upto_region 9 with fail
      have HYA:Hid (CY w0 P (wc.drew.alloc (.cells #[.string nm,.bool false,.bool false,.int .i64 (s2.temps:Int)] 82)) cb m s2 lv cv (.slice A n6 c) D1 ps):=J (HY.out.below ((Below.drew (Below.refl _ _)).alloc aR _) (fun _ z=>z) (fun _ z=>.inl z));have HGK:Hid ((wc.drew.alloc (.cells #[.string nm,.bool false,.bool false,.int .i64 (s2.temps:Int)] 82)).heap[wc.heap.size]? =some (.cells #[.string nm,.bool false,.bool false,.int .i64 (s2.temps:Int)] 82 (0,0))):=J (heap_alloc_new wc.drew _);have k6a:(wc.alloc (.cells #[.string nm,.bool false,.bool false,.int .i64 (s2.temps:Int)] 82)).cell? ⟨cb,6,none⟩=some (.slice A n6 c):=Lib.cell?_alloc_marked _ k6;have k2a:(wc.alloc (.cells #[.string nm,.bool false,.bool false,.int .i64 (s2.temps:Int)] 82)).cell? ⟨cb,2,none⟩=some (.int .i64 (s2.temps:Int)):=Lib.cell?_alloc_marked _ k2
      go_region_law (first | (refine qH rfl _ _ rfl HYA.out Y10 (G:=wc.heap.size) Y10 ⟨nm,2,(s2.temps:Int)⟩ HKK.out HGK.out (by have:=HFEW.out;have:=HN6.out;omega) ?_;intro nv5 w5 hna;obtain ⟨A5,n5,c5,hnv5⟩:=hna.sl;subst hnv5;have HNA:=J hna;have s5:w5.cell? ⟨cb,6,none⟩=some (.slice A n6 c):=Y98;have sf5:w5.frozen? ⟨cb,6,none⟩=false:=Y101;clear hna))
      all_goals
       have k2n:(w5.setCell ⟨cb,6,none⟩ (.slice A5 n5 c5)).cell? ⟨cb,2,none⟩=some (.int .i64 (s2.temps:Int)):=by rw [HNA.out.cy.cell];rfl
       have f2n:=HNA.out.cy.free 2;go_wp2_with fail;go_roundw
       case rel=>
        refine ⟨k+1,kS s2 nm false,by go_num,hlt,⟨⟨lv,cv,_,D1,ps,HNA.out.cy.store (s':=kS s2 nm false) 2 _ (by simp [fR,kS]) rfl rfl HNA.out.cy.names HNA.out.cy.nok HNA.out.cy.enm,?_,?_⟩,?_⟩,?_⟩
        ·have:=HFEW.out;show s2.temps+1≤24;omega
        ·exact Z13
        ·exact Z11
        ·rw [HDS.out,HS2.out,if_neg (by rw [HE0.out];decide)]
       case measure=>simp [intOf];omega
     ·exact Z8
  ·exact Z10
theorem decl_any {w0 w:World} {P:Nat→Prop} {cb:Nat} {m:MK} {s:CSt} (h:CX w0 P w cb m s) {D:Nat→Prop} {p:Option Addr} {n c0:Nat} {l:List ByteArray} (hs:Strs w0 D p l) (hn:l.length=n) (hle:n≤9223372036854775807) (fixed:Bool):Calls Tryz.prog 54 #[.pointer (some ⟨cb,0,none⟩),.slice p n c0,.bool fixed] w fun e w'=>e= .returned (.tuple #[])∧CT w0 P w w' cb m (bI fixed l s):=by
 cases fixed
 ·exact uL h hs hn hle
 ·exact xI h hs hn hle
theorem lG {w0 ws w1 w:World} {P:Nat→Prop} {cb:Nat} {m:MK} {s:CSt} (h:CT w0 P ws w1 cb m s) (hb:Below w1.heap.size w1 w) {D:Nat→Prop} {p:Option Addr} {n c0:Nat} {l:List ByteArray} (hs:Strs w0 D p l) (hn:l.length=n) (hle:n≤9223372036854775807) (fixed:Bool):Calls Tryz.prog 54 #[.pointer (some ⟨cb,0,none⟩),.slice p n c0,.bool fixed] w fun e w'=>e= .returned (.tuple #[])∧CT w0 P ws w' cb m (bI fixed l s):=by
 have h2:=h.below hb;refine (decl_any h2.1 hs hn hle fixed).mono ?_;rintro e w' ⟨he,hc⟩;exact ⟨he,h2.go hc⟩
theorem mF:∀(l r:List LitT),l.length≠r.length→fN l r=false
 | [],[],h=>absurd rfl h
 | [],_ :: _,_=>rfl
 | _ :: _,[],_=>rfl
 | a :: l,b :: r,h=>by
  unfold fN;rw [mF l r Y123,Bool.and_false]
theorem nP:∀(l r:List LitT) (k:Nat) (h1:k<l.length) (h2:k<r.length),eA l[k] r[k]=false→fN l r=false
 | a :: l,b :: r,0,_,_,h=>by
  unfold fN;rw [show eA a b=false from h,Bool.false_and]
 | a :: l,b :: r,k+1,h1,h2,h=>by
  unfold fN;rw [nP l r k (by simpa using h1) (by simpa using h2) h,Bool.and_false]
theorem mG:∀(l r:List LitT),l.length=r.length→(∀k (h1:k<l.length) (h2:k<r.length),eA l[k] r[k]=true)→fN l r=true
 | [],[],_,_=>rfl
 | [],_ :: _,h,_=>by simp at h
 | _ :: _,[],h,_=>by simp at h
 | a :: l,b :: r,h,hk=>by
  unfold fN;rw [show eA a b=true from hk 0 Y12 Y12,mG l r Y123 (fun k h1 h2=>hk (k+1) (by simpa using h1) (by simpa using h2))]
  rfl
theorem sJ (a b:LitT):eA a b=(a.kind_==b.kind_ && a.text_.toList==b.text_.toList && a.num_==b.num_ && fN a.kids_ b.kids_):=by cases a;cases b;rfl
def Kids (w:World) (D:Nat→Prop) (p:Option Addr) (l:List LitT) (Q:Nat→LS):Prop:=(∀i (h:i<l.length),∃b cur,p=some ⟨b,0,none⟩∧w.heap[b]? =some (.cells cur 44 (0,0))∧D b∧Cells4 w b (i*4) l[i] (Q i))∧∀i (h:i<l.length),IsLt w D l[i] (Q i)
theorem Kids.under {w w':World} {D:Nat→Prop} {p:Option Addr} {l:List LitT} {Q:Nat→LS} (h:Kids w D p l Q) (hb:Below w.heap.size w w'):Kids w' D p l Q:=⟨fun i hi=>by
 obtain ⟨b,cur,e,k1,k2,k3⟩:=h.1 i hi;have hl:=aA k1;exact ⟨b,cur,e,(hb.block b hl).trans k1,k2,k3.same (hb.block b hl)⟩,fun i hi=>(h.2 i hi).under hb⟩
theorem IsLt.kids {w:World} {D:Nat→Prop} {x:LitT} {q:LS} (h:IsLt w D x q):∃Q,Kids w D q.p x.kids_ Q:=by
 cases h with
 | node x q Q h1 h4 h5=>exact ⟨Q,h4,h5⟩
def Tells1 (w:World) (a:LitT) (qa:LS):Prop:=∀(w1:World) (D':Nat→Prop) (b:LitT) (qb:LS),Below w.heap.size w w1→IsLt w1 D' b qb→Calls Tryz.prog 94 #[ltV a qa,ltV b qb] w1 fun e w'=>e= .returned (.bool (eA a b))∧Below w1.heap.size w1 w'
theorem xJ {w:World} {D D':Nat→Prop} {p p':Option Addr} {l r:List LitT} {Q Q':Nat→LS} {n n' c c':Nat} (hl:Kids w D p l Q) (hr:Kids w D' p' r Q') (hn:l.length=n) (hn':r.length=n') (hm:n≤9223372036854775807) (hm':n'≤9223372036854775807)
  (ht:∀i (h:i<l.length),Tells1 w l[i] (Q i)):Calls Tryz.prog 104 #[.slice p n c,.slice p' n' c',.func (.func 94) #[] #[]] w fun e w'=>e= .returned (.bool (fN l r))∧Below w.heap.size w w':=by
 have HL:=J hl;have HR:=J hr;have HN:=J hn;have HN':=J hn';have HT:=J ht;clear hl hr ht
 by_cases hnn:n=n'
 ·have hlr:l.length=r.length:=I;have HLR:=J hlr;subst hnn;clear hn hn' hlr;go_enter Tryz.func104,Tryz.ntmps104;go_wp2_with fail
  go_loopw [17] (fun i wr=>∃k:Nat,i= .int .i64 k∧k≤n∧Below w.heap.size w wr∧∀j (h1:j<l.length) (h2:j<r.length),j<k→eA l[j] r[j]=true) (fun i _=>n-(intOf i).toNat)
  case atStart=>exact ⟨0,rfl,Nat.zero_le _,Below.refl _ _,fun j _ _ h=>absurd h I⟩
  case round=>
   obtain ⟨k,rfl,hk,hbw,hall⟩:=hrel;have HB:=J hbw;have HALL:=J hall;clear hall
   by_cases hlt:k<n
   ·have d1:=aD hlt;have d2:=aT hlt;have h1:k<l.length:=by have:=HN.out;omega
    have h2:k<r.length:=by have:=HN'.out;omega
    have hKL:=HL.out.under hbw;have hKR:=HR.out.under hbw;obtain ⟨ba,cura,hpa,hha,_,hca⟩:=hKL.1 k h1;have ea0:=hca.c0;have ea1:=hca.c1;have ea2:=hca.c2;have ea3:=hca.c3;obtain ⟨bb,curb,hpb,hhb,_,hcb⟩:=hKR.1 k h2;have eb0:=hcb.c0;have eb1:=hcb.c1;have eb2:=hcb.c2;have eb3:=hcb.c3;subst hpa;subst hpb;have hab:ba<wr.heap.size:=aA hha;have hbb:bb<wr.heap.size:=aA hhb;obtain ⟨xa,hxa⟩:=aE (l[k]);obtain ⟨xb,hxb⟩:=aE (r[k]);obtain ⟨qa,hqa⟩:=aE (Q k);obtain ⟨qb,hqb⟩:=aE (Q' k);have hlb:=hKR.2 k h2;have hta:=HT.out k h1;rw [hxa,hqa] at hta;rw [hxb,hqb] at hlb;rw [hxa] at ea0 ea1 ea2;rw [hxa,hqa] at ea3;rw [hxb] at eb0 eb1 eb2;rw [hxb,hqb] at eb3;have HSA:Hid (eA l[k] r[k]=eA xa xb):=J (by rw [hxa,hxb]);have hW:∀W,Below wr.heap.size wr W→Calls Tryz.prog 94 #[ltV xa qa,ltV xb qb] W fun e w'=>e= .returned (.bool (eA xa xb))∧Below wr.heap.size wr w':=fun W hW=>(hta W _ _ _ (hbw.trans (hW.mono hbw.size)) (hlb.under hW)).mono (fun e w' ⟨he,hb⟩=>⟨he,hW.trans (hb.mono hW.size)⟩)
    obtain ⟨v,hv⟩:=aE (eA xa xb);rw [hv] at hW;have HW:=J hW;have HV:=J hv;have HX:=J (And.intro ea0 (And.intro ea1 (And.intro ea2 ea3)));have HY:=J (And.intro eb0 (And.intro eb1 (And.intro eb2 eb3)));have g0:(0:Int)≤(k:Int):=I;have g1:(k:Int)<(n:Int):=I;clear hW hv hta hlb hxa hxb hqa hqb hca hcb hha hhb hKL hKR;unfold ltV at HW
    cases v with
    | true=>
     go_wp2_with (first | (go_at_call 94;(with_reducible refine (HW.out _ bel).mono ?_);rintro e w3 ⟨rfl,HB3⟩;replace HB3:=J HB3));go_roundw
     case rel=>
      refine ⟨k+1,by go_num,hlt,HB.out.trans (HB3.out.mono HB.out.size),fun j h3 h4 hj=>?_⟩
      rcases Nat.lt_or_ge j k with q | q
      ·exact HALL.out j h3 h4 q
      ·obtain rfl:j=k:=I;rw [HSA.out,HV.out]
     case measure=>simp [intOf];omega
    | false=>
     go_wp2_with (first | (go_at_call 94;(with_reducible refine (HW.out _ bel).mono ?_);rintro e w3 ⟨rfl,HB3⟩;replace HB3:=J HB3));go_ret;exact ⟨by rw [nP l r k h1 h2 (by rw [HSA.out,HV.out])];rfl,HB.out.trans (HB3.out.mono HB.out.size)⟩
   ·have hkn:k=n:=I;have d1:=aK hlt;have d2:=aF hlt;clear hlt;subst hkn;go_wp2_with fail;go_ret;exact ⟨by rw [mG l r HLR.out (fun j h1 h2=>HALL.out j h1 h2 (by have:=HN.out;omega))];rfl,HB.out⟩
 ·have HV:Hid (fN l r=false):=J (mF l r I);have d1:(n==n')=false:=by simpa using hnn
  have d2:((n:Int)==(n':Int))=false:=Y4;have d3:decide ((n:Int)=(n':Int))=false:=aK I;clear hn hn';go_enter Tryz.func104,Tryz.ntmps104;go_wp2_with fail;go_ret;exact ⟨by rw [HV.out];rfl,Below.refl _ _⟩
theorem Tells1.under {w w1:World} {a:LitT} {q:LS} (h:Tells1 w a q) (hb:Below w.heap.size w w1):Tells1 w1 a q:=fun W D' b qb hW hl=>h W D' b qb (hb.trans (hW.mono hb.size)) hl
theorem equal_of (w:World) {W:World} (hW:Below w.heap.size w W) {D D':Nat→Prop} {p p':Option Addr} {l r:List LitT} {Q Q':Nat→LS} {n n' c c':Nat} (hl:Kids w D p l Q) (hr:Kids w D' p' r Q') (hn:l.length=n) (hn':r.length=n') (hm:n≤9223372036854775807) (hm':n'≤9223372036854775807)
  (ht:∀i (h:i<l.length),Tells1 w l[i] (Q i)):Calls Tryz.prog 104 #[.slice p n c,.slice p' n' c',.func (.func 94) #[] #[]] W fun e w'=>e= .returned (.bool (fN l r))∧Below w.heap.size w w':=
 (xJ (hl.under hW) (hr.under hW) hn hn' hm hm' (fun i hi=>(ht i hi).under hW)).mono (fun e w' ⟨he,hb⟩=>⟨he,hW.trans (hb.mono hW.size)⟩)
theorem Z14 {P:Prop} (h:P:=by
 go_enter Tryz.func94,Tryz.ntmps94;go_wp2_with fail;go_ret;exact ⟨aY Y49,bel⟩):P:=h
theorem same_any {w:World} {D:Nat→Prop} {a:LitT} {qa:LS} (h:IsLt w D a qa):Tells1 w a qa:=by
 induction h with
 | node x q Q h1 h4 h5 ih=>
 intro w1 D' b qb hb hlb;obtain ⟨Q',hkb⟩:=hlb.kids;have hka0:Kids w D q.p x.kids_ Q:=⟨h4,h5⟩;have HKA:=J (Kids.under hka0 hb);clear hka0;have HKB:=J hkb;have HIH:Hid (∀i (h:i<x.kids_.length),Tells1 w1 x.kids_[i] (Q i)):=J (fun i h=>(ih i h).under hb);have hma:=h1.klen.2;have hma':=h1.klen.1;have hmb:=hlb.ok.klen.2;have hmb':=hlb.ok.klen.1;rw [sJ];unfold ltV;obtain ⟨na,hna⟩:=aE x.kids_.length;obtain ⟨nb,hnb⟩:=aE b.kids_.length;obtain ⟨ka,hka⟩:=aE x.kind_;obtain ⟨kb,hkb2⟩:=aE b.kind_;obtain ⟨ta,hta⟩:=aE x.text_;obtain ⟨tb,htb⟩:=aE b.text_;obtain ⟨ma,hma3⟩:=aE x.num_;obtain ⟨mb,hmb3⟩:=aE b.num_;obtain ⟨v,hv⟩:=aE (fN x.kids_ b.kids_);have HNA:=J hna;have HNB:=J hnb;have HVK:=J hv;rw [hna] at hma' ⊢;rw [hnb] at hmb' ⊢;rw [hka,hkb2,hta,htb,hma3,hmb3,hv];have hna2:na≤9223372036854775807:=by unfold maxLen at hma;omega
 have hnb2:nb≤9223372036854775807:=by unfold maxLen at hmb;omega
 clear hna hnb hka hkb2 hta htb hma3 hmb3 hv hma hma' hmb hmb' hkb hlb ih h1 h4 h5
 by_cases e1:ka=kb
 ·subst e1
  cases e2:ta.toList==tb.toList with
  | true=>
   by_cases e3:ma=mb
   ·subst e3;go_enter Tryz.func94,Tryz.ntmps94;go_wp2_with (first | (go_at_call 104;(with_reducible refine (equal_of w1 bel HKA.out HKB.out HNA.out HNB.out I I HIH.out).mono ?_);rw [HVK.out];rintro e w3 ⟨rfl,HB3⟩;replace HB3:=J HB3));go_ret;exact ⟨aY Y49,HB3.out⟩
   ·have d3:(ma==mb)=false:=Y147;exact Z14
  | false=>
   exact Z14
 ·have d1:(ka==kb)=false:=Y29;exact Z14
theorem lclo_any {w:World} {fb:Nat} {k l:LitT} {qk q:LS} {Dl:Nat→Prop} {fr:Nat×Nat} (hfb:w.heap[fb]? =some (.cells #[.int .i64 l.kind_,.string l.text_,.int .i64 l.num_,.slice q.p l.kids_.length q.c] 44 fr)) (hk:Tells1 w k qk) (hl:IsLt w Dl l q):Calls Tryz.prog 93 #[ltV k qk,.pointer (some ⟨fb,0,none⟩)] w fun e w'=>e= .returned (.bool (eA k l))∧Below w.heap.size w w':=by
 have c0:w.cell? ⟨fb,0,none⟩=some (.int .i64 l.kind_):=Y150;have c1:w.cell? ⟨fb,1,none⟩=some (.string l.text_):=Y150;have c2:w.cell? ⟨fb,2,none⟩=some (.int .i64 l.num_):=Y150;have c3:w.cell? ⟨fb,3,none⟩=some (.slice q.p l.kids_.length q.c):=Y150;have hfl:=aA hfb;have hW:∀W,Below w.heap.size w W→Calls Tryz.prog 94 #[ltV k qk,ltV l q] W fun e w'=>e= .returned (.bool (eA k l))∧Below w.heap.size w w':=fun W hW=>(hk W _ _ _ hW (hl.under hW)).mono (fun e w' ⟨he,hb⟩=>⟨he,hW.trans (hb.mono hW.size)⟩)
 unfold ltV at hW ⊢;have HW:=J hW;clear hW hfb hk hl;go_enter Tryz.func93,Tryz.ntmps93;go_wp2_with (go_at_call 94;(with_reducible refine (HW.out _ bel).mono ?_);rintro e w3 ⟨rfl,HB3⟩;replace HB3:=J HB3);go_ret;exact ⟨rfl,HB3.out⟩
theorem oW {w:World} {D Dl:Nat→Prop} {A:Option Addr} {n c:Nat} {ps:List LP} (hR:LitRow w D (.slice A n c) ps) (hn:ps.length=n) (hle:n≤1000000) {fb:Nat} {l:LitT} {q:LS} {fr:Nat×Nat} (hfb:w.heap[fb]? =some (.cells #[.int .i64 l.kind_,.string l.text_,.int .i64 l.num_,.slice q.p l.kids_.length q.c] 44 fr)) (hl:IsLt w Dl l q):Calls Tryz.prog 92 #[.slice A n c,.func (.func 93) #[] #[.pointer (some ⟨fb,0,none⟩)]] w fun e w'=>e= .returned (.int .i64 (rN ((ps.map Prod.fst).findIdx? (fun k=>eA k l))))∧Below w.heap.size w w':=by
 have HR:=J hR;have HN:=J hn;have HF:=J hfb;have HL:=J hl;have HLM:Hid ((ps.map Prod.fst).length=n):=J (by rw [List.length_map];exact hn);clear hR hn hfb hl;go_enter Tryz.func92,Tryz.ntmps92;go_wp2_with fail
 go_loopw [8] (fun i wr=>∃k:Nat,k≤n∧i= .int .i64 k∧((ps.map Prod.fst).take k).any (fun k=>eA k l)=false∧Below w.heap.size w wr) (fun i _=>n-(intOf i).toNat)
 case atStart=>exact ⟨0,Nat.zero_le _,rfl,rfl,Below.refl _ _⟩
 case round=>
  obtain ⟨k,hk,rfl,hall,hbw⟩:=hrel;have HALL:=J hall;have HBW:=J hbw;clear hall
  by_cases hlt:k<n
  ·have d1:=aD hlt;have hkl:k<ps.length:=Y111;have hkm:k<(ps.map Prod.fst).length:=by rw [HLM.out];exact hlt
   obtain ⟨b,c',cur,hv,_,hh,hc⟩:=HR.out.at_ hkl;simp only [Value.slice.injEq] at hv;obtain ⟨rfl,hx9,rfl⟩:=hv;clear hx9;have hbl:=aA hh;have hcw:=hc.same (hbw.block b hbl);obtain ⟨px,hpx⟩:=aE (ps[k]);have hlk:=HR.out.lits px (by rw [←hpx];exact List.getElem_mem hkl);have HPX:Hid ((ps.map Prod.fst)[k]=px.1):=J (by rw [List.getElem_map,hpx]);rw [hpx] at hcw;obtain ⟨kx,qx⟩:=px;have c0:=hcw.c0;have c1:=hcw.c1;have c2:=hcw.c2;have c3:=hcw.c3;simp only at c0 c1 c2 c3;have hcl:=lclo_any ((hbw.block fb (aA HF.out)).trans HF.out) ((same_any hlk).under hbw) (HL.out.under hbw);unfold ltV at hcl;have g0:(0:Int)≤(k:Int):=I;have g1:(k:Int)<(n:Int):=I;simp only at hcl;obtain ⟨v,hv⟩:=aE (eA kx l);rw [hv] at hcl;have HV:=J hv;have HCL:=J hcl;clear hpx hv hcl hcw hc hh hbw hlk
   cases v
   ·go_wp2_with (go_at_call 93;(with_reducible refine HCL.out.mono ?_);rintro e w1 ⟨rfl,HB1⟩;replace HB1:=J HB1);go_roundw
    case rel=>exact ⟨k+1,by omega,by go_num,gH hkm Y141 HALL.out,HBW.out.trans (HB1.out.mono HBW.out.size)⟩
    case measure=>simp [intOf];omega
   ·go_wp2_with (go_at_call 93;(with_reducible refine HCL.out.mono ?_);rintro e w1 ⟨rfl,HB1⟩;replace HB1:=J HB1);go_ret;exact ⟨by rw [gU hkm HALL.out Y141];rfl,HBW.out.trans (HB1.out.mono HBW.out.size)⟩
  ·have hkn:k=n:=I;have d1:=aK hlt;clear hlt;subst hkn;go_wp2_with fail;go_ret;refine ⟨?_,HBW.out⟩;have h9:=HALL.out;rw [←HLM.out,List.take_length] at h9;rw [gV h9]
   rfl
theorem wI:(Tryz.prog.info? 44).map (fun i=>(i.zero,i.size,i.bytes))=some (some (.agg #[.int .i64 0,.string eB,.int .i64 0,.slice none 0 0]),4,56):=Y40
theorem cJ {w:World} {base n size g cap j:Nat} {e:TypeId} {xs:List Value} (h:w.ownsRow base e size (.slice (some ⟨g,0,none⟩) n cap) n xs) (v:Value) (hj:j<n*size):(w.setCell ⟨g,j,none⟩ v).ownsRow base e size (.slice (some ⟨g,0,none⟩) n cap) n (xs.set j v):=by
 refine ⟨by rw [List.length_set];exact h.1,?_⟩
 rcases h.2 with ⟨h1,_⟩ | ⟨g',cap',cur,hv,hg,hh,h1,h2,h3,h4⟩
 ·cases h1
 ·cases hv
  refine .inr ⟨g,cap,cur.set! j v,rfl,hg,heap_setCell_same w g j _ _ _ hh,h1,h2,by simpa using h3,?_⟩;rw [Array.set!_eq_setIfInBounds,Array.toList_setIfInBounds,List.take_set,h4]
structure Litted (w0:World) (P:Nat→Prop) (w w':World) (cb:Nat) (m:MK) (s:CSt) (lv cv nv:Value) (D:Nat→Prop) (ps:List LP) (lv':Value) (Dl:Nat→Prop) (p:LP):Prop where
 box:w'.heap[cb]? =some (.cells (fR m s lv cv nv) 80 (0,0))
 cy:CY w0 P (w'.setCell ⟨cb,4,none⟩ lv') cb m {s with lits:=s.lits++[p.1]} lv' cv nv (fun k=>D k∨Dl k) (ps++[p])
 ts:Turns (cP P) w (w'.setCell ⟨cb,4,none⟩ lv')
 sl:∃g c,lv'= .slice (some ⟨g,0,none⟩) (ps.length+1) c∧g≠cb
theorem CY.litted {w0 w:World} {P:Nat→Prop} {cb:Nat} {m:MK} {s:CSt} {lv cv nv:Value} {D:Nat→Prop} {ps:List LP} {w':World} {lv':Value} (h:CY w0 P w cb m s lv cv nv D ps) (p:LP) {Dl:Nat→Prop} (hp:IsLt w Dl p.1 p.2) (hD:∀k,Dl k→(lv.ownBlock≠some k∧w0.heap.size≤k)∧∃cur,w.heap[k]? =some (.cells cur 44 (0,0)))
  (hown:w'.ownsRow 0 44 4 lv' (ps.length+1) (ps.flatMap lpC++lpC p)) (hg:w.grownBy w' lv.ownBlock) (hat:lv'.ownBlock=lv.ownBlock∨lv'.ownBlock=some w.heap.size):Litted w0 P w w' cb m s lv cv nv D ps lv' Dl p:=by
 obtain ⟨n1,n2⟩:=h.ne;have ht:Turns (fun k=>lv.ownBlock=some k) w w':=⟨hg.os,hg.tape,hg.output,hg.size,fun k hk hs=>hg.block k hk (fun e=>hs e.symm)⟩;have hcb:=aA h.box;have hbx:w'.heap[cb]? =some (.cells (fR m s lv cv nv) 80 (0,0)):=(ht.block cb hcb (fun e=>(n1 cb e).1 rfl)).trans h.box;have ht2:Turns (fun k=>k=cb) w' (w'.setCell ⟨cb,4,none⟩ lv'):=(Turns.refl _ _).setCell _ _ (.inl rfl);have ht3:Turns (fun k=>lv.ownBlock=some k∨k=cb) w (w'.setCell ⟨cb,4,none⟩ lv'):=(ht.mono (fun _ _ z=>.inl z)).setCell _ _ (.inl (.inr rfl));have hDcb:∀k,Dl k→k≠cb:=fun k hk e=>by
  obtain ⟨cur,hc⟩:=(hD k hk).2;rw [e,h.box] at hc;simp at hc
 have hDlt:∀k,Dl k→k<w.heap.size:=fun k hk=>aA (hD k hk).2.choose_spec
 have hlv':∀k,lv'.ownBlock=some k→(¬P k∧¬(D k∨Dl k))∧k≠cb:=fun k hk=>by
  rcases hat with q | q
  ·rw [q] at hk;exact ⟨⟨(h.lvP k hk).1,fun z=>z.elim (h.lvP k hk).2 (fun y=>(hD k y).1.1 hk)⟩,(n1 k hk).1⟩
  ·rw [q] at hk
   cases hk
   exact ⟨⟨fun z=>by have:=h.lim _ z;omega,fun z=>z.elim (fun y=>by have:=(h.dlt _ y).1;omega) (fun y=>by have:=hDlt _ y;omega)⟩,by omega⟩
 have hnD:∀k,D k∨Dl k→¬(lv.ownBlock=some k∨k=cb):=fun k hk q=>by
  rcases hk with z | z
  ·rcases q with e | e
   ·exact (h.lvP k e).2 z
   ·exact (h.dlt k z).2 e
  ·rcases q with e | e
   ·exact (hD k z).1.1 e
   ·exact hDcb k z e
 refine ⟨hbx,⟨?_,⟨?_,fun x hx=>?_⟩,?_,?_,?_,h.nok,h.cbP,fun k hk=>(hlv' k hk).1,h.cvP,fun k hk=>?_,fun k hk=>?_,?_,h.low,fun k hk=>aN (h.lim k hk) ht3.size,h.enm,fun k hk=>hk.elim (h.dge k) (fun z=>(hD k z).1.2)⟩,?_,?_⟩
 ·rw [heap_setCell_same w' cb 4 _ _ _ hbx];rfl
 ·have e:(ps++[p]).flatMap lpC=ps.flatMap lpC++lpC p:=Y12;rw [e,List.length_append];exact aJ hown ht2.size (fun k hk=>ht2.block k (World.ownsRow.lt hown k hk).2 (hlv' k hk).2)
 ·rcases List.mem_append.1 hx with q | q
  ·exact (h.lits.lits x q).same ht3.size (fun b hb hl=>ht3.block b hl (hnD b (.inl hb))) (fun _ z=>.inl z)
  ·rw [List.mem_singleton.1 q];exact hp.same ht3.size (fun b hb hl=>ht3.block b hl (hnD b (.inr hb))) (fun _ z=>.inr z)
 ·show (ps++[p]).map Prod.fst=s.lits++[p.1]
  rw [List.map_append,h.lps];rfl
 ·exact aJ h.code ht3.size (fun k hk=>ht3.block k (World.ownsRow.lt h.code k hk).2 (fun q=>q.elim (fun e=>(n1 k e).2 hk) (fun e=>(n2 k hk).1 e)))
 ·refine h.names.same ht3.size (fun k hk=>ht3.block k (h.names.lt hk) (fun q=>?_)) (fun _ _ z=>z);obtain ⟨cur,hc⟩:=h.names.type hk
  rcases q with e | e
  ·obtain ⟨cur2,hc2⟩:=bN h.lits.own e;rw [hc] at hc2;simp at hc2
  ·rw [e,h.box] at hc;simp at hc
 ·rcases hk with z | z
  ·exact ⟨aN (h.dlt k z).1 ht3.size,(h.dlt k z).2⟩
  ·exact ⟨aN (hDlt k z) ht3.size,hDcb k z⟩
 ·have:∃cur,w.heap[k]? =some (.cells cur 44 (0,0)):=hk.elim (fun z=>h.dty k z) (fun z=>(hD k z).2);obtain ⟨cur,hc⟩:=this;exact ⟨cur,(ht3.block k (aA hc) (hnD k hk)).trans hc⟩
 ·refine h.stat.trans (ht3.below (fun k q=>?_) h.stat.size)
  rcases Nat.lt_or_ge k w0.heap.size with z | z
  ·exact q.elim (fun e=>absurd (h.low k z) (h.lvP k e).1) (fun e=>absurd (e▸h.low k z) h.cbP)
  ·exact z
 ·exact ht3.mono (fun k _ q=>q.elim (fun e=>(h.lvP k e).1) (fun e=>by rw [e];exact h.cbP))
 ·rcases hown.2 with ⟨_,h0⟩ | ⟨g,cap,cur,hv,_⟩
  ·omega
  ·exact ⟨g,cap,hv,(hlv' g (by rw [hv];rfl)).2⟩
end Go.Proofs.YtnojndgmgkgnpaaGreat
