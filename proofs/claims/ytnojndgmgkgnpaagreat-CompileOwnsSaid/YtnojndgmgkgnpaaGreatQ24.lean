/- Chapter 10: words and contracts for the law. -/
import Derived.Test.YtnojndgmgkgnpaaGreatQ23
import Derived.Laws.AppendOwnNone
import Derived.Test.YtnojndgmgkgnpaaGreatQ22
import Derived.Test.YtnojndgmgkgnpaaGreatQ04
set_option maxRecDepth 100000
set_option maxHeartbeats 40000000
set_option linter.unusedVariables false
set_option linter.unusedSimpArgs false
namespace Go.Proofs.YtnojndgmgkgnpaaGreat.Rf
open Go.ChangeShapes Go.WideShapes Go.ChangeAt Go.RowKit Go.Deep Go.Joins Go.Maps
theorem sI:(Tryz.prog.info? 55).map (fun i=>(i.zero,i.size,i.bytes))=some (some (.agg #[.string eB,.int .i64 0,.int .i64 0]),3,32):=Y40
theorem nfld1:∀(a b c:Value) (w:World),(Instr.field 55 (.agg #[a,b,c]) 1).run Tryz.prog w= .ok b w:=fun _ _ _ _=>by kernel_rfl
theorem yR (s:CSt) (n:ByteArray) (x:Int) (h:s.err≠0):aG s n x=s:=by unfold aG;rw [if_neg h]
theorem decl_err (fixed:Bool) (l:List ByteArray) (s:CSt) (h:s.err≠0):bI fixed l s=s:=by
 cases l with
 | nil=>rfl
 | cons n r=>
  have hf:∀t x,aG s t x=s:=fun t x=>by unfold aG;rw [if_neg h]
  have hb:gL s n=s:=by
   unfold gL;rw [hf];simp only [ite_self,hf]
  unfold bI;rw [hb,if_pos h]
theorem pW (fixed:Bool) (n:ByteArray) (r:List ByteArray) (s:CSt) (h:s.err=0) (ht:((cE s.names n).isSome || dH n)=true):bI fixed (n :: r) s=aG s n 16:=by
 have he:(aG s n 16).err≠0:=by unfold aG;rw [if_pos h];show (16:Int)≠0;decide
 have hb:gL s n=aG s n 16:=by
  have e1:(if ((cE s.names n).isSome || dH n)=true then aG s n 16 else s)=aG s n 16:=if_pos ht;unfold gL;dsimp only;rw [e1,yR _ n 18 he];exact ite_self _
 unfold bI;rw [hb,if_pos he]
theorem yS (fixed:Bool) (n:ByteArray) (r:List ByteArray) (s:CSt) (h:s.err=0) (ht:((cE s.names n).isSome || dH n)=false) (h24:s.temps=24):bI fixed (n :: r) s=aG s n 18:=by
 have he:(aG s n 18).err≠0:=by unfold aG;rw [if_pos h];show (18:Int)≠0;decide
 have hb:gL s n=aG s n 18:=by
  have e1:(if ((cE s.names n).isSome || dH n)=true then aG s n 16 else s)=s:=if_neg (fun z=>by rw [ht] at z;cases z);unfold gL;dsimp only;rw [e1,if_pos h24]
 unfold bI;rw [hb,if_pos he]
theorem yT (fixed:Bool) (n:ByteArray) (r:List ByteArray) (s:CSt) (h:s.err=0) (ht:((cE s.names n).isSome || dH n)=false) (h24:s.temps≠24):bI fixed (n :: r) s=bI fixed r (kS s n fixed):=by
 have hb:gL s n=s:=by
  have e1:(if ((cE s.names n).isSome || dH n)=true then aG s n 16 else s)=s:=if_neg (fun z=>by rw [ht] at z;cases z);unfold gL;dsimp only;rw [e1,if_neg h24]
 conv=>lhs;unfold bI
 rw [hb,if_neg (fun z=>z h)]
theorem vO {w:World} {ops:Array Oper} {rest:List Oper} {o:Oper} {a:Act} {Q:Exit→Act→World→Prop} (hgd:o.guard=none) (s x:Operand)
  (ho:o.op= .call {callee:=.builtin .append,args:=#[s,x],argTypes:=#[51,51]})
  (hs:a.eval s= .slice none 0 0) {v2:Value} {m:Nat} {js:List Nm} (hx:a.eval x=v2) (h2:w.ownsRow 0 55 3 v2 m (js.flatMap nmC)) (hb:m≤1000000)
  (h:∀v' w',w'.ownsRow w.heap.size 55 3 v' m (js.flatMap nmC)→Below w.heap.size w w'→wpList Tryz.prog ops Q rest (a.put o.dst v') w'):wpList Tryz.prog ops Q (o :: rest) a w:=by
 obtain ⟨i0,hi,hz0,hz1,hz2⟩:=cQ sI;have hnil:w.ownsRow w.heap.size 55 3 (.slice none 0 0) 0 []:=World.ownsRow_nil _ _ _ _
 rcases h2.2 with ⟨hv2,h0⟩ | ⟨g,cap,cur,hv2,hg,hh,h1,h3,_⟩
 ·subst h0;have hj:js.flatMap nmC=[]:=by
   have:=h2.1;exact List.eq_nil_of_length_eq_zero (by simpa using this)
  subst hv2;refine wpList_append_own_none (P:=Tryz.prog) hgd s x 51 ho w.heap.size 55 i0 3 Tryz.underlying51 hi (.slice none 0 0) 0 [] hs hnil hx (h _ w ?_ (Below.refl _ _));rw [hj];exact hnil
 ·subst hv2;have hl:=h2.1;refine wpList_append_own (P:=Tryz.prog) _ hgd s x 51 ho w.heap.size 55 i0 (.agg #[.string eB,.int .i64 0,.int .i64 0]) 3 32 Tryz.underlying51 hi hz0 hz1 hz2 rfl Y3 (.slice none 0 0) 0 [] hs hnil ⟨g,0,none⟩ m cap (js.flatMap nmC) hx I (fun j u hj=>by
   rw [hH,Nat.zero_add];have hlt:j<(js.flatMap nmC).length:=by
    rcases Nat.lt_or_ge j (js.flatMap nmC).length with q | q
    ·exact q
    ·rw [List.getElem?_eq_none q] at hj;cases hj
   rw [World.ownsRow.cellAt h2 j I];exact hj) (fun u hu=>by
   obtain ⟨y,_,hy⟩:=List.mem_flatMap.1 hu;unfold nmC at hy;simp only [List.mem_cons,List.not_mem_nil,or_false] at hy
   rcases hy with rfl | rfl | rfl <;> rfl) Y24 I aR ?_
  intro v' w' k2 k3 _;exact h v' w' (by rw [Nat.zero_add,List.nil_append] at k2;exact k2) ⟨k3.os,k3.tape,k3.output,k3.size,fun k hk=>k3.block k hk (by simp [Value.ownBlock])⟩
theorem xD {ops:Array Oper} {o:Oper} {a:Act} {K:Act→World→Prop} {Q:Exit→Act→World→Prop} {E:Prop} {w:World} {v:Value} {n base:Nat} {xs:List Value} {k:Nm} (hgd:o.guard=none) (sl x:Operand)
  (hop:o.op= .call {callee:=.builtin .append,args:=#[sl,x],argTypes:=#[51,51]}) (h:w.ownsRow base 55 3 v n xs) (hs:a.eval sl=v) {G:Nat} (hx:a.eval x= .slice (some ⟨G,0,none⟩) 1 1)
  (hG:w.heap[G]? =some (.cells #[.string k.name,.int .i64 k.kind,.int .i64 k.at_] 55 (0,0))) (hle:n≤100000) (hbase:base≤w.heap.size)
  (hK:∀v' w',w'.ownsRow base 55 3 v' (n+1) (xs++nmC k)→Turns (fun k=>v.ownBlock=some k) w w'→K (a.put o.dst v') w'):if Region.wanted o (yielded ops a.tmps)=true then Oper.wp Tryz.prog o a w K Q else E:=by
 obtain ⟨i0,hi,hz0,hz1,hz2⟩:=cQ sI;have hone:∀u∈nmC k,u.oneCell'=true:=fun u hu=>by
  unfold nmC at hu;simp only [List.mem_cons,List.not_mem_nil,or_false] at hu
  rcases hu with rfl | rfl | rfl <;> rfl
 rw [if_pos Y92];obtain ⟨v',w',hr,h2,h3,_,h5⟩:=run_append_own_at (P:=Tryz.prog) w base 51 o.type 55 i0 (.agg #[.string eB,.int .i64 0,.int .i64 0]) 3 32 Tryz.underlying51 hi hz0 hz1 hz2 rfl Y3 v n _ h ⟨G,0,none⟩ 1 1 (nmC k) rfl (cY hG) hone Y24 I hbase;unfold Oper.wp execOp;simp only [hop,resolve,invoke,builtin,Sem.run_bind,Sem.run_pure,Result.andThen_ok,List.map_toArray,List.map_cons,List.map_nil,hs,hx,hr];exact hK v' w' h2 ⟨h3.os,h3.tape,h3.output,h3.size,fun k hk hs=>h3.block k hk (fun e=>hs e.symm)⟩
theorem CY.named {w0 w:World} {P:Nat→Prop} {cb:Nat} {m:MK} {s:CSt} {lv cv nv:Value} {D:Nat→Prop} {ps:List LP} {w5:World} {v5:Value} {base:Nat} (h:CY w0 P w cb m s lv cv nv D ps) {v7:Value} (hv7:∀k,v7.ownBlock=some k→base≤k) (hP:∀k,P k→k<base) (hbb:cb<base) (hlb:∀k,lv.ownBlock=some k→k<base) (hcb:∀k,cv.ownBlock=some k→k<base) (hnb:∀k,nv.ownBlock=some k→k<base) (hDb:∀k,D k→k<base)
  (ht:Turns (fun k=>v7.ownBlock=some k) w w5) (nm:ByteArray) (fixed:Bool) (hnm:nm.size≤bL) (hts:s.temps≤100) (hown:w5.ownsRow base 55 3 v5 (s.names.length+1) (s.names.flatMap nmC++nmC ⟨nm,if fixed then 3 else 2,(s.temps:Int)⟩)):
  CY w0 P w5 cb m s lv cv nv D ps∧CY w0 P ((w5.setCell ⟨cb,6,none⟩ v5).setCell ⟨cb,2,none⟩ (.int .i64 ((s.temps:Int)+1))) cb m (kS s nm fixed) lv cv v5 D ps∧Turns (cP P) w ((w5.setCell ⟨cb,6,none⟩ v5).setCell ⟨cb,2,none⟩ (.int .i64 ((s.temps:Int)+1))):=by
 have hS:∀k,v7.ownBlock=some k→¬P k:=fun k e z=>by have:=hv7 k e;have:=hP k z;omega
 have h5:=h.same ht hS (fun k hk e=>by have:=hv7 k e;have:=hlb k hk;omega) (fun k hk e=>by have:=hv7 k e;have:=hcb k hk;omega) (fun k hk e=>by have:=hv7 k e;have:=hnb k hk;omega) (fun k hk e=>by have:=hv7 k e;have:=hDb k hk;omega) (ht.block _ (aA h.box) (fun e=>by have:=hv7 cb e;omega));have hrow:NmRow w5 v5 (kS s nm fixed).names:=by
  show w5.ownsRow 0 55 3 v5 (s.names++[_]).length ((s.names++[_]).flatMap nmC)
  rw [List.length_append,List.flatMap_append,List.flatMap_cons,List.flatMap_nil,List.append_nil];exact bR hown (Nat.zero_le _)
 have hok:sH (kS s nm fixed).names:=fun x hx=>by
  rcases List.mem_append.1 hx with q | q
  ·exact h.nok x q
  ·rw [List.mem_singleton.1 q];exact ⟨hnm,⟨by show (0:Int)≤(s.temps:Int);omega,by show (s.temps:Int)≤1000;omega⟩,by cases fixed;exact (show (1:Int)≤2 by decide);exact (show (1:Int)≤3 by decide),by cases fixed;exact (show (2:Int)≤3 by decide);exact (show (3:Int)≤3 by decide)⟩
 have h6:CY w0 P (w5.setCell ⟨cb,6,none⟩ v5) cb m {s with names:=(kS s nm fixed).names} lv cv v5 D ps:=h5.store 6 v5 rfl rfl rfl hrow hok h.enm;have h7:CY w0 P ((w5.setCell ⟨cb,6,none⟩ v5).setCell ⟨cb,2,none⟩ (.int .i64 ((s.temps:Int)+1))) cb m (kS s nm fixed) lv cv v5 D ps:=h6.store 2 _ rfl rfl rfl h6.names h6.nok h.enm;exact ⟨h5,h7,((ht.mono (fun k _ e=>hS k e)).setCell _ _ (.inl h.cbP)).setCell _ _ (.inl h.cbP)⟩
theorem tY {w0 w:World} {P:Nat→Prop} {cb:Nat} {m:MK} {s:CSt} (h:CX w0 P w cb m s) {D0:Nat→Prop} {p:Option Addr} {n c:Nat} {l:List ByteArray} (hs:Strs w0 D0 p l) (hl:l.length=n) (hn:n≤9223372036854775807) (fixed:Bool) {kd:Int} (hkd:kd=if fixed then 3 else 2):Calls Tryz.prog 17 #[.pointer (some ⟨cb,0,none⟩),.slice p n c,.int .i64 kd] w fun e w'=>e= .returned (.tuple #[])∧CT w0 P w w' cb m (bI fixed l s):=by
 have HS:=J hs;have HL:=J hl;have HKD:=J hkd;have HH:=J h;have hf1:=nfld1;clear h hs hl hkd;go_enter Tryz.func17,Tryz.ntmps17;go_wp2_with fail
 go_loopw [6] (fun i wr=>∃(k:Nat) (sk:CSt),i= .int .i64 k∧k≤n∧CT w0 P w wr cb m sk∧bI fixed l s=bI fixed (l.drop k) sk) (fun i _=>n-(intOf i).toNat)
 case atStart=>exact ⟨0,s,rfl,Nat.zero_le _,HH.out.ct,rfl⟩
 case round=>
  obtain ⟨k,sk,rfl,hk,hct,hdl⟩:=hrel;have HT:=J hct;have HDL:=J hdl;have k7:wr.cell? ⟨cb,7,none⟩=some (.int .i64 sk.err):=by obtain ⟨lv,cv,nv,D,ps,hy,_⟩:=hct.1;rw [hy.cell];rfl
  clear hct hdl
  by_cases hlt:k<n
  ·have d1:=aD hlt;have d2:=aT hlt
   by_cases he:sk.err=0
   ·have hkl:k<l.length:=Y48;obtain ⟨sb,so,hp,hsl,_,hsc,hsz⟩:=HS.out k hkl;subst hp;obtain ⟨t,ht⟩:=aE (l[k]);rw [ht] at hsc hsz;have hdr:l.drop k=t :: l.drop (k+1):=by rw [←ht];exact List.drop_eq_getElem_cons hkl
    have HDL2:Hid (bI fixed l s=bI fixed (t :: l.drop (k+1)) sk):=J (by rw [HDL.out,hdr]);have hsb:sb<wr.heap.size:=aN hsl HT.out.1.stat.size;have c0r:wr.cell? ⟨sb,so+k,none⟩=some (.string t):=(World.cell?_of_block (HT.out.1.stat.block sb hsl)).trans hsc;have HTZ:=J hsz;have g0:(0:Int)≤(k:Int):=I;have g1:(k:Int)<(n:Int):=I;rw [he] at k7;obtain ⟨o,ho⟩:=aE (cE sk.names t);have HO:=J ho;have hown:=eI t hsz;obtain ⟨ob,hob⟩:=aE (dH t);rw [hob] at hown;have HOWN:=J hown;have hnk:∀x,cE sk.names t=some x→1≤x.kind∧x.kind≤3:=fun x hx=>by
     obtain ⟨lv,cv,nv,D,ps,hy,_⟩:=HT.out.1;exact (hy.nok x (List.mem_of_find?_eq_some hx)).2.2
    rw [ho] at hnk;clear hsc hsz ht hdr hown hsl hkl
    cases o with
    | some x=>
     obtain ⟨x1,x2⟩:=hnk x rfl;obtain ⟨kn,kk,ka⟩:=x;dsimp only at x1 x2;have e1:(kk != 0)=true:=Y4;have e2:(kk==0)=false:=Y4;have HV:Hid (bI fixed l s=aG sk t 16):=J (by rw [HDL2.out];exact pW fixed t _ sk he Y102);clear hnk ho hob he;go_wp2_with (first | (go_at_call 33;(with_reducible refine (bJ (HT.out.1.below bel) t).mono ?_);rw [HO.out];dsimp only [gR];rintro e w2 ⟨rfl,hb2⟩;have hs2:=(bz wr).trans (hb2.mono (bz wr).size);have HT2:=J (HT.out.below hs2);have HB2:=J hs2;have c0:w2.cell? ⟨sb,so+k,none⟩=some (.string t):=(World.cell?_of_block (hs2.block sb hsb)).trans c0r;clear hb2 hs2) | (go_at_call 35;(with_reducible refine (cO HT2.out bel t HTZ.out 16).mono ?_);rintro e w3 ⟨rfl,HX⟩;replace HX:=J HX));go_returns;rw [HV.out];exact ⟨rfl,HX.out⟩
    | none=>
     cases ob with
     | true=>
      have HV:Hid (bI fixed l s=aG sk t 16):=J (by rw [HDL2.out];exact pW fixed t _ sk he (by rw [ho,hob];rfl));clear hnk ho hob he;go_wp2_with (first | (go_at_call 33;(with_reducible refine (bJ (HT.out.1.below bel) t).mono ?_);rw [HO.out];dsimp only [gR];rintro e w2 ⟨rfl,hb2⟩;have hs2:=(bz wr).trans (hb2.mono (bz wr).size);have HT2:=J (HT.out.below hs2);have HB2:=J hs2;have c0:w2.cell? ⟨sb,so+k,none⟩=some (.string t):=(World.cell?_of_block (hs2.block sb hsb)).trans c0r;clear hb2 hs2) | (go_at_call 34;(with_reducible refine (HOWN.out _).mono ?_);rintro e w4 ⟨rfl,hw4⟩;replace hw4:=hw4.symm;subst hw4) | (go_at_call 35;(with_reducible refine (cO HT2.out bel t HTZ.out 16).mono ?_);rintro e w3 ⟨rfl,HX⟩;replace HX:=J HX));go_returns;rw [HV.out];exact ⟨rfl,HX.out⟩
     | false=>
      have htw:((cE sk.names t).isSome || dH t)=false:=by rw [ho,hob];rfl
      have hk2:∀W,CX w0 P W cb m sk→W.cell? ⟨cb,2,none⟩=some (.int .i64 (sk.temps:Int)):=fun W hW=>by obtain ⟨lv,cv,nv,D,ps,hy,_⟩:=hW;rw [hy.cell];rfl
      have HK2:=J hk2;clear hnk ho hob hk2
      by_cases h24:sk.temps=24
      ·have HV:Hid (bI fixed l s=aG sk t 18):=J (by rw [HDL2.out];exact yS fixed t _ sk he htw h24);have d4:(sk.temps==24)=true:=by simpa using h24
       have d5:((sk.temps:Int)==24)=true:=Y4;clear htw he h24;go_wp2_with (first | (go_at_call 33;(with_reducible refine (bJ (HT.out.1.below bel) t).mono ?_);rw [HO.out];dsimp only [gR];rintro e w2 ⟨rfl,hb2⟩;have hs2:=(bz wr).trans (hb2.mono (bz wr).size);have HT2:=J (HT.out.below hs2);have HB2:=J hs2;have c0:w2.cell? ⟨sb,so+k,none⟩=some (.string t):=(World.cell?_of_block (hs2.block sb hsb)).trans c0r;have k2:=HK2.out w2 HT2.out.1;clear hb2 hs2) | (go_at_call 34;(with_reducible refine (HOWN.out _).mono ?_);rintro e w4 ⟨rfl,hw4⟩;replace hw4:=hw4.symm;subst hw4) | (go_at_call 35;(with_reducible refine (cO HT2.out bel t HTZ.out 18).mono ?_);rintro e w3 ⟨rfl,HX⟩;replace HX:=J HX));go_returns;rw [HV.out];exact ⟨rfl,HX.out⟩
      ·
       have hv:bI fixed (t :: l.drop (k+1)) sk=bI fixed (l.drop (k+1)) (kS sk t fixed):=yT fixed t _ sk he htw h24;have HV:=J hv;obtain ⟨lv,cv,nv,D,ps,hy,hfw⟩:=HT.out.1;obtain ⟨nA,nc,hnv,_⟩:=aX hy.names;obtain ⟨nn,hnn⟩:=aE sk.names.length;rw [hnn] at hnv;subst hnv;have HNN:=J hnn;have HFW:Hid (sk.temps≤24∧sk.names.length≤8+sk.temps):=J hfw;have HY:=J hy;have h24k:=J h24;have d4:(sk.temps==24)=false:=by simpa using h24
       have d5:((sk.temps:Int)==24)=false:=Y4;have hwt:IntKind.i64.wrap ((sk.temps:Int)+1)=(sk.temps:Int)+1:=IntWalk.i64_in _ I;clear hv hy hfw hnn he htw h24
       go_upto_region 8 with (first | (go_at_call 33;(with_reducible refine (bJ (HT.out.1.below bel) t).mono ?_);rw [HO.out];dsimp only [gR];rintro e w2 ⟨rfl,hb2⟩;have hs2:=(bz wr).trans (hb2.mono (bz wr).size);have HT2:=J (HT.out.below hs2);have HB2:=J hs2;have c0:w2.cell? ⟨sb,so+k,none⟩=some (.string t):=(World.cell?_of_block (hs2.block sb hsb)).trans c0r;have k2:=HK2.out w2 HT2.out.1;clear hb2 hs2) | (go_at_call 34;(with_reducible refine (HOWN.out _).mono ?_);rintro e w4 ⟨rfl,hw4⟩;replace hw4:=hw4.symm;subst hw4))
       have hy2:=HY.out.below HB2.out;have HY2:=J hy2;have k6:w2.cell? ⟨cb,6,none⟩=some (.slice nA nn nc):=by rw [hy2.cell];rfl
       have HNR:Hid (w2.ownsRow 0 55 3 (.slice nA nn nc) nn (sk.names.flatMap nmC)):=J (by have h9:w2.ownsRow 0 55 3 (.slice nA nn nc) sk.names.length (sk.names.flatMap nmC):=hy2.names;rw [HNN.out] at h9;exact h9);have hnn9:nn≤100:=by have h8:=HFW.out;have h9:=HNN.out;omega
       clear hy2
       go_upto_region 9 with (at_builtin;refine vO rfl _ _ rfl rfl rfl HNR.out I ?_;intro v7 w7 hown hb7;obtain ⟨A7,c7,hv7,_⟩:=aX hown;subst hv7;have HO7:=J hown;have HB7:=J hb7;have c07:=(hb7.cell (p:=⟨sb,so+k,none⟩) (jZ c0)).trans c0;have k27:=(hb7.cell (p:=⟨cb,2,none⟩) (jZ k2)).trans k2;clear hown hb7)
       clear k7 c0 k2 k6 c0r;have hy7:=HY2.out.below HB7.out;have hba:Below w7.heap.size w7 (w7.drew.alloc (.cells #[.string t,.int .i64 kd,.int .i64 (sk.temps:Int)] 55)):=((Below.refl _ _).drew).alloc aR _;have HYA:=J (hy7.below hba);have HROW:Hid ((w7.drew.alloc (.cells #[.string t,.int .i64 kd,.int .i64 (sk.temps:Int)] 55)).ownsRow w2.heap.size 55 3 (.slice A7 nn c7) nn (sk.names.flatMap nmC)):=J (aJ HO7.out hba.size (fun j hj=>hba.block j (World.ownsRow.lt HO7.out j hj).2));have HGA:Hid ((w7.drew.alloc (.cells #[.string t,.int .i64 kd,.int .i64 (sk.temps:Int)] 55)).heap[w7.heap.size]? =some (.cells #[.string t,.int .i64 kd,.int .i64 (sk.temps:Int)] 55 (0,0))):=J (heap_alloc_new w7.drew _);have HBS:Hid (w2.heap.size≤(w7.drew.alloc (.cells #[.string t,.int .i64 kd,.int .i64 (sk.temps:Int)] 55)).heap.size):=J (Nat.le_trans HB7.out.size hba.size);have HBA:=J hba;have c0a:(w7.alloc (.cells #[.string t,.int .i64 kd,.int .i64 (sk.temps:Int)] 55)).cell? ⟨sb,so+k,none⟩=_:=Lib.cell?_alloc_marked _ c07;have k2a:(w7.alloc (.cells #[.string t,.int .i64 kd,.int .i64 (sk.temps:Int)] 55)).cell? ⟨cb,2,none⟩=_:=Lib.cell?_alloc_marked _ k27;clear hy7 hba
       go_region_law (first | (refine xD (k:=⟨t,kd,(sk.temps:Int)⟩) rfl _ _ rfl HROW.out Y10 (G:=w7.heap.size) Y10 HGA.out I HBS.out ?_;intro v5 w5 hown5 ht5;have hnd:=CY.named (lv:=lv) (cv:=cv) (nv:=.slice nA nn nc) (base:=w2.heap.size) HYA.out (fun j hj=>(World.ownsRow.lt HO7.out j hj).1) HY2.out.lim (aA HY2.out.box) (fun j hj=>(World.ownsRow.lt HY2.out.lits.own j hj).2) (fun j hj=>(World.ownsRow.lt HY2.out.code j hj).2) (fun j hj=>(World.ownsRow.lt HNR.out j hj).2) (fun j hj=>by obtain ⟨_,z⟩:=HY2.out.dty j hj;exact aA z) ht5 t fixed HTZ.out (by have:=HFW.out;omega) (by rw [←HKD.out,HNN.out];exact hown5);obtain ⟨A5,c5,hv5,_⟩:=aX hown5;subst hv5;have s6:w5.cell? ⟨cb,6,none⟩=some (.slice nA nn nc):=(by rw [hnd.1.cell];rfl);have sf6:=hnd.1.free 6;have s2:w5.cell? ⟨cb,2,none⟩=some (.int .i64 (sk.temps:Int)):=(by rw [hnd.1.cell];rfl);have sf2:=hnd.1.free 2;have HND:=J hnd.2;clear hown5 ht5 hnd))
       all_goals
        go_wp2_with fail;go_roundw
        case rel=>
         have hcy:=HND.out.1;have htu:=(((HT.out.2.trans (Turns.of_below HB2.out)).trans (Turns.of_below HB7.out)).trans (Turns.of_below HBA.out)).trans HND.out.2;refine ⟨k+1,kS sk t fixed,by go_num,by omega,⟨⟨_,_,_,_,_,hcy,?_,?_⟩,htu⟩,by rw [HDL2.out,HV.out]⟩
         ·show sk.temps+1≤24
          have:=HFW.out.1;have:=h24k.out;omega
         ·show (sk.names++[_]).length≤8+(sk.temps+1)
          rw [List.length_append];have:=HFW.out.2
          show sk.names.length+1≤_
          omega
        case measure=>simp [intOf];omega
   ·have y1:(sk.err==0)=false:=Y20;have HV:Hid (bI fixed l s=sk):=J (by rw [HDL.out];exact decl_err fixed _ sk he);clear he;go_wp2_with fail;go_returns;rw [HV.out];exact ⟨rfl,HT.out⟩
  ·have hkn:k=n:=I;have d1:=aK hlt;have d2:=aF hlt;have HV:Hid (bI fixed l s=sk):=J (by rw [HDL.out,hkn,←HL.out,List.drop_length];rfl);clear hlt;subst hkn;go_wp2_with fail;go_returns;rw [HV.out];exact ⟨rfl,HT.out⟩
end Go.Proofs.YtnojndgmgkgnpaaGreat.Rf
namespace Go.Proofs.YtnojndgmgkgnpaaGreat
mutual
theorem kL:∀(x:NodT) (s:CSt),Gr s (dJ x s).2 0 0
 | .node k t n _ _ ks,s=>by
  unfold dJ
  split
  ·exact Gr.refl s
  split
  ·exact Gr.refl s
  split
  ·exact Gr.refl s
  split
  ·exact tZ ks s
  ·exact Gr.fail s _ _
theorem tZ:∀(l:List NodT) (s:CSt),Gr s (fC l s).2 0 0
 | [],s=>Gr.refl s
 | x :: r,s=>by
  unfold fC
  split
  ·exact Gr.refl s
  ·exact (kL x s).trans (tZ r _)
end
theorem Gr.ite_ {s t u:CSt} {c k:Nat} {p:Prop} [Decidable p] (h:Gr s t c k) (g:Gr s u c k):Gr s (if p then t else u) c k:=by split <;> assumption
theorem varR_gr (s:CSt) (n:ByteArray):Gr s (gY s n) 1 1:=Gr.ite_ ((Gr.fail _ _ _).mono I I) (wJ s n)
section
variable {rec:NodT→CSt→CSt} {f:Nat}
theorem vP (hr:GrR rec f) {x:NodT} (hx:x.size≤f+1) (s:CSt):Gr s (cU rec x s) (8*x.size-2) x.size:=by
 have h0:=x.size_pos;unfold cU
 split
 ·rename_i k hk;have h1:=iC hk;have h2:=k.size_pos;exact Gr.ite_ ((hr k s I).mono I I) (((hr k s I).trans (qL _ _ _)).mono I I)
 ·exact (Gr.fail _ _ _).mono I I
theorem lE (hr:GrR rec f) (op:Int) (sel:ByteArray) (l:List NodT) (s:CSt) (h:NodT.sizes l≤f):Gr s (gE rec op sel l s) (8*NodT.sizes l+1) (NodT.sizes l+1):=
 Gr.ite_ ((oY hr l s h).mono I I) (iE hr op sel l s h)
theorem sendR_gr (hr:GrR rec f) {x:NodT} (hx:x.size≤f+1) (s:CSt):Gr s (lZ rec x s) (8*x.size-2) x.size:=by
 have h0:=NodT.size_kids x;have h00:=x.size_pos;unfold lZ
 split
 ·exact (Gr.fail _ _ _).mono I I
 ·rename_i k args hk;have hs:NodT.sizes x.kids=k.size+NodT.sizes args:=by rw [hk,NodT.sizes]
  have hkp:=k.size_pos
  split
  ·rename_i y n hb;exact pA hr hx hb s hk
  ·split
   ·rename_i w a b hb;obtain ⟨e,_⟩:=oC hb;rw [e,lJ] at h0;exact (sM hr I w s).mono I I
   ·exact ((iD hr (x:=k) I s).trans (lE hr _ _ _ _ I)).mono I I
theorem rG (hr:GrR rec f) (op:Int):∀(l:List NodT) (s:CSt),NodT.sizes l≤f→Gr s (dZ rec op l s) (8*NodT.sizes l) (NodT.sizes l)
 | [],s,_=>(Gr.refl s).mono I I
 | m :: r,s,h=>by
  have h0:=NodT.size_kids m;unfold NodT.sizes at h ⊢;unfold dZ;refine Gr.ite_ ((Gr.refl s).mono I I) (Gr.ite_ ((Gr.fail _ _ _).mono I I) (Gr.ite_ ((lE hr _ _ _ _ I).mono I I) ?_));exact (((Gr.emit s 13 0 0).trans (lE hr op m.text m.kids (aB s 13 0 0) I)).trans (Gr.emit _ 12 0 0) |>.trans (rG hr op r _ I)).mono I I
theorem cascR_gr (hr:GrR rec f) {x:NodT} (hx:x.size≤f+1) (s:CSt):Gr s (jB rec x s) (8*x.size-2) x.size:=by
 have h0:=NodT.size_kids x;have h00:=x.size_pos;unfold jB
 split
 ·rename_i k m r hk;have hs:NodT.sizes x.kids=k.size+NodT.sizes (m :: r):=by rw [hk,NodT.sizes]
  have hkp:=k.size_pos;have hmp:=m.size_pos;have h3:NodT.sizes (m :: r)=m.size+NodT.sizes r:=by rw [NodT.sizes]
  exact ((iD hr (x:=k) I s).trans (rG hr _ (m :: r) _ I)).mono I I
 ·exact (Gr.fail _ _ _).mono I I
theorem stepQ_gr (hr:GrR rec f) {x:NodT} (hx:x.size≤f+1) (s:CSt):Gr s (dR rec x s) (8*x.size-2) x.size:=by
 have h00:=x.size_pos;unfold dR
 split
 ·exact (Gr.refl s).mono I I
 split
 ·exact Gr.ite_ ((kL x s).mono I I) (((kL x s).trans ((Gr.place _ _).trans (Gr.emit _ _ _ _))).mono I I)
 split
 ·exact (varR_gr s _).mono I I
 split
 ·exact vP hr hx s
 split
 ·exact sendR_gr hr hx s
 split
 ·exact cascR_gr hr hx s
 split
 ·exact qP hr hx s
 split
 ·split
  ·rename_i k hk;have h1:=iC hk;have h2:=k.size_pos;exact ((hr k s I).trans (Gr.emit _ _ _ _)).mono I I
  ·exact (Gr.fail _ _ _).mono I I
 ·exact (Gr.fail _ _ _).mono I I
end
theorem eJ:∀(f:Nat),GrR (aS f) f
 | 0=>fun x s h=>by have:=x.size_pos;omega
 | f+1=>fun x s h=>stepQ_gr (eJ f) h s
end Go.Proofs.YtnojndgmgkgnpaaGreat
namespace Go.Proofs.YtnojndgmgkgnpaaGreat.Rf
open Go.ChangeShapes Go.WideShapes Go.ChangeAt Go.RowKit Go.Deep Go.Joins Go.Maps
def RSpec (f:Nat):Prop:=∀(x:NodT),x.size≤f→∀{w0 w:World} {P:Nat→Prop} {cb:Nat} {m:MK} {s:CSt} {q:NS},CX w0 P w cb m s→IsNd w0 (fun _=>True) x q→s.code.length+8*x.size≤1000000→s.lits.length+x.size≤100000→
 Calls Tryz.prog 18 #[.pointer (some ⟨cb,0,none⟩),ndV x q] w fun e w'=>e= .returned (.tuple #[])∧CT w0 P w w' cb m (aS f x s)
theorem RSpec.at_ {f:Nat} (hv:RSpec f) {x:NodT} (hx:x.size≤f) {w0 ws w1 w:World} {P:Nat→Prop} {cb:Nat} {m:MK} {s:CSt} {q:NS} (h:CT w0 P ws w1 cb m s) (hb:Below w1.heap.size w1 w) (hn:IsNd w0 (fun _=>True) x q) (hf:s.code.length+8*x.size≤1000000) (hl:s.lits.length+x.size≤100000):
  Calls Tryz.prog 18 #[.pointer (some ⟨cb,0,none⟩),ndV x q] w fun e w'=>e= .returned (.tuple #[])∧CT w0 P ws w' cb m (aS f x s):=by
 have h2:=h.below hb;refine (hv x hx h2.1 hn hf hl).mono ?_;rintro e w' ⟨he,hc⟩;exact ⟨he,h2.go hc⟩
theorem CX.and {w0 w:World} {P:Nat→Prop} {cb:Nat} {m:MK} {s:CSt} {b:Nat} {t:TypeId} {cur:Array Value} {fr:Nat×Nat} (h:CX w0 P w cb m s) (hb:w.heap[b]? =some (.cells cur t fr)) (ht:t≠53∧t≠44∧t≠42):CX w0 (fun k=>P k∨k=b) w cb m s:=
 h.keep (fun k z=>z.elim .inl (fun e=>.inr ⟨t,cur,fr,by rw [e];exact hb,ht⟩)) (fun k z=>.inl (h.low k z))
theorem CX.less {P':Nat→Prop} {w0 w:World} {P:Nat→Prop} {cb:Nat} {m:MK} {s:CSt} (h:CX w0 P' w cb m s) (hs:∀k,P k→P' k) (hl:∀k,k<w0.heap.size→P k):CX w0 P w cb m s:=h.keep (fun k z=>.inl (hs k z)) hl
theorem CT.back {P':Nat→Prop} {ws w1 w2:World} {w0 w:World} {P:Nat→Prop} {cb:Nat} {m:MK} {s:CSt} {s':CSt} (h:CT w0 P ws w cb m s) (hb:Below w.heap.size w w1) (hc:CT w0 P' w1 w2 cb m s') (hs:∀k,P k→P' k):CT w0 P ws w2 cb m s':=
 ⟨hc.1.less hs h.1.low,(h.2.trans (Turns.of_below hb)).trans (hc.2.mono (fun k _ z y=>z (hs k y)))⟩
theorem Z82 {P:Prop} (h:P:=by
 clear e1;go_enter Tryz.func41,Tryz.ntmps41;go_wp2_with (first | (go_at_call 19;(with_reducible refine (bG HT.out bel 1 0 0 HF.out).mono ?_);rintro e w7 ⟨rfl,HY⟩;replace HY:=J HY) | (go_at_call 18;(with_reducible refine (HVA.out _ bel).mono ?_);rintro e w7 ⟨rfl,HY⟩;replace HY:=J HY));go_ret;exact ⟨rfl,HY.out⟩):P:=h
theorem gW {f:Nat} (hv:RSpec f) {w0 w:World} {P:Nat→Prop} {cb:Nat} {m:MK} {s:CSt} (h:CX w0 P w cb m s) {x:NodT} {q:NS} (hn:IsNd w0 (fun _=>True) x q) (hx:x.size≤f) (hf:s.code.length+8*x.size≤1000000) (hl:s.lits.length+x.size≤100000):
  Calls Tryz.prog 41 #[.pointer (some ⟨cb,0,none⟩),ndV x q] w fun e w'=>e= .returned (.int .i64 (cS (aS f) x s).1)∧CT w0 P w w' cb m (cS (aS f) x s).2:=by
 have hva:∀(W:World),Below w.heap.size w W→Calls Tryz.prog 18 #[.pointer (some ⟨cb,0,none⟩),ndV x q] W fun e w'=>e= .returned (.tuple #[])∧CT w0 P w w' cb m (aS f x s):=fun W hb=>hv.at_ hx h.ct hb hn hf hl
 have HF:Hid (s.code.length≤1000000):=J I;have HT:=J h.ct;unfold ndV at hva ⊢;have HVA:=J hva;clear hva hn hx hf hl h hv
 by_cases e1:x.kind=5
 ·cases e2:x.text.toList==[115,117,112,101,114] with
  | true=>
   rw [show cS (aS f) x s=(15,aB s 1 0 0) from by unfold cS mB;rw [if_pos (by rw [aD e1];exact e2)]];have d1:(x.kind==5)=true:=Y29;exact Z82
  | false=>
   rw [show cS (aS f) x s=(14,aS f x s) from by unfold cS mB;rw [if_neg (by rw [aD e1];intro z;exact absurd (z.symm.trans e2) Y3)]];have d1:(x.kind==5)=true:=Y29;exact Z82
 ·rw [show cS (aS f) x s=(14,aS f x s) from by unfold cS mB;rw [if_neg (by rw [aK e1];intro z;cases z)]];have d1:(x.kind==5)=false:=Y29;exact Z82
theorem eR {f:Nat} (hv:RSpec f) {w0 w:World} {P:Nat→Prop} {cb:Nat} {m:MK} {s:CSt} (h:CX w0 P w cb m s) {p:Option Addr} {n c0:Nat} {l:List NodT} (hr:Rows w0 p l) (hn:l.length=n) (hle:n≤9223372036854775807) (op:Int) (t:ByteArray) (ht:t.size≤bL) (hx:NodT.sizes l≤f) (hf:s.code.length+8*NodT.sizes l+1≤1000000) (hl:s.lits.length+NodT.sizes l+1≤100000):
  Calls Tryz.prog 42 #[.pointer (some ⟨cb,0,none⟩),.int .i64 op,.string t,.slice p n c0] w fun e w'=>e= .returned (.tuple #[])∧CT w0 P w w' cb m (gE (aS f) op t l s):=by
 have HV:=J hv;have HR:=J hr;have HN:=J hn;have HT:=J ht;have H0:=J h;have HSZ:=J hx;have HRM:Hid (s.code.length+8*NodT.sizes l+1≤1000000∧s.lits.length+NodT.sizes l+1≤100000):=J ⟨hf,hl⟩;clear hv hr hn ht h hx hf hl;go_enter Tryz.func42,Tryz.ntmps42;go_wp2_with fail
 go_loopw [8] (fun i wr=>∃(k:Nat) (sk:CSt),i= .int .i64 k∧k≤n∧CT w0 P w wr cb m sk∧(hY (aS f) l s=hY (aS f) (l.drop k) sk)∧sk.code.length+8*NodT.sizes (l.drop k)+1≤1000000∧sk.lits.length+NodT.sizes (l.drop k)+1≤100000) (fun i _=>n-(intOf i).toNat)
 case atStart=>exact ⟨0,s,rfl,Nat.zero_le _,H0.out.ct,rfl,HRM.out⟩
 case round=>
  obtain ⟨k,sk,rfl,hk,hct,hde,hrc,hrl⟩:=hrel;have HX:=J hct;have HD:=J hde;clear hct hde H0
  by_cases hlt:k<n
  ·have d1:=aD hlt;have d2:=aT hlt;have hkl:k<l.length:=Y111;obtain ⟨b,off,q',rfl,hbl,hc6,hkd⟩:=HR.out k hkl;have hsz:=dN l k hkl;have hst:=HX.out.1.stat;have hc6w:=hc6.same (hst.block b hbl);have hsk:(l[k]).size≤f:=Nat.le_trans (cR l k hkl) HSZ.out;have hdr:l.drop k=l[k] :: l.drop (k+1):=List.drop_eq_getElem_cons hkl;obtain ⟨kd,hkx⟩:=aE (l[k]);rw [hkx] at hc6w hkd hsz hsk hdr;have hgr:=eJ f kd sk hsk;have hva:∀(W:World),Below wr.heap.size wr W→Calls Tryz.prog 18 #[.pointer (some ⟨cb,0,none⟩),ndV kd q'] W fun e w'=>e= .returned (.tuple #[])∧CT w0 P w w' cb m (aS f kd sk):=fun W hb=>HV.out.at_ hsk HX.out hb hkd I I
   unfold ndV at hva;have HVA:=J hva;have HDR:=J hdr;have HG:Hid ((aS f kd sk).code.length+8*NodT.sizes (l.drop (k+1))+1≤1000000∧(aS f kd sk).lits.length+NodT.sizes (l.drop (k+1))+1≤100000):=J (by
    have h1:=hgr.code;have h2:=hgr.lits;have h3:=kd.size_pos;exact ⟨by omega,by omega⟩)
   have c0:=hc6w.c0;have c1:=hc6w.c1;have c2:=hc6w.c2;have c3:=hc6w.c3;have c4:=hc6w.c4;have c5:=hc6w.c5;have g0:(0:Int)≤(k:Int):=I;have g1:(k:Int)<(n:Int):=I;have hbw:b<wr.heap.size:=aN hbl hst.size;clear hva hdr hgr hc6 hc6w hkd hsz hsk hst hkx hrc hrl;go_wp2_with (first | (go_at_call 18;(with_reducible refine (HVA.out _ bel).mono ?_);rintro e w5 ⟨rfl,HY⟩;replace HY:=J HY));go_roundw
   case rel=>exact ⟨k+1,_,by go_num,hlt,HY.out,by rw [HD.out,HDR.out];rfl,HG.out⟩
   case measure=>simp [intOf];omega
  ·have hkn:k=n:=I;have d1:=aK hlt;have d2:=aF hlt;clear hlt;subst hkn;have hd0:hY (aS f) l s=sk:=by rw [HD.out,←HN.out,List.drop_length];rfl
   have k7:wr.cell? ⟨cb,7,none⟩=some (.int .i64 sk.err):=by obtain ⟨lv,cv,nv,D,ps,hy,_⟩:=HX.out.1;rw [hy.cell];rfl
   by_cases he:sk.err=0
   ·have HMS:Hid (gE (aS f) op t l s=aB (fO sk t).2 op (fO sk t).1 k):=J (by unfold gE;rw [hd0,if_neg (fun z=>z he)];unfold cT;rw [hd0,HN.out]);have HL:Hid (sk.lits.length≤100000):=J I;have HF5:Hid ((fO sk t).2.code.length≤1000000):=J (by rw [mX];omega);obtain ⟨g,hg⟩:=aE ((fO sk t).1);have HSY:=J hg;rw [hg] at HMS;rw [he] at k7;clear hd0 hg hrc hrl he;go_wp2_with (first | (go_at_call 60;(with_reducible refine (iP HX.out bel t HT.out HL.out).mono ?_);rw [HSY.out];rintro e w5 ⟨rfl,HX5⟩;replace HX5:=J HX5) | (go_at_call 19;(with_reducible refine (bG HX5.out bel op (g:Int) (k:Int) HF5.out).mono ?_);rintro e w7 ⟨rfl,HY⟩;replace HY:=J HY));go_returns;rw [HMS.out];exact ⟨rfl,HY.out⟩
   ·have HMS:Hid (gE (aS f) op t l s=sk):=J (by unfold gE;rw [hd0,if_pos he]);have e1:(sk.err==0)=false:=Y20;clear hd0 hrc hrl he;go_wp2_with fail;go_returns;rw [HMS.out];exact ⟨rfl,HX.out⟩
def dO (w0 w:World) (P:Nat→Prop) (cb:Nat) (m:MK) (lv cv nv:Value) (D:Nat→Prop) (ps:List LP) (l:LitT) (s':CSt) (e:Ending) (w':World):Prop:=
 ∃q,e= .returned (ltV l q)∧CY w0 P w' cb m s' lv cv nv D ps∧IsLt w' (iK w w') l q∧Turns (fun k=>k=cb) w w'
theorem CY.under {w0 w:World} {P:Nat→Prop} {cb:Nat} {m:MK} {s:CSt} {lv cv nv:Value} {D:Nat→Prop} {ps:List LP} {w':World} (h:CY w0 P w cb m s lv cv nv D ps) (hb:Below w.heap.size w w'):CY w0 P w' cb m s lv cv nv D ps:=h.below hb
theorem CY.apart {w0 w:World} {P:Nat→Prop} {cb:Nat} {m:MK} {s:CSt} {lv cv nv:Value} {D:Nat→Prop} {ps:List LP} {w':World} (h:CY w0 P w cb m s lv cv nv D ps) {T:Nat→Prop} (ht:Turns T w w') (hT:∀k,T k→k≠cb∧lv.ownBlock≠some k∧cv.ownBlock≠some k∧nv.ownBlock≠some k∧¬D k∧¬P k):CY w0 P w' cb m s lv cv nv D ps:=
 h.same ht (fun k q=>(hT k q).2.2.2.2.2) (fun k hk q=>(hT k q).2.1 hk) (fun k hk q=>(hT k q).2.2.1 hk) (fun k hk q=>(hT k q).2.2.2.1 hk) (fun k hk q=>(hT k q).2.2.2.2.1 hk) (ht.block cb (aA h.box) (fun q=>(hT cb q).1 rfl))
theorem CY.fresh {w0 w:World} {P:Nat→Prop} {cb:Nat} {m:MK} {s:CSt} {lv cv nv:Value} {D:Nat→Prop} {ps:List LP} (h:CY w0 P w cb m s lv cv nv D ps) {k:Nat} (hk:w.heap.size≤k):k≠cb∧lv.ownBlock≠some k∧cv.ownBlock≠some k∧nv.ownBlock≠some k∧¬D k∧¬P k:=
 ⟨fun e=>by have:=aA h.box;omega,fun e=>by have:=(World.ownsRow.lt h.lits.own k e).2;omega,fun e=>by have:=(World.ownsRow.lt h.code k e).2;omega,fun e=>by have:=(World.ownsRow.lt h.names k e).2;omega,fun e=>by obtain ⟨_,z⟩:=h.dty k e;have:=aA z;omega,fun e=>by have:=h.lim k e;omega⟩
theorem hM {w0 w:World} {P:Nat→Prop} {cb:Nat} {m:MK} {s:CSt} {lv cv nv:Value} {D:Nat→Prop} {ps:List LP} {w':World} (h:CY w0 P w cb m s lv cv nv D ps) (hb:Below w.heap.size w w') {k n:Int} {t:ByteArray} (hk:InI k) (hn:InI n) (ht:t.size≤bL):dO w0 w P cb m lv cv nv D ps (.node k t n []) s (.returned (.agg #[.int .i64 k,.string t,.int .i64 n,.slice none 0 0])) w':=
 ⟨⟨none,0⟩,rfl,h.under hb,IsLt.leaf _ _ hk hn ht,Turns.of_below hb⟩
structure AR (w0 w:World) (P:Nat→Prop) (cb:Nat) (m:MK) (lv cv nv:Value) (D:Nat→Prop) (ps:List LP) (rp:List LP) (v:Value) (sk:CSt) (wr:World) (bx:Array Value):Prop where
 cy:CY w0 P wr cb m sk lv cv nv D ps
 ts:Turns (fun k=>k=cb) w wr
 ob:wr.heap[w.heap.size+2]? =some (.cells #[.int .i64 4,.string eB,.int .i64 0,v] 44 (0,0))
 tb:wr.heap[w.heap.size+1]? =some (.cells #[.int .i64 0,.string eB,.int .i64 0,.slice none 0 0] 44 (0,0))
 own:wr.ownsRow (w.heap.size+3) 44 4 v rp.length (rp.flatMap lpC)
 lits:∀p,p∈rp→IsLt wr (fun k=>w.heap.size+3≤k∧k<wr.heap.size∧v.ownBlock≠some k∧k≠cb∧∃cur,wr.heap[k]? =some (.cells cur 44 (0,0))) p.1 p.2
 xb:wr.heap[w.heap.size]? =some (.cells bx 25 (0,0))
 cbl:cb<w.heap.size
 sz:w.heap.size+3≤wr.heap.size
theorem AR.step {w0 w:World} {P:Nat→Prop} {cb:Nat} {m:MK} {lv cv nv:Value} {D:Nat→Prop} {ps rp:List LP} {v:Value} {sk sk':CSt} {wr W w4 w5:World} {bx:Array Value} (h:AR w0 w P cb m lv cv nv D ps rp v sk wr bx) (h0:∀k,w.heap.size≤k→k≠cb∧lv.ownBlock≠some k∧cv.ownBlock≠some k∧nv.ownBlock≠some k∧¬D k∧¬P k)
  (hW:Below wr.heap.size wr W) (hc:CY w0 P w4 cb m sk' lv cv nv D ps) (p:LP) (hl:IsLt w4 (iK W w4) p.1 p.2) (ht:Turns (fun k=>k=cb) W w4) (o:Obj) {v':Value}
  (hown:w5.ownsRow (w.heap.size+3) 44 4 v' (rp.length+1) (rp.flatMap lpC++lpC p)) (hg:(w4.alloc o).grownBy w5 v.ownBlock) (hat:v'.ownBlock=v.ownBlock∨v'.ownBlock=some (w4.alloc o).heap.size):
  w5.heap[w.heap.size+2]? =some (.cells #[.int .i64 4,.string eB,.int .i64 0,v] 44 (0,0))∧AR w0 w P cb m lv cv nv D ps (rp++[p]) v' sk' (w5.setCell ⟨w.heap.size+2,3,none⟩ v') bx:=by
 have hcb:=h.cbl;have hba:Below w4.heap.size w4 (w4.alloc o):=ba;have hvl:∀k,v.ownBlock=some k→w.heap.size+3≤k∧k<wr.heap.size:=fun k hk=>World.ownsRow.lt h.own k hk
 have htg:Turns (fun k=>v.ownBlock=some k) (w4.alloc o) w5:=⟨hg.os,hg.tape,hg.output,hg.size,fun k hk hs=>hg.block k hk (fun e=>hs e.symm)⟩;have hsA:(w4.alloc o).heap.size=w4.heap.size+1:=World.size_alloc _ _
 -- what stands from wr to w5, but for cb and v's row
 have k1:∀k,k<wr.heap.size→k≠cb→v.ownBlock≠some k→w5.heap[k]? =wr.heap[k]? :=fun k hk a b=>by
  have e1:=hW.block k hk;have l1:=aN hk hW.size;have e2:=ht.block k l1 a;have l2:=aN l1 ht.size;have e3:=hba.block k l2;have e4:=htg.block k I b;exact e4.trans (e3.trans (e2.trans e1))
 have k2:∀k,k<w4.heap.size→v.ownBlock≠some k→w5.heap[k]? =w4.heap[k]? :=fun k hk b=>(htg.block k I b).trans (hba.block k hk)
 have s5:wr.heap.size≤w5.heap.size:=Nat.le_trans hW.size (Nat.le_trans ht.size Y161);have s45:w4.heap.size≤w5.heap.size:=Y161;have hsz:=h.sz;have hv':∀k,v'.ownBlock=some k→v.ownBlock=some k∨k=w4.heap.size+1:=fun k hk=>by
  rcases hat with q | q
  ·exact .inl (by rw [←q];exact hk)
  ·rw [q] at hk;cases hk;exact .inr hsA
 have hob:w5.heap[w.heap.size+2]? =some (.cells #[.int .i64 4,.string eB,.int .i64 0,v] 44 (0,0)):=(k1 _ I I (fun e=>by have:=(hvl _ e).1;omega)).trans h.ob;have ht6:Turns (fun k=>k=w.heap.size+2) w5 (w5.setCell ⟨w.heap.size+2,3,none⟩ v'):=(Turns.refl _ _).setCell _ _ (.inl rfl);have hcy5:CY w0 P w5 cb m sk' lv cv nv D ps:=(hc.under hba).apart htg (fun k hk=>h0 k (by have:=(hvl k hk).1;omega));refine ⟨hob,hcy5.apart ht6 (fun k hk=>h0 k I),?_,?_,?_,?_,fun x hx=>?_,(ht6.block _ I I).trans ((k1 _ I I (fun e=>by have:=(hvl _ e).1;omega)).trans h.xb),hcb,by have:=ht6.size;omega⟩
 ·refine ⟨?_,?_,?_,?_,fun k hk hs=>?_⟩
  ·exact ht6.os.trans (htg.os.trans (hba.os.trans (ht.os.trans (hW.os.trans h.ts.os))))
  ·exact ht6.tape.trans (htg.tape.trans (hba.tape.trans (ht.tape.trans (hW.tape.trans h.ts.tape))))
  ·exact ht6.output.trans (htg.output.trans (hba.output.trans (ht.output.trans (hW.output.trans h.ts.output))))
  ·have:=h.ts.size;have:=ht6.size;omega
  ·have e1:=h.ts.block k hk hs;have l1:=aN hk h.ts.size;have e2:=k1 k l1 hs (fun e=>by have:=(hvl k e).1;omega);have e3:=ht6.block k I I;exact e3.trans (e2.trans e1)
 ·rw [heap_setCell_same w5 _ 3 _ _ _ hob];rfl
 ·exact (ht6.block _ I I).trans ((k1 _ I I (fun e=>by have:=(hvl _ e).1;omega)).trans h.tb)
 ·rw [List.length_append,show (rp++[p]).flatMap lpC=rp.flatMap lpC++lpC p by simp];exact aJ hown ht6.size (fun k hk=>ht6.block k (World.ownsRow.lt hown k hk).2 (fun e=>by have:=(World.ownsRow.lt hown k hk).1;omega))
 ·have s6:w5.heap.size≤(w5.setCell ⟨w.heap.size+2,3,none⟩ v').heap.size:=ht6.size
  rcases List.mem_append.1 hx with q | q
  ·have hk:∀b,w.heap.size+3≤b→b<wr.heap.size→v.ownBlock≠some b→b≠cb→(w5.setCell ⟨w.heap.size+2,3,none⟩ v').heap[b]? =wr.heap[b]? :=fun b a1 a2 a3 a4=>(ht6.block b I I).trans (k1 b a2 a4 a3)
   refine (h.lits x q).same (Nat.le_trans s5 ht6.size) (fun b hb hl=>hk b hb.1 hl hb.2.2.1 hb.2.2.2.1) (fun b hb=>⟨hb.1,aN hb.2.1 (Nat.le_trans s5 s6),fun e=>?_,hb.2.2.2.1,hb.2.2.2.2.choose,(hk b hb.1 hb.2.1 hb.2.2.1 hb.2.2.2.1).trans hb.2.2.2.2.choose_spec⟩)
   ·rcases hv' b e with z | z
    ·exact hb.2.2.1 z
    ·have:=hb.2.1;have:=hW.size;have:=ht.size;omega
  ·rw [List.mem_singleton.1 q];have hWs:=hW.size;have hk:∀b,W.heap.size≤b→b<w4.heap.size→(w5.setCell ⟨w.heap.size+2,3,none⟩ v').heap[b]? =w4.heap[b]? :=fun b a1 a2=>(ht6.block b I I).trans (k2 b a2 (fun e=>by have:=(hvl b e).2;omega))
   refine (hl.same (Nat.le_trans s45 ht6.size) (fun b hb hlt=>hk b hb.1 hlt) (fun b hb=>?_))
   ·have h1:=hb.1;have h2:=hb.2.1;refine ⟨by omega,by omega,fun e=>?_,by omega,hb.2.2.choose,(hk b h1 h2).trans hb.2.2.choose_spec⟩
    rcases hv' b e with z | z
    ·have:=(hvl b z).2;omega
    ·omega
theorem mZ {w0 w:World} {P:Nat→Prop} {cb:Nat} {m:MK} {lv cv nv:Value} {D:Nat→Prop} {ps rp:List LP} {A3:Option Addr} {n c3:Nat} {sk:CSt} {wr w':World} {bx:Array Value} (h:AR w0 w P cb m lv cv nv D ps rp (.slice A3 n c3) sk wr bx) (h0:∀k,w.heap.size≤k→k≠cb∧lv.ownBlock≠some k∧cv.ownBlock≠some k∧nv.ownBlock≠some k∧¬D k∧¬P k)
  (hn:rp.length=n) (ht:Turns (fun k=>k=w.heap.size+1) wr w'):dO w0 w P cb m lv cv nv D ps (.node 4 eB 0 (rp.map Prod.fst)) sk (.returned (.agg #[.int .i64 4,.string eB,.int .i64 0,.slice A3 n c3])) w':=by
 subst hn;obtain ⟨A,c,hv,hle,hmx⟩:=aX h.own
 cases hv
 have hcb:=h.cbl;have hsz:=h.sz;refine ⟨⟨A3,c3⟩,?_,h.cy.apart ht (fun k hk=>h0 k I),?_,?_⟩
 ·show _=Ending.returned (.agg #[_,_,_,.slice A3 (rp.map Prod.fst).length c3])
  rw [List.length_map]
  rfl
 ·have hrow:LitRow wr (fun k=>w.heap.size+3≤k∧k<wr.heap.size∧(Value.slice A3 rp.length c3).ownBlock≠some k∧k≠cb∧∃cur,wr.heap[k]? =some (.cells cur 44 (0,0))) (.slice A3 rp.length c3) rp:=⟨bR h.own (Nat.zero_le _),h.lits⟩;have hk:∀b,w.heap.size+3≤b→b<wr.heap.size→w'.heap[b]? =wr.heap[b]? :=fun b a1 a2=>ht.block b a2 I
  refine .node _ _ (fun i=>(rp.getD i (.node 0 eB 0 [],⟨none,0⟩)).2) ⟨(⟨by decide,by decide⟩:InI 4),(⟨by decide,by decide⟩:InI 0),Nat.zero_le _,?_,hmx⟩ (fun i hi=>?_) (fun i hi=>?_)
  ·show (rp.map Prod.fst).length≤c3
   rw [List.length_map];exact hle
  ·have hi':i<rp.length:=Y130;obtain ⟨b,c,cur,hv,_,hh,hc⟩:=hrow.at_ hi'
   cases hv
   have hb:=World.ownsRow.lt h.own b rfl;refine ⟨b,cur,rfl,(hk b hb.1 hb.2).trans hh,⟨by omega,aN hb.2 ht.size,cur,(hk b hb.1 hb.2).trans hh⟩,?_⟩;have e1:(LitT.node 4 eB 0 (rp.map Prod.fst)).kids_[i]=rp[i].1:=Y129;have e2:rp.getD i (.node 0 eB 0 [],⟨none,0⟩)=rp[i]:=by rw [List.getD_eq_getElem?_getD,List.getElem?_eq_getElem hi'];rfl
   rw [e1]
   show Cells4 w' b (i*4) rp[i].1 (rp.getD i (.node 0 eB 0 [],⟨none,0⟩)).2
   rw [e2];exact hc.same (hk b hb.1 hb.2)
  ·have hi':i<rp.length:=Y130;have e1:(LitT.node 4 eB 0 (rp.map Prod.fst)).kids_[i]=rp[i].1:=Y129;have e2:rp.getD i (.node 0 eB 0 [],⟨none,0⟩)=rp[i]:=by rw [List.getD_eq_getElem?_getD,List.getElem?_eq_getElem hi'];rfl
   rw [e1]
   show IsLt w' _ rp[i].1 (rp.getD i (.node 0 eB 0 [],⟨none,0⟩)).2
   rw [e2];exact (h.lits rp[i] (List.getElem_mem hi')).same ht.size (fun b hb hl=>hk b hb.1 hl) (fun b hb=>⟨by have:=hb.1;omega,aN hb.2.1 ht.size,hb.2.2.2.2.choose,(hk b hb.1 hb.2.1).trans hb.2.2.2.2.choose_spec⟩)
 ·refine ⟨ht.os.trans h.ts.os,ht.tape.trans h.ts.tape,ht.output.trans h.ts.output,Nat.le_trans h.ts.size ht.size,fun k hk hs=>?_⟩;exact (ht.block k (aN hk h.ts.size) I).trans (h.ts.block k hk hs)
theorem Z83 {P:Prop} (h:P:=by
 rw [HW9.out];exact ((((Turns.refl (fun k=>k=w.heap.size+1) wr).setCell ⟨w.heap.size+1,0,none⟩ _ (.inl rfl)).setCell ⟨w.heap.size+1,1,none⟩ _ (.inl rfl)).setCell ⟨w.heap.size+1,2,none⟩ _ (.inl rfl)).setCell ⟨w.heap.size+1,3,none⟩ _ (.inl rfl)):P:=h
theorem uQ (f:Nat):∀(x:NodT),x.size≤f→x.size≤100000→∀{w0 w:World} {P:Nat→Prop} {cb:Nat} {m:MK} {s:CSt} {lv cv nv:Value} {D:Nat→Prop} {ps:List LP} {q:NS},CY w0 P w cb m s lv cv nv D ps→IsNd w0 (fun _=>True) x q→Calls Tryz.prog 36 #[.pointer (some ⟨cb,0,none⟩),ndV x q] w (dO w0 w P cb m lv cv nv D ps (dJ x s).1 (dJ x s).2):=by
 induction f with
 | zero=>intro x hx;have:=x.size_pos;omega
 | succ f ih=>
 intro x hx hx2 w0 w P cb m s lv cv nv D ps q hy hnd;have hok:=hnd.ok;have HND:=J hnd;have HY:=J hy;have HIH:=J ih;obtain ⟨k,t,nm,ns,ts,ks⟩:=x;have ht:=hok.text;have hnu:=hok.num;have hki:=hok.kind;have hkl:=hok.klen;simp only [NodT.kind,NodT.text,NodT.num,NodT.kids] at ht hnu hki hkl;have HT:=J ht;have HNU:=J hnu;clear hnd hy ih hok ht hnu;unfold ndV;simp only [NodT.kind,NodT.text,NodT.num,NodT.kids,NodT.names,NodT.temps]
 by_cases k1:k=1
 ·subst k1;rw [show dJ (.node 1 t nm ns ts ks) s=(.node 1 eB nm [],s) from by unfold dJ;rw [if_pos rfl]];go_enter Tryz.func36,Tryz.ntmps36;go_wp2_with fail;refine bodyPost_ret (v:=.agg #[.int .i64 1,.string eB,.int .i64 nm,.slice none 0 0]) Y135 rfl ?_;exact hM HY.out bel ⟨by decide,by decide⟩ HNU.out (Nat.zero_le _)
 by_cases k2:k=2
 ·subst k2;rw [show dJ (.node 2 t nm ns ts ks) s=(.node 2 t 0 [],s) from by unfold dJ;rw [if_neg Y3,if_pos rfl]];go_enter Tryz.func36,Tryz.ntmps36;go_wp2_with fail;refine bodyPost_ret (v:=.agg #[.int .i64 2,.string t,.int .i64 0,.slice none 0 0]) Y135 rfl ?_;exact hM HY.out bel ⟨by decide,by decide⟩ ⟨by decide,by decide⟩ HT.out
 by_cases k3:k=3
 ·subst k3;rw [show dJ (.node 3 t nm ns ts ks) s=(.node 3 t 0 [],s) from by unfold dJ;rw [if_neg Y3,if_neg Y3,if_pos rfl]];go_enter Tryz.func36,Tryz.ntmps36;go_wp2_with fail;refine bodyPost_ret (v:=.agg #[.int .i64 3,.string t,.int .i64 0,.slice none 0 0]) Y135 rfl ?_;exact hM HY.out bel ⟨by decide,by decide⟩ ⟨by decide,by decide⟩ HT.out
 by_cases k4:k=4
 ·subst k4;have HLI:Hid (dJ (.node 4 t nm ns ts ks) s=(.node 4 eB 0 (fC ks s).1,(fC ks s).2)):=J (by conv=>lhs;unfold dJ;rw [if_neg Y3,if_neg Y3,if_neg Y3,if_pos rfl]);rw [HLI.out];have hcb:=aA HY.out.box;obtain ⟨n,hn⟩:=aE ks.length;have HN:=J hn;rw [hn] at hkl ⊢;have hn5:n≤100000:=by
   rw [←hn];have:=wP (NodT.node 4 t nm ns ts ks);simp only [NodT.kids] at this;omega
  obtain ⟨W3,hW3⟩:∃W3,W3=((w.alloc (.cells #[.int .i64 4,.string t,.int .i64 nm,.slice q.pn ns.length q.cn,.slice q.pt ts.length q.ct,.slice q.pk n q.ck] 25)).alloc (.cells #[.int .i64 0,.string eB,.int .i64 0,.slice none 0 0] 44)).alloc (.cells #[.int .i64 4,.string eB,.int .i64 0,.slice none 0 0] 44):=⟨_,rfl⟩;have hb3:Below w.heap.size w W3:=Y47;have har:AR w0 w P cb m lv cv nv D ps [] (.slice none 0 0) s W3 #[.int .i64 4,.string t,.int .i64 nm,.slice q.pn ns.length q.cn,.slice q.pt ts.length q.ct,.slice q.pk n q.ck]:=by
   refine ⟨HY.out.under hb3,Turns.of_below hb3,?_,?_,World.ownsRow_nil _ _ _ _,fun p hp=>absurd hp Y12,?_,hcb,by rw [hW3];simp⟩
   ·rw [hW3];have:=heap_alloc_new ((w.alloc (.cells #[.int .i64 4,.string t,.int .i64 nm,.slice q.pn ns.length q.cn,.slice q.pt ts.length q.ct,.slice q.pk n q.ck] 25)).alloc (.cells #[.int .i64 0,.string eB,.int .i64 0,.slice none 0 0] 44)) (.cells #[.int .i64 4,.string eB,.int .i64 0,.slice none 0 0] 44);simp only [World.size_alloc] at this;exact this
   ·rw [hW3];refine ((Below.refl _ _).alloc aR (.cells #[.int .i64 4,.string eB,.int .i64 0,.slice none 0 0] 44)).block _ Y12 |>.trans ?_;have:=heap_alloc_new (w.alloc (.cells #[.int .i64 4,.string t,.int .i64 nm,.slice q.pn ns.length q.cn,.slice q.pt ts.length q.ct,.slice q.pk n q.ck] 25)) (.cells #[.int .i64 0,.string eB,.int .i64 0,.slice none 0 0] 44);rw [World.size_alloc] at this;exact this
   ·rw [hW3];exact ((((Below.refl (w.heap.size+1) _).alloc Y12 (.cells #[.int .i64 0,.string eB,.int .i64 0,.slice none 0 0] 44)).alloc Y12 (.cells #[.int .i64 4,.string eB,.int .i64 0,.slice none 0 0] 44)).block _ I).trans (heap_alloc_new w _)
  have HAR:=J har;clear har hb3 hn;go_enter Tryz.func36,Tryz.ntmps36;go_wp2_with fail
  go_loopw [6] (fun i wr=>∃(j:Nat) (sk:CSt) (rp:List LP) (A3:Option Addr) (c3:Nat),i= .int .i64 j∧j≤n∧rp.length=j∧AR w0 w P cb m lv cv nv D ps rp (.slice A3 j c3) sk wr #[.int .i64 4,.string t,.int .i64 nm,.slice q.pn ns.length q.cn,.slice q.pt ts.length q.ct,.slice q.pk n q.ck]∧fC ks s=(rp.map Prod.fst++(fC (ks.drop j) sk).1,(fC (ks.drop j) sk).2)) (fun i _=>n-(intOf i).toNat)
  case atStart=>exact ⟨0,s,[],none,0,rfl,Nat.zero_le _,rfl,by rw [←hW3];exact HAR.out,rfl⟩
  case round=>
   obtain ⟨j,sk,rp,A3,c3,rfl,hj,hrp,har,hli⟩:=hrel;clear HAR hW3;have HAR:=J har;have HLP:=J hli;have HRP:=J hrp;have o3:wr.cell? ⟨w.heap.size+2,3,none⟩=some (.slice A3 j c3):=Y56;have o0:wr.cell? ⟨w.heap.size+2,0,none⟩=some (.int .i64 4):=Y56;have o1:wr.cell? ⟨w.heap.size+2,1,none⟩=some (.string eB):=Y56;have o2:wr.cell? ⟨w.heap.size+2,2,none⟩=some (.int .i64 0):=Y56;have fo:wr.frozen? ⟨w.heap.size+2,3,none⟩=false:=by simp [World.frozen?,har.ob]
   have hobl:w.heap.size+2<wr.heap.size:=by have:=har.sz;omega
   have x5:wr.cell? ⟨w.heap.size,5,none⟩=some (.slice q.pk n q.ck):=by simp [World.cell?,har.xb]
   have k7:wr.cell? ⟨cb,7,none⟩=some (.int .i64 sk.err):=by rw [har.cy.cell];rfl
   have hxl:w.heap.size<wr.heap.size:=I;clear hli hrp
   by_cases hlt:j<n
   ·have d1:=aD hlt;have d2:=aT hlt;have hkl:j<(NodT.node 4 t nm ns ts ks).kids.length:=by have:=HN.out;simp only [NodT.kids];omega
    have hdr:ks.drop j=(NodT.node 4 t nm ns ts ks).kids[j] :: ks.drop (j+1):=List.drop_eq_getElem_cons (by have:=HN.out;omega)
    by_cases he:sk.err=0
    case neg=>
     have e1:(sk.err==0)=false:=Y20;have HES:Hid (fC ks s=(rp.map Prod.fst,sk)):=J (by rw [HLP.out,hdr];unfold fC;rw [if_pos he];simp);clear hdr he hlt;have HTB:=har.tb;have u0:wr.cell? ⟨w.heap.size+1,0,none⟩=some (.int .i64 0):=Y32;have u1:wr.cell? ⟨w.heap.size+1,1,none⟩=some (.string eB):=Y32;have u2:wr.cell? ⟨w.heap.size+1,2,none⟩=some (.int .i64 0):=Y32;have u3:wr.cell? ⟨w.heap.size+1,3,none⟩=some (.slice none 0 0):=Y32;have r0:wr.frozen? ⟨w.heap.size+1,0,none⟩=false:=Y28;have r1:wr.frozen? ⟨w.heap.size+1,1,none⟩=false:=Y28;have r2:wr.frozen? ⟨w.heap.size+1,2,none⟩=false:=Y28;have r3:wr.frozen? ⟨w.heap.size+1,3,none⟩=false:=Y28;clear har;go_wp2_with fail;obtain ⟨W9,hW9⟩:∃W9,W9=((((wr.setCell ⟨w.heap.size+1,0,none⟩ (.int .i64 4)).setCell ⟨w.heap.size+1,1,none⟩ (.string eB)).setCell ⟨w.heap.size+1,2,none⟩ (.int .i64 0)).setCell ⟨w.heap.size+1,3,none⟩ (.slice A3 j c3)):=⟨_,rfl⟩;have h9:W9.heap[w.heap.size+1]? =some (.cells #[.int .i64 4,.string eB,.int .i64 0,.slice A3 j c3] 44 (0,0)):=by rw [hW9];exact fT HTB
     have z0:W9.cell? ⟨w.heap.size+1,0,none⟩=some (.int .i64 4):=Y11;have z1:W9.cell? ⟨w.heap.size+1,1,none⟩=some (.string eB):=Y11;have z2:W9.cell? ⟨w.heap.size+1,2,none⟩=some (.int .i64 0):=Y11;have z3:W9.cell? ⟨w.heap.size+1,3,none⟩=some (.slice A3 j c3):=Y11;have HW9:=J hW9;rw [←hW9];clear hW9 h9;refine bodyPost_ret (v:=.agg #[.int .i64 4,.string eB,.int .i64 0,.slice A3 j c3]) Y104 rfl ?_;have htq:Turns (fun k=>k=w.heap.size+1) wr W9:=by
      exact Z83
     have hls:fC ks s=(rp.map Prod.fst,sk):=HES.out;rw [hls];exact mZ HAR.out (fun k hk=>HY.out.fresh hk) HRP.out htq
    have HE:=J he;rw [he] at k7;obtain ⟨b,off,q',hpk,hbl,_,hc6,hkd⟩:=HND.out.kid hkl;have hst:=har.cy.stat;have hc6w:=hc6.same (hst.block b hbl);have hbw:b<wr.heap.size:=aN hbl hst.size;have hsz:=NodT.size_kid (List.getElem_mem hkl);obtain ⟨kd,hkx⟩:=aE ((NodT.node 4 t nm ns ts ks).kids[j]);rw [hkx] at hc6w hkd hsz;have HKX:=J hkx;have c0:=hc6w.c0;have c1:=hc6w.c1;have c2:=hc6w.c2;have c3':=hc6w.c3;have c4:=hc6w.c4;have c5:=hc6w.c5;have hck:∀W,Below wr.heap.size wr W→Calls Tryz.prog 36 #[.pointer (some ⟨cb,0,none⟩),ndV kd q'] W (fun e w'=>dO w0 W P cb m lv cv nv D ps (dJ kd sk).1 (dJ kd sk).2 e w'∧Below wr.heap.size wr W):=fun W hW=>(HIH.out kd I I (har.cy.under hW) hkd).mono (fun e w' z=>⟨z,hW⟩)
    obtain ⟨ld,sd,hld⟩:∃l s,dJ kd sk=(l,s):=⟨_,_,rfl⟩;rw [hld] at hck;have HLD:=J hld;unfold ndV dO ltV at hck;have HIC:=J hck;have g0:(0:Int)≤(j:Int):=I;have g1:(j:Int)<(n:Int):=I;rw [hpk] at x5;clear hck hld hkx hkd hc6 hc6w har hst hsz hx hx2 hdr he
    go_upto_region 13 with fail
    go_region_law (first | (go_simp;go_at_call 36;(with_reducible refine (HIC.out _ bel).mono ?_);rintro e w4 ⟨⟨ql,rfl,hc4,hl4,ht4⟩,hbw4⟩;have HBW:=J hbw4;have HC4:=J hc4;have HL4:=J hl4;have HT4:=J ht4;have hob4:=(ht4.block (w.heap.size+2) (aN hobl hbw4.size) I).trans ((HBW.out.block (w.heap.size+2) hobl).trans HAR.out.ob);have s3:w4.cell? ⟨w.heap.size+2,3,none⟩=some (.slice A3 j c3):=(by simp [World.cell?,hob4]);have s3a:(w4.alloc (.cells #[.int .i64 ld.kind_,.string ld.text_,.int .i64 ld.num_,.slice ql.p ld.kids_.length ql.c] 44)).cell? ⟨w.heap.size+2,3,none⟩=some (.slice A3 j c3):=Lib.cell?_alloc_marked _ s3;have HOW:Hid ((w4.alloc (.cells #[.int .i64 ld.kind_,.string ld.text_,.int .i64 ld.num_,.slice ql.p ld.kids_.length ql.c] 44)).ownsRow (w.heap.size+3) 44 4 (.slice A3 j c3) j (rp.flatMap lpC)):=J (World.ownsRow.alloc (by have h9:=HAR.out.own;rw [HRP.out] at h9;refine aJ h9 (Nat.le_trans HBW.out.size HT4.out.size) (fun k hk=>(HT4.out.block k (aN (World.ownsRow.lt h9 k hk).2 HBW.out.size) (fun e=>by have h7:=(World.ownsRow.lt h9 k hk).1;omega)).trans (HBW.out.block k (World.ownsRow.lt h9 k hk).2))) _);have hs4:=Nat.le_trans hbw4.size ht4.size;have hb4l:w.heap.size+3≤w4.heap.size:=(by have:=HAR.out.sz;omega);clear hc4 hl4 ht4 hob4 hbw4) | ((refine oD rfl _ _ rfl (w.heap.size+3) (.slice A3 j c3) j (rp.flatMap lpC) Y10 HOW.out (G:=w4.heap.size) Y10 (ld,ql) (heap_alloc_new w4 _) I Y4 ?_;intro v5 w5 hown5 hg5 hat5;have hst:=HAR.out.step (fun k hk=>HY.out.fresh hk) HBW.out HC4.out (ld,ql) HL4.out HT4.out _ (by rw [HRP.out];exact hown5) hg5 hat5;obtain ⟨A5,c5,hv5,_⟩:=aX hown5;subst hv5;have HST:=J hst;have s35:w5.cell? ⟨w.heap.size+2,3,none⟩=some (.slice A3 j c3):=(by simp [World.cell?,hst.1]);have f35:w5.frozen? ⟨w.heap.size+2,3,none⟩=false:=(by simp [World.frozen?,hst.1]);clear hst hown5 hg5 hat5)))
    all_goals
     go_wp2_with fail;go_roundw
     case rel=>
      have hst2:=HST.out.2;rw [hpk] at hst2;refine ⟨j+1,by omega,hlt,sd,rp++[(ld,ql)],by rw [List.length_append,HRP.out];rfl,⟨A5,c5,hst2⟩,?_⟩;have hd:ks.drop j=kd :: ks.drop (j+1):=by
       have h9:ks[j]? =some kd:=by
        have h8:(NodT.node 4 t nm ns ts ks).kids[j]? =some kd:=by rw [List.getElem?_eq_getElem hkl,HKX.out]
        exact h8
       obtain ⟨h7,h6⟩:=List.getElem?_eq_some_iff.1 h9;rw [List.drop_eq_getElem_cons h7,h6]
      rw [HLP.out,hd];rw [fC,if_neg (fun z=>z HE.out),HLD.out];simp
     case measure=>simp [intOf];omega
   ·have hkn:j=n:=I;have d1:=aK hlt;have d2:=aF hlt;clear hlt;subst hkn;have HTB:=har.tb;have u0:wr.cell? ⟨w.heap.size+1,0,none⟩=some (.int .i64 0):=Y32;have u1:wr.cell? ⟨w.heap.size+1,1,none⟩=some (.string eB):=Y32;have u2:wr.cell? ⟨w.heap.size+1,2,none⟩=some (.int .i64 0):=Y32;have u3:wr.cell? ⟨w.heap.size+1,3,none⟩=some (.slice none 0 0):=Y32;have r0:wr.frozen? ⟨w.heap.size+1,0,none⟩=false:=Y28;have r1:wr.frozen? ⟨w.heap.size+1,1,none⟩=false:=Y28;have r2:wr.frozen? ⟨w.heap.size+1,2,none⟩=false:=Y28;have r3:wr.frozen? ⟨w.heap.size+1,3,none⟩=false:=Y28;clear har;go_wp2_with fail;obtain ⟨W9,hW9⟩:∃W9,W9=((((wr.setCell ⟨w.heap.size+1,0,none⟩ (.int .i64 4)).setCell ⟨w.heap.size+1,1,none⟩ (.string eB)).setCell ⟨w.heap.size+1,2,none⟩ (.int .i64 0)).setCell ⟨w.heap.size+1,3,none⟩ (.slice A3 j c3)):=⟨_,rfl⟩;have h9:W9.heap[w.heap.size+1]? =some (.cells #[.int .i64 4,.string eB,.int .i64 0,.slice A3 j c3] 44 (0,0)):=by rw [hW9];exact fT HTB
    have z0:W9.cell? ⟨w.heap.size+1,0,none⟩=some (.int .i64 4):=Y11;have z1:W9.cell? ⟨w.heap.size+1,1,none⟩=some (.string eB):=Y11;have z2:W9.cell? ⟨w.heap.size+1,2,none⟩=some (.int .i64 0):=Y11;have z3:W9.cell? ⟨w.heap.size+1,3,none⟩=some (.slice A3 j c3):=Y11;have HW9:=J hW9;rw [←hW9];clear hW9 h9;refine bodyPost_ret (v:=.agg #[.int .i64 4,.string eB,.int .i64 0,.slice A3 j c3]) Y104 rfl ?_;have htq:Turns (fun k=>k=w.heap.size+1) wr W9:=by
     exact Z83
    have hls:fC ks s=(rp.map Prod.fst,sk):=by
     rw [HLP.out,←HN.out,List.drop_length];simp [fC]
    rw [hls];exact mZ HAR.out (fun k hk=>HY.out.fresh hk) HRP.out htq
 ·rw [show dJ (.node k t nm ns ts ks) s=(.node 0 eB 0 [],aG s eB 1) from by unfold dJ;rw [if_neg k1,if_neg k2,if_neg k3,if_neg k4]];have e1:(k==1)=false:=by simpa using k1
  have e2:(k==2)=false:=by simpa using k2
  have e3:(k==3)=false:=by simpa using k3
  have e4:(k==4)=false:=by simpa using k4
  have hcb:=aA HY.out.box;have HTB:Hid (((w.alloc (.cells #[.int .i64 k,.string t,.int .i64 nm,.slice q.pn ns.length q.cn,.slice q.pt ts.length q.ct,.slice q.pk ks.length q.ck] 25)).alloc (.cells #[.int .i64 0,.string eB,.int .i64 0,.slice none 0 0] 44)).heap[w.heap.size+1]? =some (.cells #[.int .i64 0,.string eB,.int .i64 0,.slice none 0 0] 44 (0,0))):=J (by
   have:=heap_alloc_new (w.alloc (.cells #[.int .i64 k,.string t,.int .i64 nm,.slice q.pn ns.length q.cn,.slice q.pt ts.length q.ct,.slice q.pk ks.length q.ck] 25)) (.cells #[.int .i64 0,.string eB,.int .i64 0,.slice none 0 0] 44);rw [World.size_alloc] at this;exact this)
  go_enter Tryz.func36,Tryz.ntmps36;go_wp2_with (first | (go_at_call 35;(with_reducible refine (mW (HY.out.under bel) ⟨#[]⟩ (Nat.zero_le _) 1).mono ?_);rintro e w3 ⟨rfl,hc3,ht3⟩;have HC3:=J hc3;have htb3:=(ht3.block (w.heap.size+1) Y12 I).trans (HTB.out);have HT3:=J ht3;have HTB3:=J htb3;have v0:w3.cell? ⟨w.heap.size+1,0,none⟩=some (.int .i64 0):=Y63;have v1:w3.cell? ⟨w.heap.size+1,1,none⟩=some (.string eB):=Y63;have v2:w3.cell? ⟨w.heap.size+1,2,none⟩=some (.int .i64 0):=Y63;have v3:w3.cell? ⟨w.heap.size+1,3,none⟩=some (.slice none 0 0):=Y63;have r0:w3.frozen? ⟨w.heap.size+1,0,none⟩=false:=Y55;have r1:w3.frozen? ⟨w.heap.size+1,1,none⟩=false:=Y55;have r2:w3.frozen? ⟨w.heap.size+1,2,none⟩=false:=Y55;have r3:w3.frozen? ⟨w.heap.size+1,3,none⟩=false:=Y55;clear hc3 ht3 htb3));obtain ⟨W9,hW9⟩:∃W9,W9=((((w3.setCell ⟨w.heap.size+1,0,none⟩ (.int .i64 0)).setCell ⟨w.heap.size+1,1,none⟩ (.string eB)).setCell ⟨w.heap.size+1,2,none⟩ (.int .i64 0)).setCell ⟨w.heap.size+1,3,none⟩ (.slice none 0 0)):=⟨_,rfl⟩;have h9:W9.heap[w.heap.size+1]? =some (.cells #[.int .i64 0,.string eB,.int .i64 0,.slice none 0 0] 44 (0,0)):=by rw [hW9];exact fT HTB3.out
  have z0:W9.cell? ⟨w.heap.size+1,0,none⟩=some (.int .i64 0):=Y11;have z1:W9.cell? ⟨w.heap.size+1,1,none⟩=some (.string eB):=Y11;have z2:W9.cell? ⟨w.heap.size+1,2,none⟩=some (.int .i64 0):=Y11;have z3:W9.cell? ⟨w.heap.size+1,3,none⟩=some (.slice none 0 0):=Y11;have HW9:=J hW9;rw [←hW9];clear hW9 h9;refine bodyPost_ret (v:=.agg #[.int .i64 0,.string eB,.int .i64 0,.slice none 0 0]) Y104 rfl ?_;have hb2:Below w.heap.size w ((w.alloc (.cells #[.int .i64 k,.string t,.int .i64 nm,.slice q.pn ns.length q.cn,.slice q.pt ts.length q.ct,.slice q.pk ks.length q.ck] 25)).alloc (.cells #[.int .i64 0,.string eB,.int .i64 0,.slice none 0 0] 44)):=bel;have htq:Turns (fun k=>k=w.heap.size+1) w3 W9:=by
   rw [HW9.out];exact ((((Turns.refl (fun k=>k=w.heap.size+1) w3).setCell ⟨w.heap.size+1,0,none⟩ _ (.inl rfl)).setCell ⟨w.heap.size+1,1,none⟩ _ (.inl rfl)).setCell ⟨w.heap.size+1,2,none⟩ _ (.inl rfl)).setCell ⟨w.heap.size+1,3,none⟩ _ (.inl rfl)
  have hT3:Turns (fun k=>k=cb) w W9:=by
   refine ⟨htq.os.trans (HT3.out.os.trans hb2.os),htq.tape.trans (HT3.out.tape.trans hb2.tape),htq.output.trans (HT3.out.output.trans hb2.output),Nat.le_trans hb2.size (Nat.le_trans HT3.out.size htq.size),fun j hj hs=>?_⟩;have h1:=hb2.block j hj;have h2:=HT3.out.block j (aN hj hb2.size) hs;have h3:=htq.block j (aN hj (Nat.le_trans hb2.size HT3.out.size)) I;exact h3.trans (h2.trans h1)
  exact ⟨⟨none,0⟩,rfl,HC3.out.apart htq (fun k e=>HY.out.fresh I),IsLt.leaf _ _ InI0 InI0 (Nat.zero_le _),hT3⟩
theorem iL {w0 w:World} {P:Nat→Prop} {cb:Nat} {m:MK} {s:CSt} {lv cv nv:Value} {D:Nat→Prop} {ps:List LP} {x:NodT} {q:NS} (h:CY w0 P w cb m s lv cv nv D ps) (hn:IsNd w0 (fun _=>True) x q) (hx:x.size≤100000):Calls Tryz.prog 36 #[.pointer (some ⟨cb,0,none⟩),ndV x q] w (dO w0 w P cb m lv cv nv D ps (dJ x s).1 (dJ x s).2):=uQ x.size x aR hx h hn
end Go.Proofs.YtnojndgmgkgnpaaGreat.Rf
