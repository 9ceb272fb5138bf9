/- Chapter 10: words and contracts for the law. -/
import Derived.Test.YtnojndgmgkgnpaaGreatQ04
set_option maxRecDepth 100000
set_option maxHeartbeats 40000000
set_option linter.unusedVariables false
set_option linter.unusedSimpArgs false
namespace Go.Proofs.YtnojndgmgkgnpaaGreat
open Go.ChangeShapes Go.WideShapes Go.ChangeAt Go.RowKit Go.Deep Go.Joins Go.Maps
def xO:Arm→Int | .op o=>o | .kid i=>(i:Int)
def armV (cx xb kb:Nat):Arm→Value
 | .op _=>.func (.func 110) #[] #[.pointer (some ⟨cx,0,none⟩),.pointer (some ⟨kb,0,none⟩)]
 | .kid _=>.func (.func 108) #[] #[.pointer (some ⟨cx,0,none⟩),.pointer (some ⟨xb,0,none⟩),.pointer (some ⟨kb,0,none⟩)]
theorem lM (cx xb:Nat) (i:Int) (w:World):Calls Tryz.prog 107 #[.int .i64 i,.pointer (some ⟨cx,0,none⟩),.pointer (some ⟨xb,0,none⟩)] w fun e w'=>e= .returned (.func (.func 108) #[] #[.pointer (some ⟨cx,0,none⟩),.pointer (some ⟨xb,0,none⟩),.pointer (some ⟨w.heap.size,0,none⟩)])∧w'=w.alloc (.cells #[.int .i64 i] 3):=by
 go_enter Tryz.func107,Tryz.ntmps107;go_wp2_with fail;go_ret;exact ⟨rfl,rfl⟩
theorem iQ (cx:Nat) (o:Int) (w:World):Calls Tryz.prog 109 #[.int .i64 o,.pointer (some ⟨cx,0,none⟩)] w fun e w'=>e= .returned (.func (.func 110) #[] #[.pointer (some ⟨cx,0,none⟩),.pointer (some ⟨w.heap.size,0,none⟩)])∧w'=w.alloc (.cells #[.int .i64 o] 3):=by
 go_enter Tryz.func109,Tryz.ntmps109;go_wp2_with fail;go_ret;exact ⟨rfl,rfl⟩
theorem qR {w0 w:World} {P:Nat→Prop} {cb:Nat} {m:MK} {s:CSt} (h:CX w0 P w cb m s) {cx kb:Nat} {o:Int} (h0:w.cell? ⟨cx,0,none⟩=some (.pointer (some ⟨cb,0,none⟩))) (h1:w.cell? ⟨kb,0,none⟩=some (.int .i64 o)) (hf:s.code.length≤1000000):Calls Tryz.prog 110 #[.pointer (some ⟨cx,0,none⟩),.pointer (some ⟨kb,0,none⟩)] w fun e w'=>e= .returned (.tuple #[])∧CT w0 P w w' cb m (aB s o 0 0):=by
 have HH:=J h;have HF:=J hf;clear h hf;go_enter Tryz.func110,Tryz.ntmps110;go_wp2_with (first | (go_at_call 56;(with_reducible refine (iA HH.out o 0 0 HF.out).mono ?_);rintro e w7 ⟨rfl,HY⟩;replace HY:=J HY));go_returns;exact ⟨rfl,HY.out⟩
structure ArmS (w:World) (P:Nat→Prop) (cb cx xb kb:Nat) (x:NodT) (q:NS) (v:Int):Prop where
 bc:w.heap[cx]? =some (.cells #[.pointer (some ⟨cb,0,none⟩)] 77 (0,0))
 bx:w.heap[xb]? =some (.cells #[.int .i64 x.kind,.string x.text,.int .i64 x.num,.slice q.pn x.names.length q.cn,.slice q.pt x.temps.length q.ct,.slice q.pk x.kids.length q.ck] 25 (0,0))
 bk:w.heap[kb]? =some (.cells #[.int .i64 v] 3 (0,0))
 pc:P cx
 px:P xb
 pk:P kb
theorem ArmS.turns {w w':World} {P:Nat→Prop} {cb cx xb kb:Nat} {x:NodT} {q:NS} {v:Int} (h:ArmS w P cb cx xb kb x q v) (ht:Turns (cP P) w w'):ArmS w' P cb cx xb kb x q v:=
 ⟨(ht.block _ (aA h.bc) (fun z=>z h.pc)).trans h.bc,(ht.block _ (aA h.bx) (fun z=>z h.px)).trans h.bx,(ht.block _ (aA h.bk) (fun z=>z h.pk)).trans h.bk,h.pc,h.px,h.pk⟩
theorem ArmS.more {w:World} {P P':Nat→Prop} {cb cx xb kb:Nat} {x:NodT} {q:NS} {v:Int} (h:ArmS w P cb cx xb kb x q v) (hP:∀k,P k→P' k):ArmS w P' cb cx xb kb x q v:=⟨h.bc,h.bx,h.bk,hP _ h.pc,hP _ h.px,hP _ h.pk⟩
theorem pE {f:Nat} (hv:VSpec f) {w0 w:World} {P:Nat→Prop} {cb:Nat} {m:MK} {s:CSt} (h:CX w0 P w cb m s) {cx xb kb i:Nat} {x:NodT} {q:NS} (hn:IsNd w0 (fun _=>True) x q) (ha:ArmS w P cb cx xb kb x q (i:Int)) (hi:i<x.kids.length) (hx:(x.kids[i]).size≤f+1) (hf:s.code.length+8*(x.kids[i]).size≤1000000) (hl:s.lits.length+(x.kids[i]).size≤100000):
  Calls Tryz.prog 108 #[.pointer (some ⟨cx,0,none⟩),.pointer (some ⟨xb,0,none⟩),.pointer (some ⟨kb,0,none⟩)] w fun e w'=>e= .returned (.tuple #[])∧CT w0 P w w' cb m (cN (aL f) (x.kids[i]) s):=by
 obtain ⟨b,off,q',hpk,hbl,_,hc6,hkn⟩:=hn.kid hi;have hst:=h.stat;have hbw:b<w.heap.size:=aN hbl hst.size;obtain ⟨kd,hkx⟩:=aE (x.kids[i]);rw [hkx] at hc6 hkn hx hf hl ⊢;have hbo:∀W,Below w.heap.size w W→Calls Tryz.prog 84 #[.pointer (some ⟨cb,0,none⟩),ndV kd q'] W fun e w'=>e= .returned (.tuple #[])∧CT w0 P w w' cb m (cN (aL f) kd s):=fun W hb=>by
  have h2:=h.ct.below hb;refine (sP hv h2.1 hkn hx hf hl).mono ?_;rintro e w' ⟨he,hc⟩;exact ⟨he,h2.go hc⟩
 unfold ndV at hbo;have HBO:=J hbo;obtain ⟨n,hnk⟩:=aE x.kids.length;have HNK:=J hnk;have HPK:=J hpk;have HC6:=J hc6;have HBL:=J hbl;have HAS:=J ha;have x0:=HAS.out.bc;have e0:w.cell? ⟨cx,0,none⟩=some (.pointer (some ⟨cb,0,none⟩)):=Y154;have x1:=HAS.out.bk;have e1:w.cell? ⟨kb,0,none⟩=some (.int .i64 (i:Int)):=(by simp [World.cell?,x1]);have x2:=bZ HAS.out.bx;have e2:=x2.c5;rw [HNK.out,HPK.out] at e2;clear x0 x1 x2;have hd6:=HC6.out.same (hst.block b hbl);have d0:=hd6.c0;have d1:=hd6.c1;have d2:=hd6.c2;have d3:=hd6.c3;have d4:=hd6.c4;have d5:=hd6.c5;clear hd6;rw [hnk] at hi;have g0:(0:Int)≤(i:Int):=I;have g1:(i:Int)<(n:Int):=I;clear hbo hn h ha hx hf hl hc6 hst hv hkn hkx hpk hnk;go_enter Tryz.func108,Tryz.ntmps108
 go_region_held3 (fun w'=>w'.cell? ⟨cx,0,none⟩=some (.pointer (some ⟨cb,0,none⟩))∧w'.cell? ⟨kb,0,none⟩=some (.int .i64 (i:Int))∧w'.cell? ⟨xb,5,none⟩=some (.slice (some ⟨b,off,none⟩) n q.ck)∧w'.cell? ⟨b,off+i*6,none⟩=some (.int .i64 kd.kind)∧w'.cell? ⟨b,off+i*6+1,none⟩=some (.string kd.text)∧w'.cell? ⟨b,off+i*6+2,none⟩=some (.int .i64 kd.num)∧w'.cell? ⟨b,off+i*6+3,none⟩=some (.slice q'.pn kd.names.length q'.cn)∧w'.cell? ⟨b,off+i*6+4,none⟩=some (.slice q'.pt kd.temps.length q'.ct)∧w'.cell? ⟨b,off+i*6+5,none⟩=some (.slice q'.pk kd.kids.length q'.ck)) (first | assumption | (simp [go_sem];done) | (simp [go_sem, *];done)) (first | (go_at_call 84;(with_reducible refine (HBO.out _ bel).mono ?_);rintro e w7 ⟨rfl,hx3⟩;have HY:=J hx3;have hs7:=HAS.out.turns hx3.2;have x0:=hs7.bc;have e0:w7.cell? ⟨cx,0,none⟩=some (.pointer (some ⟨cb,0,none⟩)):=Y154;have x1:=hs7.bk;have e1:w7.cell? ⟨kb,0,none⟩=some (.int .i64 (i:Int)):=(by simp [World.cell?,x1]);have x2:=bZ hs7.bx;have e2:=x2.c5;rw [HNK.out,HPK.out] at e2;clear x0 x1 x2;have hd6:=HC6.out.same (hx3.1.stat.block b HBL.out);have d0:=hd6.c0;have d1:=hd6.c1;have d2:=hd6.c2;have d3:=hd6.c3;have d4:=hd6.c4;have d5:=hd6.c5;clear hd6;clear hx3 hs7))
 all_goals
  go_returns;exact ⟨rfl,HY.out⟩
def pF (k:NodT):Bool:=!bU k
theorem pclo_any {x:NodT} {q:NS} (hok:NdOk x q) (w:World):Calls Tryz.prog 112 #[ndV x q] w fun e w'=>e= .returned (.bool (pF x))∧Below w.heap.size w w':=by
 have hpl:∀W,Calls Tryz.prog 113 #[ndV x q] W fun e w'=>e= .returned (.bool (bU x))∧Below W.heap.size W w':=fun W=>fZ hok W
 obtain ⟨v,hv⟩:=aE (bU x);have HN:Hid (pF x=!v):=J (by unfold pF;rw [hv]);rw [hv] at hpl;unfold ndV at hpl ⊢;have HPL:=J hpl;clear hpl hok hv;go_enter Tryz.func112,Tryz.ntmps112;go_wp2_with (first | (go_at_call 113;(with_reducible refine (HPL.out _).mono ?_);rintro e w1 ⟨rfl,HB1⟩;replace HB1:=J HB1));go_ret;refine ⟨by rw [HN.out];rfl,?_⟩;exact (ba).trans (HB1.out.mono Y86)
theorem sQ {w0 w:World} {p:Option Addr} {n c:Nat} {l:List NodT} (hR:Rows w0 p l) (hst:Below w0.heap.size w0 w) (hn:l.length=n) (hle:n≤9223372036854775807):Calls Tryz.prog 115 #[.slice p n c,.func (.func 112) #[] #[]] w fun e w'=>e= .returned (.int .i64 (rN (l.findIdx? pF)))∧Below w.heap.size w w':=by
 have HR:=J hR;have HL:=J hn;have HST:=J hst;clear hR hn hst;go_enter Tryz.func115,Tryz.ntmps115;go_wp2_with fail
 go_loopw [8] (fun i wr=>∃k:Nat,k≤n∧i= .int .i64 k∧(l.take k).any pF=false∧Below w.heap.size w wr) (fun i _=>n-(intOf i).toNat)
 case atStart=>exact ⟨0,Nat.zero_le _,rfl,rfl,Below.refl _ _⟩
 case round=>
  obtain ⟨k,hk,rfl,hall,hbw⟩:=hrel;have HALL:=J hall;have HBW:=J hbw;have hws:=hbw.size;clear hall
  by_cases hlt:k<n
  ·have d1:=aD hlt;have hkl:k<l.length:=Y48;obtain ⟨b,off,q',rfl,hbl,hc6,hkn⟩:=HR.out k hkl;have hst:=HST.out.trans (hbw.mono HST.out.size);have hbwr:b<wr.heap.size:=aN hbl hst.size;have hd6:=hc6.same (hst.block b hbl);obtain ⟨kx,hkx⟩:=aE (l[k]);have HKX:=J hkx;rw [hkx] at hd6 hkn;have hcl:∀W,Calls Tryz.prog 112 #[ndV kx q'] W fun e w'=>e= .returned (.bool (pF kx))∧Below W.heap.size W w':=fun W=>pclo_any hkn.ok W
   unfold ndV at hcl;have c0:=hd6.c0;have c1:=hd6.c1;have c2:=hd6.c2;have c3:=hd6.c3;have c4:=hd6.c4;have c5:=hd6.c5;have g0:(0:Int)≤(k:Int):=I;have g1:(k:Int)<(n:Int):=I;clear hkx hbw hc6 hd6 hkn hst;obtain ⟨v,hv⟩:=aE (pF kx);rw [hv] at hcl;have HV:=J hv;have HCL:=J hcl;clear hv hcl
   cases v
   ·go_wp2_with (first | (go_at_call 112;(with_reducible refine (HCL.out _).mono ?_);rintro e w1 ⟨rfl,HB1⟩;replace HB1:=J HB1));go_roundw
    case rel=>exact ⟨k+1,by omega,by go_num,gH hkl Y140 HALL.out,HBW.out.trans (HB1.out.mono HBW.out.size)⟩
    case measure=>simp [intOf];omega
   ·go_wp2_with (first | (go_at_call 112;(with_reducible refine (HCL.out _).mono ?_);rintro e w1 ⟨rfl,HB1⟩;replace HB1:=J HB1));go_ret;exact ⟨by rw [gU hkl HALL.out Y140];rfl,HBW.out.trans (HB1.out.mono HBW.out.size)⟩
  ·have hkn:k=n:=I;have d1:=aK hlt;clear hlt;subst hkn;go_wp2_with fail;go_ret;refine ⟨?_,HBW.out⟩;have h9:=HALL.out;rw [←HL.out,List.take_length] at h9;rw [gV h9]
   rfl
theorem sR (l:List NodT):(match l.findIdx? pF with | some _=>true | none=>false)=!(l.all bU):=by
 induction l with
 | nil=>rfl
 | cons a l ih=>
  rw [List.findIdx?_cons,List.all_cons]
  by_cases h:bU a=true
  ·simp only [pF,h,Bool.not_true,Bool.false_eq_true,if_false,Bool.true_and];rw [←ih];have e:∀o:Option Nat,(match o.map (· +1) with | some _=>true | none=>false)=(match o with | some _=>true | none=>false):=fun o=>by cases o <;> rfl
   exact e _
  ·simp only [Bool.not_eq_true] at h;simp [pF,h]
theorem pG {w0 w:World} {p:Option Addr} {n c:Nat} {l:List NodT} (hR:Rows w0 p l) (hst:Below w0.heap.size w0 w) (hn:l.length=n) (hle:n≤9223372036854775807):Calls Tryz.prog 111 #[.slice p n c,.func (.func 112) #[] #[]] w fun e w'=>e= .returned (.bool (!(l.all bU)))∧Below w.heap.size w w':=by
 have hix:=sQ (c:=c) hR hst hn hle;have hfi:=sR l;rw [←hfi];obtain ⟨o,ho⟩:=aE (l.findIdx? pF);rw [ho] at hix ⊢;have hi2:∀i,o=some i→i<9223372036854775807:=fun i e=>by
  rw [e,List.findIdx?_eq_some_iff_getElem] at ho;obtain ⟨h1,_⟩:=ho;omega
 clear hfi ho
 cases o with
 | none=>
  unfold rN at hix;have HIX:=J hix;clear hix hi2 hR hst;go_enter Tryz.func111,Tryz.ntmps111;go_wp2_with (first | (go_at_call 115;(with_reducible refine (HIX.out).mono ?_);rintro e w1 ⟨rfl,HB1⟩;replace HB1:=J HB1));go_ret;exact ⟨rfl,HB1.out⟩
 | some i=>
  unfold rN at hix;have hii:=hi2 i rfl;have HIX:=J hix;have d1:decide ((0:Int)≤(i:Int))=true:=aD I;have d2:decide (0≤i)=true:=aD I;clear hix hi2 hR hst;go_enter Tryz.func111,Tryz.ntmps111;go_wp2_with (first | (go_at_call 115;(with_reducible refine (HIX.out).mono ?_);rintro e w1 ⟨rfl,HB1⟩;replace HB1:=J HB1));go_ret;exact ⟨aY Y12,HB1.out⟩
theorem lN {w0:World} {p:Option Addr} {l:List NodT} {n c:Nat} (hr:Rows w0 p l) (hn:l.length=n) (h1:1≤n) (hc:n≤c):∃p' c',(∀w:World,(Instr.slice 23 (.slice p n c) (some (.int .i64 1)) none none).run Tryz.prog w= .ok (.slice p' (n-1) c') w)∧Rows w0 p' (l.drop 1):=by
 obtain ⟨b,off,q',rfl,_⟩:=hr 0 I;refine ⟨if c=1 then some ⟨b,off,none⟩ else some ⟨b,off+1*6,none⟩,c-1,fun w=>?_,?_⟩
 ·rw [run_slice_l w 23 _ n c Tryz.underlying23 .i64 1 I I];have hs:(sizeOf (Tryz.prog.elem 23)).run Tryz.prog w= .ok 6 w:=Y40;rw [hs];simp only [Result.andThen,sliced];have e1:(1:Int).toNat=1:=rfl;rw [e1]
  by_cases e:c=1
  ·rw [if_pos e,if_pos e]
  ·rw [if_neg e,if_neg e];rfl
 ·by_cases e:c=1
  ·intro i hi;rw [List.length_drop] at hi;omega
  ·rw [if_neg e];exact hr.drop 1
theorem CT.deep {w0 ws w w':World} {P P1:Nat→Prop} {cb:Nat} {m:MK} {s:CSt} (h0:Turns (cP P) ws w) (h:CT w0 P1 w w' cb m s) (hP:∀k,P k→P1 k) (hl:∀k,k<w0.heap.size→P k):CT w0 P ws w' cb m s:=
 ⟨h.1.less hP hl,h0.trans (h.2.mono (fun k _ z q=>z (hP k q)))⟩
theorem jU {w0 ws w1 w:World} {P:Nat→Prop} {cb:Nat} {m:MK} {s:CSt} (h:CT w0 P ws w1 cb m s) (hb:Below w1.heap.size w1 w) (op:Int) (hf:s.code.length≤1000000):Calls Tryz.prog 83 #[.pointer (some ⟨cb,0,none⟩),.int .i64 op] w fun e w'=>∃P1 k1,e= .returned (sK k1)∧Clo w' k1 cb s.code.length op∧(∀k,P k→P1 k)∧(∀k,cloS k1 k→P1 k)∧CX w0 P1 w' cb m (aB s op 0 0)∧Turns (cP P) ws w':=by
 have h2:=h.below hb;refine (xM h2.1 op hf).mono ?_;rintro e w' ⟨he,_,hc,hx,ht⟩;exact ⟨_,_,he,hc,fun _ z=>.inl z,fun _ z=>.inr z,hx,h2.2.trans ht⟩
theorem jV {w0 ws w1 w:World} {P:Nat→Prop} {cb:Nat} {m:MK} {s:CSt} (h:CT w0 P ws w1 cb m s) (hb:Below w1.heap.size w1 w) {kb a:Nat} {op:Int} (hc:Clo w1 kb cb a op) (hS:∀k,cloS kb k→P k) (ha:a<s.code.length) (hf:s.code.length≤1000000):Calls Tryz.prog 102 #[.pointer (some ⟨kb,0,none⟩),.pointer (some ⟨kb+2,0,none⟩),.pointer (some ⟨kb+1,0,none⟩)] w fun e w'=>e= .returned (.tuple #[])∧CT w0 P ws w' cb m (toP s a op s.code.length):=by
 have h2:=h.below hb;refine (xN h2.1 (hc.turns (Turns.of_below hb) (fun k hk z=>z)) hS ha hf).mono ?_;rintro e w' ⟨he,hx⟩;exact ⟨he,h2.go hx⟩
def pH (f:Nat) (x:NodT) (s:CSt):CSt:=match eX x with
 | some (y,n)=>cD (aL f) y n x.kids s
 | none=>s
theorem xP (rec:NodT→CSt→CSt) (y n:Arm) {kids:List NodT} {k:NodT} {r:List NodT} (hk:kids=k :: r) (s:CSt) {s1 s2 s4:CSt} (h1:rec k s=s1) (h2:dM rec y kids (aB s1 17 0 0)=s2) (h4:dM rec n kids (toP (aB s2 16 0 0) s1.code.length 17 (aB s2 16 0 0).code.length)=s4):
  cD rec y n kids s=toP s4 s2.code.length 16 s4.code.length:=by
 have e:cD rec y n kids s=(let s1:=rec k s
  let s2:=dM rec y kids (aB s1 17 0 0)
  let s3:=aB s2 16 0 0
  let s4:=dM rec n kids (toP s3 s1.code.length 17 s3.code.length)
  toP s4 s2.code.length 16 s4.code.length):=by unfold cD;rw [hk]
 rw [e];dsimp only;rw [h1,h2,h4]
theorem sS (w:World) (c0 c1 c2 c3:Array Value) (t0 t1 t2 t3:TypeId):((((w.alloc (.cells c0 t0)).alloc (.cells c1 t1)).alloc (.cells c2 t2)).alloc (.cells c3 t3)).heap[w.heap.size]? =some (.cells c0 t0 (0,0))∧((((w.alloc (.cells c0 t0)).alloc (.cells c1 t1)).alloc (.cells c2 t2)).alloc (.cells c3 t3)).heap[w.heap.size+1]? =some (.cells c1 t1 (0,0))∧((((w.alloc (.cells c0 t0)).alloc (.cells c1 t1)).alloc (.cells c2 t2)).alloc (.cells c3 t3)).heap[w.heap.size+2]? =some (.cells c2 t2 (0,0))∧((((w.alloc (.cells c0 t0)).alloc (.cells c1 t1)).alloc (.cells c2 t2)).alloc (.cells c3 t3)).heap[w.heap.size+3]? =some (.cells c3 t3 (0,0)):=by
 have al:∀(W:World) (o:Obj) (k:Nat) (v:Obj),W.heap[k]? =some v→(W.alloc o).heap[k]? =some v:=fun W o k v h=>(ba |>.block _ (aA h)).trans h
 have n1:=heap_alloc_new (w.alloc (.cells c0 t0)) (.cells c1 t1);have n2:=heap_alloc_new ((w.alloc (.cells c0 t0)).alloc (.cells c1 t1)) (.cells c2 t2);have n3:=heap_alloc_new (((w.alloc (.cells c0 t0)).alloc (.cells c1 t1)).alloc (.cells c2 t2)) (.cells c3 t3);simp only [World.size_alloc] at n1 n2 n3;exact ⟨al _ _ _ _ (al _ _ _ _ (al _ _ _ _ (heap_alloc_new w _))),al _ _ _ _ (al _ _ _ _ n1),al _ _ _ _ n2,n3⟩
theorem arm_kid {x:NodT} {y n:Arm} (h:eX x=some (y,n)):(∀i,y= .kid i→∃hi:i<x.kids.length,dQ y x.kids=(x.kids[i]).size)∧(∀i,n= .kid i→∃hi:i<x.kids.length,dQ n x.kids=(x.kids[i]).size):=by
 obtain ⟨m,hb,hl,_⟩:=qN h;have hc:=oZ hb;have hh:∀(i:Nat) (hi:i<x.kids.length),dQ (.kid i) x.kids=(x.kids[i]).size:=fun i hi=>by unfold dQ;simp only [List.getElem?_eq_getElem hi]
 clear hb
 rcases hc with ⟨rfl,rfl,rfl⟩ | ⟨rfl,rfl,rfl⟩ | ⟨rfl,rfl,rfl⟩ | ⟨rfl,rfl,rfl⟩ | ⟨rfl,rfl,rfl⟩ | ⟨rfl,rfl,rfl⟩
 all_goals
  refine ⟨fun i e=>?_,fun i e=>?_⟩
  all_goals first
   | (cases e;exact ⟨by omega,hh _ I⟩)
   | (cases e;done)
theorem br_num {f:Nat} {x k:NodT} {r:List NodT} {y n:Arm} (h:eX x=some (y,n)) (hk:x.kids=k :: r) (hx:x.size≤f+1) {s s1 s2 s4:CSt} (hf:s.code.length+8*x.size≤1000000) (hl:s.lits.length+x.size≤100000) (h1:aL f k s=s1) (h2:dM (aL f) y x.kids (aB s1 17 0 0)=s2) (h4:dM (aL f) n x.kids (toP (aB s2 16 0 0) s1.code.length 17 (aB s2 16 0 0).code.length)=s4):
  (s1.code.length+1+8*dQ y x.kids≤1000000∧s1.lits.length+dQ y x.kids≤100000∧s1.code.length<s2.code.length+1)∧(s2.code.length+1+8*dQ n x.kids≤1000000∧s2.lits.length+dQ n x.kids≤100000∧s2.code.length<s4.code.length)∧s4.code.length≤1000000:=by
 have a0:=jF h hk;have a1:=x.size_kids;have a2:=k.size_pos;have g1:=dB f k s I;have g2:=lI (dB f) (kids:=x.kids) I y (aB s1 17 0 0);have g4:=lI (dB f) (kids:=x.kids) I n (toP (aB s2 16 0 0) s1.code.length 17 (aB s2 16 0 0).code.length);have t2:=kE (jG f) y x.kids (aB s1 17 0 0);have t4:=kE (jG f) n x.kids (toP (aB s2 16 0 0) s1.code.length 17 (aB s2 16 0 0).code.length);rw [h1] at g1;rw [h2] at g2 t2;rw [h4] at g4 t4;have b1:=g1.code;have b2:=g2.code;have b4:=g4.code;have c1:=g1.lits;have c2:=g2.lits;have d2:=t2.code;have d4:=t4.code;have e1:(aB s1 17 0 0).code.length=s1.code.length+1:=aM _ _ _ _;have e2:(toP (aB s2 16 0 0) s1.code.length 17 (aB s2 16 0 0).code.length).code.length=s2.code.length+1:=by simp [toP,aB]
 have e3:(aB s1 17 0 0).lits=s1.lits:=rfl;rw [e1] at b2 d2;rw [e2] at b4 d4;rw [e3] at c2;exact ⟨⟨by omega,by omega,by omega⟩,⟨by omega,by omega,by omega⟩,by omega⟩
theorem nS {w:World} {b:Nat} {v:Value} {t:TypeId} (h:w.heap[b]? =some (.cells #[v] t (0,0))):w.cell? ⟨b,0,none⟩=some v:=by simp [World.cell?,h]
theorem wO (cx xb kb:Nat) (o:Int):armV cx xb kb (.op o)= .func (.func 110) #[] #[.pointer (some ⟨cx,0,none⟩),.pointer (some ⟨kb,0,none⟩)]:=rfl
theorem sT (cx xb kb i:Nat):armV cx xb kb (.kid i)= .func (.func 108) #[] #[.pointer (some ⟨cx,0,none⟩),.pointer (some ⟨xb,0,none⟩),.pointer (some ⟨kb,0,none⟩)]:=rfl
theorem Z17 {P:Prop} (h:P:=by
 go_wp2_with (first | (go_at_call 107;(with_reducible refine (lM _ _ _ _).mono ?_);rintro e w5 ⟨rfl,hw5⟩;subst hw5) | (go_at_call 109;(with_reducible refine (iQ _ _ _).mono ?_);rintro e w5 ⟨rfl,hw5⟩;subst hw5));go_meet;exact ⟨_,_,_,HBO.out,rfl,rfl,rfl,rfl⟩):P:=h
theorem fX {f:Nat} (hv:VSpec f) {w0 w:World} {P:Nat→Prop} {cb:Nat} {m:MK} {s:CSt} (h:CX w0 P w cb m s) {x:NodT} {q:NS} (hn:IsNd w0 (fun _=>True) x q) (hx:x.size≤f+1) (hf:s.code.length+8*x.size≤1000000) (hl:s.lits.length+x.size≤100000) (h1:1≤x.kids.length):
  Calls Tryz.prog 97 #[.pointer (some ⟨cb,0,none⟩),ndV x q] w fun e w'=>e= .returned (.bool (eX x).isSome)∧CT w0 P w w' cb m (pH f x s):=by
 have HH:=J h;have HN:=J hn;have HV:=J hv;have HBD:Hid (x.size≤f+1∧s.code.length+8*x.size≤1000000∧s.lits.length+x.size≤100000∧1≤x.kids.length):=J ⟨hx,hf,hl,h1⟩;unfold ndV;clear h hn hv hx hf hl h1;go_enter Tryz.func97,Tryz.ntmps97
 go_upto_block 0 with fail
 go_cut [5,6,9] (fun v5 v6 v9 wx=>∃y n mm,fJ x.text=some (y,n,mm)∧v5=armV w.heap.size (w.heap.size+1) (w.heap.size+2) y∧v6=armV w.heap.size (w.heap.size+1) (w.heap.size+3) n∧v9= .int .i64 (mm:Int)∧wx=((((w.alloc (.cells #[.pointer (some ⟨cb,0,none⟩)] 77)).alloc (.cells #[.int .i64 x.kind,.string x.text,.int .i64 x.num,.slice q.pn x.names.length q.cn,.slice q.pt x.temps.length q.ct,.slice q.pk x.kids.length q.ck] 25)).alloc (.cells #[.int .i64 (xO y)] 3)).alloc (.cells #[.int .i64 (xO n)] 3)))
 case first=>
  cases q0:x.text.toList==[105,102,84,114,117,101,58] with
  | true=>
   have HBO:Hid (fJ x.text=some (.kid 1,.op 2,2)):=J (by unfold fJ;rw [if_pos (show x.text.toList=eH from beq_iff_eq.1 q0)]);exact Z17
  | false=>
   cases q1:x.text.toList==[105,102,70,97,108,115,101,58] with
   | true=>
    have HBO:Hid (fJ x.text=some (.op 2,.kid 1,2)):=J (by unfold fJ;rw [if_neg (show ¬x.text.toList=eH from aW q0),if_pos (show x.text.toList=dP from beq_iff_eq.1 q1)]);exact Z17
   | false=>
    cases q2:x.text.toList==[97,110,100,58] with
    | true=>
     have HBO:Hid (fJ x.text=some (.kid 1,.op 4,2)):=J (by unfold fJ;rw [if_neg (show ¬x.text.toList=eH from aW q0),if_neg (show ¬x.text.toList=dP from aW q1),if_pos (show x.text.toList=uI from beq_iff_eq.1 q2)]);exact Z17
    | false=>
     cases q3:x.text.toList==[111,114,58] with
     | true=>
      have HBO:Hid (fJ x.text=some (.op 3,.kid 1,2)):=J (by unfold fJ;rw [if_neg (show ¬x.text.toList=eH from aW q0),if_neg (show ¬x.text.toList=dP from aW q1),if_neg (show ¬x.text.toList=uI from aW q2),if_pos (show x.text.toList=bOr from beq_iff_eq.1 q3)]);exact Z17
     | false=>
      cases q4:x.text.toList==[105,102,84,114,117,101,58,105,102,70,97,108,115,101,58] with
      | true=>
       have HBO:Hid (fJ x.text=some (.kid 1,.kid 2,3)):=J (by unfold fJ;rw [if_neg (show ¬x.text.toList=eH from aW q0),if_neg (show ¬x.text.toList=dP from aW q1),if_neg (show ¬x.text.toList=uI from aW q2),if_neg (show ¬x.text.toList=bOr from aW q3),if_pos (show x.text.toList=eH++dP from beq_iff_eq.1 q4)]);exact Z17
      | false=>
       cases q5:x.text.toList==[105,102,70,97,108,115,101,58,105,102,84,114,117,101,58] with
       | true=>
        have HBO:Hid (fJ x.text=some (.kid 2,.kid 1,3)):=J (by unfold fJ;rw [if_neg (show ¬x.text.toList=eH from aW q0),if_neg (show ¬x.text.toList=dP from aW q1),if_neg (show ¬x.text.toList=uI from aW q2),if_neg (show ¬x.text.toList=bOr from aW q3),if_neg (show ¬x.text.toList=eH++dP from aW q4),if_pos (show x.text.toList=dP++eH from beq_iff_eq.1 q5)]);exact Z17
       | false=>
        have HBR:Hid (eX x=none):=J (by unfold eX;rw [show fJ x.text=none from by unfold fJ;rw [if_neg (show ¬x.text.toList=eH from aW q0),if_neg (show ¬x.text.toList=dP from aW q1),if_neg (show ¬x.text.toList=uI from aW q2),if_neg (show ¬x.text.toList=bOr from aW q3),if_neg (show ¬x.text.toList=eH++dP from aW q4),if_neg (show ¬x.text.toList=dP++eH from aW q5)]]);go_wp2_with fail;go_ret;rw [show pH f x s=s from by unfold pH;rw [HBR.out],HBR.out];exact ⟨rfl,HH.out.ct.below bel⟩
 case rest=>
  obtain ⟨y,n,mm,hbo,rfl,rfl,rfl,hwx⟩:=hcut;have HBO:=J hbo;have hbe:Below w.heap.size w wc:=by rw [hwx];(repeat' first | (with_reducible first | exact bl0 _ _ | assumption | apply bl1 | apply bl2 | apply bl3 | apply bl4) | go_size)
  have h4:=sS w #[.pointer (some ⟨cb,0,none⟩)] (#[.int .i64 x.kind,.string x.text,.int .i64 x.num,.slice q.pn x.names.length q.cn,.slice q.pt x.temps.length q.ct,.slice q.pk x.kids.length q.ck]) #[.int .i64 (xO y)] #[.int .i64 (xO n)] 77 25 3 3;rw [←hwx] at h4;have hsz:wc.heap.size=w.heap.size+4:=by rw [hwx];simp only [World.size_alloc]
  have hk:=HH.out.keep hbe;obtain ⟨Pk,hPk⟩:∃Pk:Nat→Prop,(fun k=>P k∨(w.heap.size≤k∧k<wc.heap.size))=Pk:=⟨_,rfl⟩;rw [hPk] at hk;have hPn:∀j,j<4→Pk (w.heap.size+j):=fun j hj=>by rw [←hPk];exact .inr ⟨by omega,by omega⟩
  have HSUB:Hid (∀k,P k→Pk k):=J (fun k z=>by rw [←hPk];exact .inl z);have HX:=J hk.ct;have HTS:Hid (Turns (cP P) w wc):=J (Turns.of_below hbe);have HAY:Hid (ArmS wc Pk cb w.heap.size (w.heap.size+1) (w.heap.size+2) x q (xO y)):=J ⟨h4.1,h4.2.1,h4.2.2.1,hPn 0 I,hPn 1 I,hPn 2 I⟩;have HAN:Hid (ArmS wc Pk cb w.heap.size (w.heap.size+1) (w.heap.size+3) x q (xO n)):=J ⟨h4.1,h4.2.1,h4.2.2.2,hPn 0 I,hPn 1 I,hPn 3 I⟩;have x0:=HAY.out.bc;have e0:wc.cell? ⟨w.heap.size,0,none⟩=some (.pointer (some ⟨cb,0,none⟩)):=Y154;clear x0;have x2:=bZ HAY.out.bx;have e2:wc.cell? ⟨w.heap.size+1,5,none⟩=some (.slice q.pk x.kids.length q.ck):=x2.c5;clear x2;obtain ⟨nk,hnk⟩:=aE x.kids.length;have HNK:=J hnk;have hckl:=HN.out.ok.klen;have hle:nk≤9223372036854775807:=by have h9:=hckl.2;unfold maxLen at h9;omega
  have h1n:1≤nk:=Y127;obtain ⟨ps1,cs1,hsl,hrs⟩:=lN (c:=q.ck) HN.out.rows hnk h1n (by have h9:=hckl.1;omega);have hco:∀W,Below wc.heap.size wc W→Calls Tryz.prog 111 #[.slice ps1 (nk-1) cs1,.func (.func 112) #[] #[]] W fun e w'=>e= .returned (.bool (!((x.kids.drop 1).all bU)))∧Below W.heap.size W w':=fun W hW=>pG hrs (HX.out.1.stat.trans (hW.mono HX.out.1.stat.size)) (by rw [List.length_drop,hnk]) I
  obtain ⟨al,hal⟩:=aE ((x.kids.drop 1).all bU);rw [hal] at hco;have HCO:=J hco;have HAL:=J hal;rw [hnk] at e2 ⊢;clear hbo hwx hbe h4 hk hPk hPn hnk hckl hrs hco hal hsz
  by_cases hm:nk=mm
  ·have z1:(nk==mm)=true:=Y103;clear z1;subst hm
   cases al with
   | false=>
    have HBR:Hid (eX x=none):=J (by unfold eX;rw [HBO.out];simp only [HAL.out];rw [if_neg (fun z=>by cases z.2)]);go_wp2_with (first | (go_at_call 111;(with_reducible refine (HCO.out _ bel).mono ?_);rintro e w3 ⟨rfl,hb3⟩;have HX3:=J ((HX.out.below (bz wc)).below hb3);have HB3:=J ((bz wc).trans (hb3.mono Y86));clear hb3));go_ret;rw [show pH f x s=s from by unfold pH;rw [HBR.out],HBR.out];exact ⟨rfl,CT.deep HTS.out HX3.out HSUB.out HH.out.low⟩
   | true=>
    have HBR:Hid (eX x=some (y,n)):=J (by unfold eX;rw [HBO.out];show (if x.kids.length=nk∧(x.kids.drop 1).all bU=true then some (y,n) else none)=_;rw [if_pos ⟨HNK.out,HAL.out⟩]);obtain ⟨kd,rr,hkr⟩:∃k r,x.kids=k :: r:=by
     cases hk9:x.kids with
     | nil=>rw [hk9] at HNK;have h9:=HNK.out;simp at h9;omega
     | cons k r=>exact ⟨k,r,rfl⟩
    obtain ⟨b,off,q',hpk,hbl,_,hc6,hkn⟩:=HN.out.kid (i:=0) Y127;rw [show x.kids[0]'Y127=kd from by simp [hkr],Nat.zero_mul,Nat.add_zero] at hc6;rw [show x.kids[0]'Y127=kd from by simp [hkr]] at hkn;have hgz:kd.size<x.size:=NodT.size_kid (by rw [hkr];exact List.mem_cons_self);have HPK:=J hpk;have HC6:=J hc6;have HBL:=J hbl;obtain ⟨s1,h1⟩:=aE (aL f kd s);obtain ⟨s2,h2⟩:=aE (dM (aL f) y x.kids (aB s1 17 0 0));obtain ⟨s4,h4⟩:∃s4,dM (aL f) n x.kids (toP (aB s2 16 0 0) s1.code.length 17 (aB s2 16 0 0).code.length)=s4:=⟨_,rfl⟩;have hnum:=br_num HBR.out hkr HBD.out.1 HBD.out.2.1 HBD.out.2.2.1 h1 h2 h4;have hbq:pH f x s=toP s4 s2.code.length 16 s4.code.length:=by unfold pH;rw [HBR.out];exact xP _ _ _ hkr s h1 h2 h4
    have hva:∀{ws w1 W:World},CT w0 Pk ws w1 cb m s→Below w1.heap.size w1 W→Calls Tryz.prog 55 #[.pointer (some ⟨cb,0,none⟩),ndV kd q'] W fun e w'=>e= .returned (.tuple #[])∧CT w0 Pk ws w' cb m s1:=fun hc hb=>by
     rw [←h1];exact HV.out.at_ (by have h9:=HBD.out.1;omega) hc hb hkn (by have h9:=HBD.out.2.1;omega) (by have h9:=HBD.out.2.2.1;omega)
    unfold ndV at hva;have HVA:Hid (∀{ws w1 W:World},CT w0 Pk ws w1 cb m s→Below w1.heap.size w1 W→_):=J hva;have HNU:=J hnum;have HBQ:=J hbq;have HS2:=J h2;have HS4:=J h4;have HAK:=J (arm_kid HBR.out);have HF1:Hid (s1.code.length≤1000000):=J (by have h9:=hnum.1.1;omega);have HF2:Hid (s2.code.length≤1000000):=J (by have h9:=hnum.2.1.1;omega);have hbw:b<wc.heap.size:=aN hbl HX.out.1.stat.size;have hd6:=HC6.out.same (HX.out.1.stat.block b hbl);have d0:=hd6.c0;have d1:=hd6.c1;have d2:=hd6.c2;have d3:=hd6.c3;have d4:=hd6.c4;have d5:=hd6.c5;clear hd6;rw [hpk] at e2 hsl ⊢;have g1:(0:Int)<(nk:Int):=I;have g2:0<nk:=I;clear hva hnum hbq h1 h2 h4 hgz hkr hpk hc6 hbl hkn
    go_upto_region 21 with (first | (go_at_call 111;(with_reducible refine (HCO.out _ bel).mono ?_);rintro e w3 ⟨rfl,hb3⟩;have HX3:=J ((HX.out.below (bz wc)).below hb3);have HB3:=J ((bz wc).trans (hb3.mono Y86));clear hb3))
    have e0':w3.cell? ⟨w.heap.size,0,none⟩=some (.pointer (some ⟨cb,0,none⟩)):=nS (HAY.out.turns (Turns.of_below HB3.out)).bc;have e2':w3.cell? ⟨w.heap.size+1,5,none⟩=some (.slice (some ⟨b,off,none⟩) nk q.ck):=by
     have h9:=(bZ (HAY.out.turns (Turns.of_below HB3.out)).bx).c5;rw [HNK.out,HPK.out] at h9;exact h9
    have hbw3:b<w3.heap.size:=aN hbw HB3.out.size;clear e0 e2 d0 d1 d2 d3 d4 d5;have hd6:=HC6.out.same (HX3.out.1.stat.block b HBL.out);have d0:=hd6.c0;have d1:=hd6.c1;have d2:=hd6.c2;have d3:=hd6.c3;have d4:=hd6.c4;have d5:=hd6.c5;clear hd6
    go_region_held3 (fun w'=>w'.cell? ⟨w.heap.size,0,none⟩=some (.pointer (some ⟨cb,0,none⟩))∧w'.cell? ⟨w.heap.size+1,5,none⟩=some (.slice (some ⟨b,off,none⟩) nk q.ck)∧w'.cell? ⟨b,off,none⟩=some (.int .i64 kd.kind)∧w'.cell? ⟨b,off+1,none⟩=some (.string kd.text)∧w'.cell? ⟨b,off+2,none⟩=some (.int .i64 kd.num)∧w'.cell? ⟨b,off+3,none⟩=some (.slice q'.pn kd.names.length q'.cn)∧w'.cell? ⟨b,off+4,none⟩=some (.slice q'.pt kd.temps.length q'.ct)∧w'.cell? ⟨b,off+5,none⟩=some (.slice q'.pk kd.kids.length q'.ck)) (first | assumption | (simp [go_sem];done) | (simp [go_sem, *];done)) (first | (go_at_call 55;(with_reducible refine (HVA.out HX3.out bel).mono ?_);rintro e w5 ⟨rfl,hx3⟩;have HX5:=J hx3;have hs5:=HAY.out.turns hx3.2;have x0:=hs5.bc;have e0:w5.cell? ⟨w.heap.size,0,none⟩=some (.pointer (some ⟨cb,0,none⟩)):=Y154;clear x0;have x2:=bZ hs5.bx;have e2:w5.cell? ⟨w.heap.size+1,5,none⟩=some (.slice q.pk x.kids.length q.ck):=x2.c5;clear x2;rw [HNK.out,HPK.out] at e2;have hd6:=HC6.out.same (hx3.1.stat.block b HBL.out);have d0:=hd6.c0;have d1:=hd6.c1;have d2:=hd6.c2;have d3:=hd6.c3;have d4:=hd6.c4;have d5:=hd6.c5;clear hd6;clear hx3 hs5))
    go_upto_region 23 with (first | (go_at_call 83;(with_reducible refine (jU HX5.out bel 17 HF1.out).mono ?_);rintro e w6 ⟨P1,k1,rfl,hcl,hp1,hq1,hx6,ht6⟩;have HCL:=J hcl;have HP1:=J hp1;have HQ1:=J hq1;have HX6:=J hx6;have HT6:=J ht6;unfold sK;clear hcl hp1 hq1 hx6 ht6))
    have HAY6:=J ((HAY.out.turns HT6.out).more HP1.out);have HAN6:=J ((HAN.out.turns HT6.out).more HP1.out);clear e0' e2' d0 d1 d2 d3 d4 d5 hbw3
    go_cut [5] (fun v5 wx=>CT w0 P1 w6 wx cb m s2)
    case first=>
     have HXA:=J HX6.out.ct;have HAA:=HAY6;have HSZ:Hid ((aB s1 17 0 0).code.length+8*dQ y x.kids≤1000000∧(aB s1 17 0 0).lits.length+dQ y x.kids≤100000):=J (by have h9:=HNU.out.1;rw [aM,cC];exact ⟨h9.1,h9.2.1⟩);have HAKY:Hid (∀i,y= .kid i→∃hi:i<x.kids.length,dQ y x.kids=(x.kids[i]).size):=J HAK.out.1
     cases y with
     | op o=>
      rw [wO];have HFA:Hid ((aB s1 17 0 0).code.length≤1000000):=J (by have h3:=HSZ.out.1;omega);have AE0:=J ((nS HAA.out.bc));have AE1:=J ((nS HAA.out.bk));go_wp2_with (first | (go_at_call 110;(with_reducible refine (qR (s:=aB s1 17 0 0) HXA.out.1 AE0.out AE1.out HFA.out).mono ?_);rintro e w7 ⟨rfl,HXB⟩;replace HXB:=J HXB));go_meet;rw [←HS2.out];exact HXA.out.go HXB.out
     | kid i=>
      rw [sT];obtain ⟨hi,heq⟩:=HAKY.out i rfl;have HEQ:=J heq;clear heq;go_wp2_with (first | (go_at_call 108;(with_reducible refine (pE HV.out (s:=aB s1 17 0 0) HXA.out.1 HN.out HAA.out hi Y112 (by have h3:=HSZ.out.1;have h4:=HEQ.out;omega) (by have h3:=HSZ.out.2;have h4:=HEQ.out;omega)).mono ?_);rintro e w7 ⟨rfl,HXB⟩;replace HXB:=J HXB));go_meet;rw [←HS2.out,show dM (aL f) (.kid i) x.kids (aB s1 17 0 0)=cN (aL f) x.kids[i] (aB s1 17 0 0) from by unfold dM;simp only [List.getElem?_eq_getElem hi]];exact HXA.out.go HXB.out
    case rest=>
     have HX7:=J hcut;have e0:=nS (HAY6.out.turns hcut.2).bc;clear hcut;have HF3:Hid ((aB s2 16 0 0).code.length≤1000000):=J (by have h9:=HNU.out.2.1.1;rw [aM];omega);have HA1:Hid (s1.code.length<(aB s2 16 0 0).code.length):=J (by have h9:=HNU.out.1.2.2;rw [aM];omega);have HA2:Hid (s2.code.length<s4.code.length):=J HNU.out.2.1.2.2;have HF4:Hid (s4.code.length≤1000000):=J HNU.out.2.2
     go_upto_region 26 with (first | (go_at_call 83;(with_reducible refine (jU HX7.out bel 16 HF2.out).mono ?_);rintro e w8 ⟨P2,k2,rfl,hcl,hp2,hq2,hx8,ht8⟩;have HCL2:=J hcl;have HP2:=J hp2;have HQ2:=J hq2;have HX8:=J hx8;have HT8:=J ht8;have HCL1:=J (HCL.out.turns ht8 (fun k hk z=>z (HQ1.out k hk)));unfold sK;clear hcl hp2 hq2 hx8 ht8) | (go_at_call 102;(with_reducible refine (jV HX8.out.ct bel HCL1.out (fun k hk=>HP2.out k (HQ1.out k hk)) HA1.out HF3.out).mono ?_);rintro e w9 ⟨rfl,HX9⟩;replace HX9:=J HX9))
     have HAA:=J (((HAN6.out.turns HT8.out).more HP2.out).turns HX9.out.2)
     go_cut [6] (fun v6 wx=>CT w0 P2 w8 wx cb m s4)
     case first=>
      have HXA:=HX9;have HSZ:Hid ((toP (aB s2 16 0 0) s1.code.length 17 (aB s2 16 0 0).code.length).code.length+8*dQ n x.kids≤1000000∧(toP (aB s2 16 0 0) s1.code.length 17 (aB s2 16 0 0).code.length).lits.length+dQ n x.kids≤100000):=J (by
       have h9:=HNU.out.2.1;have e9:(toP (aB s2 16 0 0) s1.code.length 17 (aB s2 16 0 0).code.length).code.length=s2.code.length+1:=by simp [toP,aB]
       rw [e9];exact ⟨h9.1,h9.2.1⟩)
      have HAKN:Hid (∀i,n= .kid i→∃hi:i<x.kids.length,dQ n x.kids=(x.kids[i]).size):=J HAK.out.2
      cases n with
      | op o=>
       rw [wO];have HFA:Hid ((toP (aB s2 16 0 0) s1.code.length 17 (aB s2 16 0 0).code.length).code.length≤1000000):=J (by have h3:=HSZ.out.1;omega);have AE0:=J ((nS HAA.out.bc));have AE1:=J ((nS HAA.out.bk));go_wp2_with (first | (go_at_call 110;(with_reducible refine (qR (s:=toP (aB s2 16 0 0) s1.code.length 17 (aB s2 16 0 0).code.length) HXA.out.1 AE0.out AE1.out HFA.out).mono ?_);rintro e w7 ⟨rfl,HXB⟩;replace HXB:=J HXB));go_meet;rw [←HS4.out];exact HXA.out.go HXB.out
      | kid i=>
       rw [sT];obtain ⟨hi,heq⟩:=HAKN.out i rfl;have HEQ:=J heq;clear heq;go_wp2_with (first | (go_at_call 108;(with_reducible refine (pE HV.out (s:=toP (aB s2 16 0 0) s1.code.length 17 (aB s2 16 0 0).code.length) HXA.out.1 HN.out HAA.out hi Y112 (by have h3:=HSZ.out.1;have h4:=HEQ.out;omega) (by have h3:=HSZ.out.2;have h4:=HEQ.out;omega)).mono ?_);rintro e w7 ⟨rfl,HXB⟩;replace HXB:=J HXB));go_meet;rw [←HS4.out,show dM (aL f) (.kid i) x.kids (toP (aB s2 16 0 0) s1.code.length 17 (aB s2 16 0 0).code.length)=cN (aL f) x.kids[i] (toP (aB s2 16 0 0) s1.code.length 17 (aB s2 16 0 0).code.length) from by unfold dM;simp only [List.getElem?_eq_getElem hi]];exact HXA.out.go HXB.out
     case rest=>
      have HX10:=J hcut;have HCL3:=J (HCL2.out.turns hcut.2 (fun k hk z=>z (HQ2.out k hk)));clear hcut;go_wp2_with (first | (go_at_call 102;(with_reducible refine (jV HX10.out bel HCL3.out HQ2.out HA2.out HF4.out).mono ?_);rintro e w11 ⟨rfl,HX11⟩;replace HX11:=J HX11));go_ret;rw [HBR.out,HBQ.out];exact ⟨rfl,CT.deep ((HTS.out.trans (HT6.out.mono (fun k _ z q=>z (HSUB.out k q)))).trans (HT8.out.mono (fun k _ z q=>z (HP1.out k (HSUB.out k q))))) HX11.out (fun k q=>HP2.out k (HP1.out k (HSUB.out k q))) HH.out.low⟩
  ·have z1:(nk==mm)=false:=Y103;have z2:((nk:Int)==(mm:Int))=false:=Y4;have z3:¬((nk:Int)=(mm:Int)):=I;have HBR:Hid (eX x=none):=J (by unfold eX;rw [HBO.out];simp only [HNK.out];rw [if_neg (fun z=>hm z.1)]);clear hm;go_wp2_with fail;go_ret;rw [show pH f x s=s from by unfold pH;rw [HBR.out],HBR.out];exact ⟨rfl,CT.deep HTS.out (HX.out.below bel) HSUB.out HH.out.low⟩
end Go.Proofs.YtnojndgmgkgnpaaGreat
