/- Chapter 10: words and contracts for the law. -/
import Derived.Test.YtnojndgmgkgnpaaGreatQ22
import Derived.Test.YtnojndgmgkgnpaaGreatQ10
import Derived.Deep.RegionLaw
set_option maxRecDepth 100000
set_option maxHeartbeats 40000000
set_option linter.unusedVariables false
set_option linter.unusedSimpArgs false
namespace Go.Proofs.YtnojndgmgkgnpaaGreat.Rf
open Go.ChangeShapes Go.WideShapes Go.ChangeAt Go.RowKit Go.Deep Go.Joins Go.Maps
theorem mW {w0 w:World} {P:Nat→Prop} {cb:Nat} {m:MK} {s:CSt} {lv cv nv:Value} {D:Nat→Prop} {ps:List LP} (h:CY w0 P w cb m s lv cv nv D ps) (name:ByteArray) (hn:name.size≤bL) (x:Int):Calls Tryz.prog 35 #[.pointer (some ⟨cb,0,none⟩),.string name,.int .i64 x] w fun e w'=>e= .returned (.tuple #[])∧CY w0 P w' cb m (aG s name x) lv cv nv D ps∧Turns (fun k=>k=cb) w w':=by
 have k7:w.cell? ⟨cb,7,none⟩=some (.int .i64 s.err):=by rw [h.cell];rfl
 have k8:w.cell? ⟨cb,8,none⟩=some (.string s.ename):=by rw [h.cell];rfl
 have f7:=h.free 7;have f8:=h.free 8;have HY:=J h;clear h
 by_cases he:s.err=0
 ·have HE:=J he;rw [he] at k7;clear he;go_enter Tryz.func35,Tryz.ntmps35;go_wp2_with fail;go_returns;refine ⟨rfl,?_,((Turns.refl (fun k=>k=cb) w).setCell _ _ (.inl rfl)).setCell _ _ (.inl rfl)⟩;have h1:CY w0 P (w.setCell ⟨cb,7,none⟩ (.int .i64 x)) cb m {s with err:=x} lv cv nv D ps:=HY.out.store (s':={s with err:=x}) 7 _ rfl rfl rfl HY.out.names HY.out.nok HY.out.enm;have h2:CY w0 P ((w.setCell ⟨cb,7,none⟩ (.int .i64 x)).setCell ⟨cb,8,none⟩ (.string name)) cb m {s with ename:=name,err:=x} lv cv nv D ps:=h1.store (s':={s with ename:=name,err:=x}) 8 _ rfl rfl rfl h1.names h1.nok hn;unfold aG;rw [if_pos HE.out];exact h2
 ·have HE:=J he;have e1:(s.err==0)=false:=Y20;clear he;go_enter Tryz.func35,Tryz.ntmps35;go_wp2_with fail;go_returns;refine ⟨rfl,?_,Turns.refl _ _⟩;unfold aG;rw [if_neg HE.out];exact HY.out
theorem eP {w0 w:World} {P:Nat→Prop} {cb:Nat} {m:MK} {s:CSt} (h:CX w0 P w cb m s) (name:ByteArray) (hn:name.size≤bL) (x:Int):Calls Tryz.prog 35 #[.pointer (some ⟨cb,0,none⟩),.string name,.int .i64 x] w fun e w'=>e= .returned (.tuple #[])∧CT w0 P w w' cb m (aG s name x):=by
 obtain ⟨lv,cv,nv,D,ps,hy,hfw⟩:=h;refine (mW hy name hn x).mono ?_;rintro e w' ⟨he,hc,ht⟩;exact ⟨he,⟨lv,cv,nv,D,ps,hc,by rw [show (aG s name x).temps=s.temps by unfold aG;split <;> rfl,show (aG s name x).names=s.names by unfold aG;split <;> rfl];exact hfw⟩,outOf ht hy.cbP⟩
theorem put_any {w0 w:World} {P:Nat→Prop} {cb:Nat} {m:MK} {s:CSt} (h:CX w0 P w cb m s) (op a b:Int) (hf:s.code.length≤1000000):Calls Tryz.prog 19 #[.pointer (some ⟨cb,0,none⟩),.int .i64 op,.int .i64 a,.int .i64 b] w fun e w'=>e= .returned (.tuple #[])∧CT w0 P w w' cb m (aB s op a b):=by
 obtain ⟨lv,cv,nv,D,ps,hy,hfw⟩:=h;obtain ⟨i0,hi,hz0,hz1,hz2⟩:=cQ infoI;have hb1:Below w.heap.size w (w.alloc (.cells #[.int .i64 op,.int .i64 a,.int .i64 b] 42)):=ba;have HYA:=J (hy.below hb1);obtain ⟨A,c,hcv,hle,hmx⟩:=aX hy.code;subst hcv;obtain ⟨n,hn⟩:=aE s.code.length;have HN:=J hn;have k5:w.cell? ⟨cb,5,none⟩=some (.slice A n c):=by rw [hy.cell,←hn];rfl
 have HG:Hid ((w.alloc (.cells #[.int .i64 op,.int .i64 a,.int .i64 b] 42)).heap[w.heap.size]? =some (.cells #[.int .i64 op,.int .i64 a,.int .i64 b] 42 (0,0))):=J (heap_alloc_new w _);have HO:Hid ((w.alloc (.cells #[.int .i64 op,.int .i64 a,.int .i64 b] 42)).ownsRow 0 42 3 (.slice A n c) n (s.code.flatMap gF)):=J (by rw [←hn];exact HYA.out.code);rw [hn] at hf;clear hy hn hb1;go_enter Tryz.func19,Tryz.ntmps19;go_wp2_with (at_builtin;refine wpList_append_own_at _ rfl _ _ 30 rfl 0 42 i0 (.agg #[.int .i64 0,.int .i64 0,.int .i64 0]) 3 24 Tryz.underlying30 hi hz0 hz1 hz2 rfl Y3 _ _ _ rfl HO.out ⟨w.heap.size,0,none⟩ 1 1 [.int .i64 op,.int .i64 a,.int .i64 b] rfl rfl (cY HG.out) Y89 Y24 I (Nat.zero_le _) ?_;intro v5 w5 hown hg _ hat;have hpu:=HYA.out.push (w':=w5) (cv':=v5) ⟨op,a,b⟩ (by rw [HN.out];exact hown) (by rw [HN.out];exact hg) (by rw [HN.out];exact hat);obtain ⟨A5,c5,hv5,_⟩:=aX hown;subst hv5;have q5:w5.cell? ⟨cb,5,none⟩=some (.slice A n c):=(by rw [←HN.out];simp [World.cell?,hpu.1,fR]);have r5:w5.frozen? ⟨cb,5,none⟩=false:=(by simp [World.frozen?,hpu.1]);have HPU:=J hpu.2;clear hpu hown hg hat);go_returns;exact ⟨rfl,⟨_,_,_,_,_,HPU.out.1,hfw⟩,(Turns.of_below (ba)).trans (HPU.out.2.mono (fun _ _ z=>z))⟩
theorem set2 (l:List Ins) (a:Nat) (x y:Int) (h:a<l.length):(l.set a ⟨l[a].op,x,y⟩).flatMap gF=((l.flatMap gF).set (a*3+1) (.int .i64 x)).set (a*3+2) (.int .i64 y):=by
 have e:(l.flatMap gF).set (a*3) (.int .i64 l[a].op)=l.flatMap gF:=by
  have h1:=eY jQ l a 0 h I;rw [Nat.add_zero] at h1;obtain ⟨h2,h3⟩:=List.getElem?_eq_some_iff.1 (h1.trans (rfl:(gF l[a])[0]? =some (.int .i64 l[a].op)));rw [←h3,List.set_getElem_self]
 rw [set3 l a ⟨l[a].op,x,y⟩ h];dsimp only;rw [e]
theorem CY.lead {w0 w:World} {P:Nat→Prop} {cb:Nat} {m:MK} {s:CSt} {lv cv nv:Value} {D:Nat→Prop} {ps:List LP} {g n c a:Nat} (h:CY w0 P w cb m s lv (.slice (some ⟨g,0,none⟩) n c) nv D ps) (hn:s.code.length=n) (ha:a<n) (t:Nat) (ha':a<s.code.length):
  CY w0 P ((w.setCell ⟨g,a*3+1,none⟩ (.int .i64 ((t % 256:Nat):Int))).setCell ⟨g,a*3+2,none⟩ (.int .i64 ((t / 256:Nat):Int))) cb m (toP s a s.code[a].op t) lv (.slice (some ⟨g,0,none⟩) n c) nv D ps∧Turns (cP P) w ((w.setCell ⟨g,a*3+1,none⟩ (.int .i64 ((t % 256:Nat):Int))).setCell ⟨g,a*3+2,none⟩ (.int .i64 ((t / 256:Nat):Int))):=by
 have ht:Turns (fun k=>k=g) w ((w.setCell ⟨g,a*3+1,none⟩ (.int .i64 ((t % 256:Nat):Int))).setCell ⟨g,a*3+2,none⟩ (.int .i64 ((t / 256:Nat):Int))):=((Turns.refl (fun k=>k=g) w).setCell ⟨g,a*3+1,none⟩ _ (.inl rfl)).setCell ⟨g,a*3+2,none⟩ _ (.inl rfl);have hown:=h.code;rw [hn] at hown;have h3:=cJ (cJ hown (.int .i64 ((t % 256:Nat):Int)) (j:=a*3+1) I) (.int .i64 ((t / 256:Nat):Int)) (j:=a*3+2) I;rw [←set2 s.code a _ _ ha'] at h3;obtain ⟨n1,n2,n3,n4⟩:=h.ne;have hgP:=h.cvP g rfl;have hg:=n2 g rfl;refine ⟨⟨(ht.block cb (aA h.box) (fun e=>hg.1 e.symm)).trans h.box,h.lits.same ht.size (fun k hk=>ht.block k (World.ownsRow.lt h.lits.own k hk).2 (fun e=>(n1 k hk).2.1 Y1)) (fun b hb hl=>ht.block b hl (fun e=>hg.2.1 (e▸hb))) (fun _ z=>z),h.lps,?_,aJ h.names ht.size (fun k hk=>ht.block k (World.ownsRow.lt h.names k hk).2 (fun e=>hg.2.2 (e▸hk))),h.nok,h.cbP,h.lvP,h.cvP,fun k hk=>?_,iT h ht (fun k e=>by rw [e];exact hgP),h.low,fun k hk=>aN (h.lim k hk) ht.size,h.enm⟩,ht.mono (fun k _ e=>by rw [e];exact hgP)⟩
 ·show World.ownsRow _ 0 42 3 _ (s.code.set a _).length _
  rw [List.length_set,hn];exact h3
 ·obtain ⟨cur,hc⟩:=h.dty k hk;exact ⟨cur,(ht.block k (aA hc) (fun e=>hg.2.1 (e▸hk))).trans hc⟩
theorem lead_any {w0 w:World} {P:Nat→Prop} {cb:Nat} {m:MK} {s:CSt} (h:CX w0 P w cb m s) (a:Nat) (ha:a<s.code.length) (t:Nat) (ht:t≤1000000) (hf:s.code.length≤1000000):Calls Tryz.prog 45 #[.pointer (some ⟨cb,0,none⟩),.int .i64 (a:Int),.int .i64 (t:Int)] w fun e w'=>e= .returned (.tuple #[])∧CT w0 P w w' cb m (toP s a s.code[a].op t):=by
 obtain ⟨lv,cv,nv,D,ps,hy,hfw⟩:=h;obtain ⟨n,hn⟩:=aE s.code.length;have HN:=J hn;have HA:=J ha;obtain ⟨g,c,hcv⟩:∃g c,cv= .slice (some ⟨g,0,none⟩) n c:=by
  rcases hy.code.2 with ⟨_,h0⟩ | ⟨g,cap,cur,hv,_⟩
  ·omega
  ·exact ⟨g,cap,by rw [hv,hn]⟩
 subst hcv;have own:=hy.code;rw [hn] at own hf;have han:a<n:=I;have hcl:∀j,j<3→w.cell? ⟨g,a*3+j,none⟩=(gF s.code[a])[j]? :=fun j hj=>by
  rw [World.ownsRow.cellAt own (a*3+j) I];exact eY jQ s.code a j I hj
 have z1:w.cell? ⟨g,a*3+1,none⟩=some (.int .i64 s.code[a].a):=hcl 1 I;have z2:w.cell? ⟨g,a*3+2,none⟩=some (.int .i64 s.code[a].b):=hcl 2 I;obtain ⟨curg,hcg⟩:=bN own (v:=.slice (some ⟨g,0,none⟩) n c) rfl;have f1:w.frozen? ⟨g,a*3+1,none⟩=false:=Y119;have f2:w.frozen? ⟨g,a*3+2,none⟩=false:=Y119;have hgc:g≠cb:=(hy.ne.2.1 g rfl).1;have hcg2:¬cb=g:=fun e=>hgc e.symm
 have k5:w.cell? ⟨cb,5,none⟩=some (.slice (some ⟨g,0,none⟩) n c):=Y15;have hr:(t:Int).tmod 256=((t % 256:Nat):Int):=by rw [Int.tmod_eq_emod_of_nonneg I];omega
 have hq:(t:Int).tdiv 256=((t / 256:Nat):Int):=by rw [Int.tdiv_eq_ediv_of_nonneg I];omega
 have g0:(0:Int)≤(a:Int):=I;have g1:(a:Int)<(n:Int):=I;have HY:=J hy;have HFW:=J hfw;obtain ⟨y1,hy1⟩:=aE (s.code[a].a);obtain ⟨y2,hy2⟩:=aE (s.code[a].b);obtain ⟨t1,ht1⟩:∃y:Int,((t % 256:Nat):Int)=y:=⟨_,rfl⟩;obtain ⟨t2,ht2⟩:∃y:Int,((t / 256:Nat):Int)=y:=⟨_,rfl⟩;rw [hy1] at z1;rw [hy2] at z2;rw [ht1] at hr;rw [ht2] at hq;have hw2:wrap64 t2=t2:=by rw [←ht2];unfold wrap64;omega
 have HT1:=J ht1;have HT2:=J ht2;clear hy hfw own hcl hcg hn hy1 hy2 ht1 ht2;go_enter Tryz.func45,Tryz.ntmps45;go_wp2_with fail;go_returns;have hp:=CY.lead (cv:=.slice none 0 0) HY.out HN.out han t HA.out;rw [HT1.out,HT2.out] at hp;exact ⟨rfl,⟨_,_,_,_,_,hp.1,HFW.out⟩,hp.2⟩
def gR:Option Nm→Value
 | some k=>.agg #[.string k.name,.int .i64 k.kind,.int .i64 k.at_]
 | none=>.agg #[.string eB,.int .i64 0,.int .i64 0]
theorem nm_at {w:World} {A:Option Addr} {n c:Nat} {l:List Nm} (h:w.ownsRow 0 55 3 (.slice A n c) n (l.flatMap nmC)) (hl:l.length=n) {k:Nat} (hk:k<l.length):∃g,A=some ⟨g,0,none⟩∧g<w.heap.size∧w.cell? ⟨g,k*3,none⟩=some (.string l[k].name)∧w.cell? ⟨g,k*3+1,none⟩=some (.int .i64 l[k].kind)∧w.cell? ⟨g,k*3+2,none⟩=some (.int .i64 l[k].at_):=by
 rcases h.2 with ⟨_,h0⟩ | ⟨g,cap,cur,hv,hg,hh,h1,h2,_⟩
 ·omega
 ·cases hv
  have hc:∀j,j<3→w.cell? ⟨g,k*3+j,none⟩=(nmC l[k])[j]? :=fun j hj=>by
   rw [World.ownsRow.cellAt h (k*3+j) I];exact eY lF l k j hk hj
  exact ⟨g,rfl,aA hh,hc 0 I,hc 1 I,hc 2 I⟩
theorem find_at {l:List Nm} {t:ByteArray} {k:Nat} (hk:k<l.length) (h:(l.take k).any (jR t)=false) (hp:jR t l[k]=true):cE l t=some l[k]:=by
 rw [oV,gU hk h hp];exact List.getElem?_eq_getElem hk
theorem find_not {l:List Nm} {t:ByteArray} (h:l.any (jR t)=false):cE l t=none:=by
 rw [oV,gV h]
 rfl
theorem cc3 {w:World} {b:Nat} {t:TypeId} {fr:Nat×Nat} {x0 x1 x2:Value} (h:w.heap[b]? =some (.cells #[x0,x1,x2] t fr)):w.cell? ⟨b,0,none⟩=some x0∧w.cell? ⟨b,1,none⟩=some x1∧w.cell? ⟨b,2,none⟩=some x2:=⟨by simp only [World.cell?,h];rfl,by simp only [World.cell?,h];rfl,by simp only [World.cell?,h];rfl⟩
theorem tX {w:World} {b:Nat} {x0 x1 x2 y0 y1 y2:Value} {t:TypeId} (h:w.heap[b]? =some (.cells #[x0,x1,x2] t (0,0))):(((w.setCell ⟨b,0,none⟩ y0).setCell ⟨b,1,none⟩ y1).setCell ⟨b,2,none⟩ y2).heap[b]? =some (.cells #[y0,y1,y2] t (0,0)):=by
 rw [heap_setCell_same _ b 2 _ _ _ (heap_setCell_same _ b 1 _ _ _ (heap_setCell_same w b 0 _ _ _ h))];rfl
theorem bJ {w0 w:World} {P:Nat→Prop} {cb:Nat} {m:MK} {s:CSt} (h:CX w0 P w cb m s) (t:ByteArray):Calls Tryz.prog 33 #[.pointer (some ⟨cb,0,none⟩),.string t] w fun e w'=>e= .returned (gR (cE s.names t))∧Below w.heap.size w w':=by
 obtain ⟨lv,cv,nv,D,ps,hy,hfw⟩:=h;obtain ⟨A,c,hnv,_⟩:=aX hy.names;obtain ⟨n,hn⟩:=aE s.names.length;have HL:=J hn;rw [hn] at hnv;subst hnv;have k6:w.cell? ⟨cb,6,none⟩=some (.slice A n c):=Y15;have hrow:w.ownsRow 0 55 3 (.slice A n c) n (s.names.flatMap nmC):=by have h9:w.ownsRow 0 55 3 (.slice A n c) s.names.length (s.names.flatMap nmC):=hy.names;rw [hn] at h9;exact h9
 have HR:=J hrow;have hle:n≤100:=I;have hbx:=aA hy.box;have HK:Hid (w.cell? ⟨cb,6,none⟩=some (.slice A n c)):=J k6;have HZ1:Hid (Below w.heap.size w (w.alloc (.cells #[.string eB,.int .i64 0,.int .i64 0] 55))∧(w.alloc (.cells #[.string eB,.int .i64 0,.int .i64 0] 55)).heap[w.heap.size]? =some (.cells #[.string eB,.int .i64 0,.int .i64 0] 55 (0,0))):=J ⟨ba,heap_alloc_new w _⟩;have HCB:=J hbx;clear hy hfw hn hrow hbx k6;go_enter Tryz.func33,Tryz.ntmps33
 go_upto_region 1 with fail
 have h1:=HZ1.out;obtain ⟨w1,hw1⟩:=aE (w.alloc (.cells #[.string eB,.int .i64 0,.int .i64 0] 55));rw [hw1] at h1 ⊢;have HBW:=J h1.1;have HZ:=J h1.2;have k6:=(HBW.out.cell (p:=⟨cb,6,none⟩) HCB.out).trans HK.out;obtain ⟨n0,n1,n2⟩:=cc3 HZ.out;have r0:w1.frozen? ⟨w.heap.size,0,none⟩=false:=by simp [World.frozen?,HZ.out]
 have r1:w1.frozen? ⟨w.heap.size,1,none⟩=false:=by simp [World.frozen?,HZ.out]
 have r2:w1.frozen? ⟨w.heap.size,2,none⟩=false:=by simp [World.frozen?,HZ.out]
 clear h1 hw1 HZ1;go_wp2_with fail
 go_loopw [5] (fun i wr=>∃k:Nat,k≤n∧i= .int .i64 k∧(s.names.take k).any (jR t)=false∧wr=w1) (fun i _=>n-(intOf i).toNat)
 case atStart=>exact ⟨0,Nat.zero_le _,rfl,rfl,rfl⟩
 case round=>
  obtain ⟨k,hk,rfl,hall,hw'⟩:=hrel;replace hw':=hw'.symm;subst hw';have HALL:=J hall;clear hall
  by_cases hlt:k<n
  ·have d1:=aD hlt;have d2:=aT hlt;have hkl:k<s.names.length:=Y48;obtain ⟨g,hA,hgl,c0,c1,c2⟩:=nm_at HR.out HL.out hkl;subst hA;have hc:=fun j=>HBW.out.cell (p:=⟨g,j,none⟩) hgl
   replace c0:=(hc _).trans c0;replace c1:=(hc _).trans c1;replace c2:=(hc _).trans c2;obtain ⟨kx,hkx⟩:=aE (s.names[k]);have HKX:=J hkx;rw [hkx] at c0 c1 c2;obtain ⟨kn,kk,ka⟩:=kx;dsimp only at c0 c1 c2;have g0:(0:Int)≤(k:Int):=I;have g1:(k:Int)<(n:Int):=I;clear hkx hc
   cases hv:kn.toList==t.toList with
   | false=>
    go_wp2_with fail;go_roundw
    case rel=>exact ⟨k+1,by omega,by go_num,gH hkl (by rw [HKX.out];exact hv) HALL.out,(by first | rfl | trivial)⟩
    case measure=>simp [intOf];omega
   | true=>
    go_wp2_with fail;obtain ⟨W9,hW9⟩:∃W9,W9=(((w1.setCell ⟨w.heap.size,0,none⟩ (.string kn)).setCell ⟨w.heap.size,1,none⟩ (.int .i64 kk)).setCell ⟨w.heap.size,2,none⟩ (.int .i64 ka)):=⟨_,rfl⟩;have h9:W9.heap[w.heap.size]? =some (.cells #[.string kn,.int .i64 kk,.int .i64 ka] 55 (0,0)):=by rw [hW9];exact tX HZ.out
    obtain ⟨z0,z1,z2⟩:=cc3 h9;have hB9:Below w.heap.size w W9:=Y115;rw [←hW9];clear hW9 h9;refine bodyPost_ret (v:=.agg #[.string kn,.int .i64 kk,.int .i64 ka]) (by simp [results,Tryz.results33,go_sem,z0,z1,z2]) rfl ?_;rw [find_at hkl HALL.out (by rw [HKX.out];exact hv),HKX.out];exact ⟨rfl,hB9⟩
  ·have hkn:k=n:=I;have d1:=aK hlt;have d2:=aF hlt;clear hlt;subst hkn;go_wp2_with fail;obtain ⟨W9,hW9⟩:∃W9,W9=(((w1.setCell ⟨w.heap.size,0,none⟩ (.string eB)).setCell ⟨w.heap.size,1,none⟩ (.int .i64 0)).setCell ⟨w.heap.size,2,none⟩ (.int .i64 0)):=⟨_,rfl⟩;have h9:W9.heap[w.heap.size]? =some (.cells #[.string eB,.int .i64 0,.int .i64 0] 55 (0,0)):=by rw [hW9];exact tX HZ.out
   obtain ⟨z0,z1,z2⟩:=cc3 h9;have hB9:Below w.heap.size w W9:=Y115;rw [←hW9];clear hW9 h9;refine bodyPost_ret (v:=.agg #[.string eB,.int .i64 0,.int .i64 0]) (by simp [results,Tryz.results33,go_sem,z0,z1,z2]) rfl ?_;have h8:=HALL.out;rw [←HL.out,List.take_length] at h8;rw [find_not h8];exact ⟨rfl,hB9⟩
theorem eI (n:ByteArray) (hn:n.size≤bL) (w:World):Calls Tryz.prog 34 #[.string n] w fun e w'=>e= .returned (.bool (dH n))∧w'=w:=by
 cases q0:n.toList==[115,101,108,102] with
 | true=>
  rw [show dH n=true from by unfold dH;simp only [eE,cG,gS,eZ,dU,cL,q0];rfl];clear hn;go_enter Tryz.func34,Tryz.ntmps34;go_wp2_with fail;go_ret;exact ⟨rfl,rfl⟩
 | false=>
  cases q1:n.toList==[115,117,112,101,114] with
  | true=>
   rw [show dH n=true from by unfold dH;simp only [eE,cG,gS,eZ,dU,cL,q0,q1];rfl];clear hn;go_enter Tryz.func34,Tryz.ntmps34;go_wp2_with fail;go_ret;exact ⟨rfl,rfl⟩
  | false=>
   cases q2:n.toList==[110,105,108] with
   | true=>
    rw [show dH n=true from by unfold dH;simp only [eE,cG,gS,eZ,dU,cL,q0,q1,q2];rfl];clear hn;go_enter Tryz.func34,Tryz.ntmps34;go_wp2_with fail;go_ret;exact ⟨rfl,rfl⟩
   | false=>
    cases q3:n.toList==[116,114,117,101] with
    | true=>
     rw [show dH n=true from by unfold dH;simp only [eE,cG,gS,eZ,dU,cL,q0,q1,q2,q3];rfl];clear hn;go_enter Tryz.func34,Tryz.ntmps34;go_wp2_with fail;go_ret;exact ⟨rfl,rfl⟩
    | false=>
     cases q4:n.toList==[102,97,108,115,101] with
     | true=>
      rw [show dH n=true from by unfold dH;simp only [eE,cG,gS,eZ,dU,cL,q0,q1,q2,q3,q4];rfl];clear hn;go_enter Tryz.func34,Tryz.ntmps34;go_wp2_with fail;go_ret;exact ⟨rfl,rfl⟩
     | false=>
      cases q5:n.toList==[116,104,105,115,67,111,110,116,101,120,116] with
      | true=>
       rw [show dH n=true from by unfold dH;simp only [eE,cG,gS,eZ,dU,cL,q0,q1,q2,q3,q4,q5];rfl];clear hn;go_enter Tryz.func34,Tryz.ntmps34;go_wp2_with fail;go_ret;exact ⟨rfl,rfl⟩
      | false=>
       rw [show dH n=false from by unfold dH;simp only [eE,cG,gS,eZ,dU,cL,q0,q1,q2,q3,q4,q5];rfl];clear hn;go_enter Tryz.func34,Tryz.ntmps34;go_wp2_with fail;go_ret;exact ⟨rfl,rfl⟩
theorem Z79 {P:Prop} (h:P:=by
 go_enter Tryz.func59,Tryz.ntmps59;go_wp2_with fail;go_ret;exact ⟨by first | rfl | (refine aY ?_;first | (rw [hc0];assumption) | simp [hc0,d2]),rfl⟩):P:=h
theorem eM (n:ByteArray) (hn:n.size≤bL) (w:World):Calls Tryz.prog 59 #[.string n] w fun e w'=>e= .returned (.bool (fA n))∧w'=w:=by
 cases hl:n.toList with
 | nil=>
  rw [show fA n=false from by unfold fA;rw [hl]];have hz:n.size=0:=by rw [ByteArray.toList_eq] at hl;have h9:=congrArg List.length hl;simpa using h9
  have d0:decide (0<n.size)=false:=aK I;have d1:decide ((0:Int)<(n.size:Int))=false:=aK I;clear hn;go_enter Tryz.func59,Tryz.ntmps59;go_wp2_with fail;go_ret;exact ⟨rfl,rfl⟩
 | cons c r=>
  have h0:n.data[0]? =some c:=by
   rw [ByteArray.toList_eq] at hl;rw [←Array.getElem?_toList,hl];rfl
  have hsz:0<n.size:=by
   rcases Nat.eq_zero_or_pos n.size with q | q
   ·have:n.data.size=0:=q;rw [Array.getElem?_eq_none I] at h0;cases h0
   ·exact q
  have hne:n.toList.isEmpty=false:=by rw [hl];rfl
  have hc0:n[0]=c:=by
   have h3:n.data[0]? =some (n.data[0]'hsz):=Array.getElem?_eq_getElem hsz;rw [h0] at h3;exact (Option.some.inj h3).symm
  have d0:=aD hsz;have hcv:fA n=(decide (65≤c.toNat) && decide (c.toNat≤90)):=by unfold fA;rw [hl]
  rw [hcv];clear hcv
  by_cases h1:65≤c.toNat
  ·rw [aD h1];have d1:decide ((65:Int)≤(c.toNat:Int))=true:=aD I
   by_cases h2:c.toNat≤90
   ·rw [aD h2];have d2:decide ((c.toNat:Int)≤90)=true:=aD I;clear hl h1 h2 h0;exact Z79
   ·rw [aK h2];have d2:decide ((c.toNat:Int)≤90)=false:=aK I;clear hl h1 h2 h0;exact Z79
  ·rw [aK h1];have d1:decide ((65:Int)≤(c.toNat:Int))=false:=aK I;clear hl h1 h0;exact Z79
theorem Z80 {P:Prop} (h:P:=by
 go_enter Tryz.func61,Tryz.ntmps61;go_wp2_with fail;go_ret;exact ⟨aY Y49,bel⟩):P:=h
theorem fZ {x:NodT} {q:NS} (hok:NdOk x q) (w:World):Calls Tryz.prog 61 #[ndV x q] w fun e w'=>e= .returned (.bool (bU x))∧Below w.heap.size w w':=by
 obtain ⟨k,t,nm,ns,ts,ks⟩:=x;obtain ⟨hki,hnu,htx,hnl,htl,hkl⟩:=hok;simp only [NodT.kind,NodT.text,NodT.num,NodT.kids,NodT.names,NodT.temps] at hki hnu htx hnl htl hkl;unfold ndV;simp only [NodT.kind,NodT.text,NodT.num,NodT.kids,NodT.names,NodT.temps];obtain ⟨nn,hnn⟩:=aE ns.length;obtain ⟨nk,hnk⟩:=aE ks.length;rw [hnn] at hnl;rw [hnk] at hkl;have hnl2:nn≤9223372036854775807:=Y136;have hkl2:nk≤9223372036854775807:=Y137;have HV:Hid (bU (.node k t nm ns ts ks)=(decide (k=9) && decide (nn=0))):=J (by rw [←hnn];rfl);rw [HV.out];rw [hnn,hnk]
 by_cases e1:k=9
 ·subst e1
  by_cases e2:nn=0
  ·have d2:(nn==0)=true:=Y148;have d3:((nn:Int)==0)=true:=Y4;exact Z80
  ·have d2:(nn==0)=false:=Y148;have d3:((nn:Int)==0)=false:=Y4;exact Z80
 ·have d1:(k==9)=false:=Y29;exact Z80
theorem cO {w0 ws w1 w:World} {P:Nat→Prop} {cb:Nat} {m:MK} {s:CSt} (h:CT w0 P ws w1 cb m s) (hb:Below w1.heap.size w1 w) (name:ByteArray) (hn:name.size≤bL) (x:Int):Calls Tryz.prog 35 #[.pointer (some ⟨cb,0,none⟩),.string name,.int .i64 x] w fun e w'=>e= .returned (.tuple #[])∧CT w0 P ws w' cb m (aG s name x):=by
 have h2:=h.below hb;refine (eP h2.1 name hn x).mono ?_;rintro e w' ⟨he,hc⟩;exact ⟨he,h2.go hc⟩
theorem bG {w0 ws w1 w:World} {P:Nat→Prop} {cb:Nat} {m:MK} {s:CSt} (h:CT w0 P ws w1 cb m s) (hb:Below w1.heap.size w1 w) (op a b:Int) (hf:s.code.length≤1000000):Calls Tryz.prog 19 #[.pointer (some ⟨cb,0,none⟩),.int .i64 op,.int .i64 a,.int .i64 b] w fun e w'=>e= .returned (.tuple #[])∧CT w0 P ws w' cb m (aB s op a b):=by
 have h2:=h.below hb;refine (put_any h2.1 op a b hf).mono ?_;rintro e w' ⟨he,hc⟩;exact ⟨he,h2.go hc⟩
theorem lead_at {w0 ws w1 w:World} {P:Nat→Prop} {cb:Nat} {m:MK} {s:CSt} (h:CT w0 P ws w1 cb m s) (hb:Below w1.heap.size w1 w) (a:Nat) (ha:a<s.code.length) (t:Nat) (ht:t≤1000000) (hf:s.code.length≤1000000):Calls Tryz.prog 45 #[.pointer (some ⟨cb,0,none⟩),.int .i64 (a:Int),.int .i64 (t:Int)] w fun e w'=>e= .returned (.tuple #[])∧CT w0 P ws w' cb m (toP s a s.code[a].op t):=by
 have h2:=h.below hb;refine (lead_any h2.1 a ha t ht hf).mono ?_;rintro e w' ⟨he,hc⟩;exact ⟨he,h2.go hc⟩
end Go.Proofs.YtnojndgmgkgnpaaGreat.Rf
namespace Go.Proofs.YtnojndgmgkgnpaaGreat
open Go.ChangeShapes Go.WideShapes Go.ChangeAt Go.RowKit Go.Deep Go.Joins Go.Maps
def RTells (w:World) (a:LitT) (qa:LS):Prop:=∀(w1:World) (D':Nat→Prop) (b:LitT) (qb:LS),Below w.heap.size w w1→IsLt w1 D' b qb→Calls Tryz.prog 22 #[ltV a qa,ltV b qb] w1 fun e w'=>e= .returned (.bool (eA a b))∧Below w1.heap.size w1 w'
theorem RTells.under {w w1:World} {a:LitT} {q:LS} (h:RTells w a q) (hb:Below w.heap.size w w1):RTells w1 a q:=fun W D' b qb hW hl=>h W D' b qb (hb.trans (hW.mono hb.size)) hl
theorem Z81 {P:Prop} (h:P:=by
 go_enter Tryz.func22,Tryz.ntmps22;go_wp2_with fail;go_ret;exact ⟨aY Y49,bel⟩):P:=h
theorem rF {w:World} {D:Nat→Prop} {a:LitT} {qa:LS} (h:IsLt w D a qa):RTells w a qa:=by
 induction h with
 | node x q Q h1 h4 h5 ih=>
 intro w1 D' b qb hb hlb;obtain ⟨Q',hkb⟩:=hlb.kids;have hka0:Kids w D q.p x.kids_ Q:=⟨h4,h5⟩;have HKA:=J (Kids.under hka0 hb);clear hka0;have HKB:=J hkb;have HIH:Hid (∀i (h:i<x.kids_.length),RTells w1 x.kids_[i] (Q i)):=J (fun i h=>(ih i h).under hb);have hma:=h1.klen.2;have hma':=h1.klen.1;have hmb:=hlb.ok.klen.2;have hmb':=hlb.ok.klen.1;rw [sJ];unfold ltV;obtain ⟨na,hna⟩:=aE x.kids_.length;obtain ⟨nb,hnb⟩:=aE b.kids_.length;obtain ⟨ka,hka⟩:=aE x.kind_;obtain ⟨kb,hkb2⟩:=aE b.kind_;obtain ⟨ta,hta⟩:=aE x.text_;obtain ⟨tb,htb⟩:=aE b.text_;obtain ⟨ma,hma3⟩:=aE x.num_;obtain ⟨mb,hmb3⟩:=aE b.num_;obtain ⟨pa,hpa⟩:=aE q.p;obtain ⟨pb,hpb⟩:=aE qb.p;obtain ⟨ca,hca⟩:=aE q.c;obtain ⟨cb,hcb⟩:=aE qb.c;have HNA:=J hna;have HNB:=J hnb;rw [hpa] at HKA;rw [hpb] at HKB;rw [hna,hca] at hma';rw [hnb,hcb] at hmb';rw [hca] at hma;rw [hcb] at hmb;rw [hna,hnb,hka,hkb2,hta,htb,hma3,hmb3,hpa,hpb,hca,hcb];have hna2:na≤9223372036854775807:=by unfold maxLen at hma;omega
 have hnb2:nb≤9223372036854775807:=by unfold maxLen at hmb;omega
 clear hna hnb hka hkb2 hta htb hma3 hmb3 hma hma' hmb hmb' hkb hlb ih h1 h4 h5 hpa hpb hca hcb
 by_cases e1:ka=kb
 ·subst e1
  cases e2:ta.toList==tb.toList with
  | true=>
   by_cases e3:ma=mb
   ·subst e3
    by_cases e4:na=nb
    ·
     subst e4;obtain ⟨n,hn⟩:∃n,n=na:=⟨_,rfl⟩;rw [←hn] at HNA HNB hna2 ⊢;have HTL:=J e2;clear hn hnb2;go_enter Tryz.func22,Tryz.ntmps22
     go_upto_region 1 with fail
     have hbw:Below w1.heap.size w1 ((w1.alloc (.cells #[.int .i64 ka,.string ta,.int .i64 ma,.slice pa n ca] 44)).alloc (.cells #[.int .i64 ka,.string tb,.int .i64 ma,.slice pb n cb] 44)):=bel;have h1:=heap_alloc_new w1 (.cells #[.int .i64 ka,.string ta,.int .i64 ma,.slice pa n ca] 44);have h2:=heap_alloc_new (w1.alloc (.cells #[.int .i64 ka,.string ta,.int .i64 ma,.slice pa n ca] 44)) (.cells #[.int .i64 ka,.string tb,.int .i64 ma,.slice pb n cb] 44);rw [World.size_alloc] at h2;have h1':((w1.alloc (.cells #[.int .i64 ka,.string ta,.int .i64 ma,.slice pa n ca] 44)).alloc (.cells #[.int .i64 ka,.string tb,.int .i64 ma,.slice pb n cb] 44)).heap[w1.heap.size]? =some (.cells #[.int .i64 ka,.string ta,.int .i64 ma,.slice pa n ca] 44 (0,0)):=((ba).block _ (aA h1)).trans h1;have hka:=HKA.out.under hbw;have hkb:=HKB.out.under hbw;obtain ⟨W,hW⟩:∃W,((w1.alloc (.cells #[.int .i64 ka,.string ta,.int .i64 ma,.slice pa n ca] 44)).alloc (.cells #[.int .i64 ka,.string tb,.int .i64 ma,.slice pb n cb] 44))=W:=⟨_,rfl⟩;rw [hW] at hbw h2 h1' hka hkb ⊢;obtain ⟨a0,a1,a2,a3⟩:=cc4 (h1');obtain ⟨b0,b1,b2,b3⟩:=cc4 (h2);have HBW:=J hbw;have HBA:=J h1';have HBB:=J h2;have HKA2:=J hka;have HKB2:=J hkb;clear hW hbw h1 h2 h1' hka hkb HKA HKB;go_wp2_with fail
     go_loopw [5] (fun i wr=>∃k:Nat,i= .int .i64 k∧k≤n∧Below W.heap.size W wr∧∀j (h1:j<x.kids_.length) (h2:j<b.kids_.length),j<k→eA x.kids_[j] b.kids_[j]=true) (fun i _=>n-(intOf i).toNat)
     case atStart=>exact ⟨0,rfl,Nat.zero_le _,Below.refl _ _,fun j _ _ h=>absurd h I⟩
     case round=>
      obtain ⟨k,rfl,hk,hbr,hall⟩:=hrel;have HB:=J hbr;have HALL:=J hall;have ha9:=(hbr.block _ (aA HBA.out)).trans HBA.out;have hb9:=(hbr.block _ (aA HBB.out)).trans HBB.out;clear hall a0 a1 a2 a3 b0 b1 b2 b3;obtain ⟨a0,a1,a2,a3⟩:=cc4 (ha9);obtain ⟨b0,b1,b2,b3⟩:=cc4 (hb9);clear ha9 hb9
      by_cases hlt:k<n
      ·have d1:=aD hlt;have d2:=aT hlt;have h1:k<x.kids_.length:=by have:=HNA.out;omega
       have h2:k<b.kids_.length:=by have:=HNB.out;omega
       have hKL:=HKA2.out.under hbr;have hKR:=HKB2.out.under hbr;obtain ⟨ba,cura,hpa,hha,_,hca⟩:=hKL.1 k h1;have ea0:=hca.c0;have ea1:=hca.c1;have ea2:=hca.c2;have ea3:=hca.c3;obtain ⟨bb,curb,hpb,hhb,_,hcb⟩:=hKR.1 k h2;have eb0:=hcb.c0;have eb1:=hcb.c1;have eb2:=hcb.c2;have eb3:=hcb.c3;subst hpa;subst hpb;have hab:ba<wr.heap.size:=aA hha;have hbb:bb<wr.heap.size:=aA hhb;obtain ⟨xa,hxa⟩:=aE (x.kids_[k]);obtain ⟨xb,hxb⟩:=aE (b.kids_[k]);obtain ⟨qa,hqa⟩:=aE (Q k);obtain ⟨qc,hqb⟩:=aE (Q' k);have hlb:=hKR.2 k h2;have hta:=HIH.out k h1;rw [hxa,hqa] at hta;rw [hxb,hqb] at hlb;rw [hxa] at ea0 ea1 ea2;rw [hxa,hqa] at ea3;rw [hxb] at eb0 eb1 eb2;rw [hxb,hqb] at eb3;have HSA:Hid (eA x.kids_[k] b.kids_[k]=eA xa xb):=J (by rw [hxa,hxb]);have hW:∀W',Below wr.heap.size wr W'→Calls Tryz.prog 22 #[ltV xa qa,ltV xb qc] W' fun e w'=>e= .returned (.bool (eA xa xb))∧Below wr.heap.size wr w':=fun W' hW=>(hta W' _ _ _ (HBW.out.trans ((hbr.trans (hW.mono hbr.size)).mono HBW.out.size)) (hlb.under hW)).mono (fun e w' ⟨he,hb⟩=>⟨he,hW.trans (hb.mono hW.size)⟩)
       obtain ⟨v,hv⟩:=aE (eA xa xb);rw [hv] at hW;have HW:=J hW;have HV:=J hv;have g0:(0:Int)≤(k:Int):=I;have g1:(k:Int)<(n:Int):=I;clear hW hv hta hlb hxa hxb hqa hqb hca hcb hha hhb hKL hKR;unfold ltV at HW
       go_upto_region 6 with fail
       cases v with
       | true=>
        go_region_law (first | (go_simp;go_at_call 22;(with_reducible refine (HW.out _ bel).mono ?_);rintro e w3 ⟨rfl,HB3⟩;replace HB3:=J HB3))
        all_goals
         go_wp2_with fail;go_roundw
         case rel=>
          refine ⟨k+1,by go_num,hlt,HB.out.trans (HB3.out.mono HB.out.size),fun j h3 h4 hj=>?_⟩
          rcases Nat.lt_or_ge j k with q9 | q9
          ·exact HALL.out j h3 h4 q9
          ·obtain rfl:j=k:=I;rw [HSA.out,HV.out]
         case measure=>simp [intOf];omega
       | false=>
        go_region_law (first | (go_simp;go_at_call 22;(with_reducible refine (HW.out _ bel).mono ?_);rintro e w3 ⟨rfl,HB3⟩;replace HB3:=J HB3))
        all_goals
         go_wp2_with fail;go_ret;have hs9:=nP x.kids_ b.kids_ k h1 h2 (by rw [HSA.out,HV.out]);exact ⟨aY (by first | (simp [hs9];done) | simp_all),HBW.out.trans ((HB.out.trans (HB3.out.mono HB.out.size)).mono HBW.out.size)⟩
      ·have hkn:k=n:=I;have d1:=aK hlt;have d2:=aF hlt;clear hlt;subst hkn;go_wp2_with fail;go_ret;have hs9:=mG x.kids_ b.kids_ (by have:=HNA.out;have:=HNB.out;omega) (fun j h1 h2=>HALL.out j h1 h2 (by have:=HNA.out;omega));have ht9:=HTL.out;exact ⟨aY (by first | (simp [hs9,ht9];done) | simp_all),HBW.out.trans (HB.out.mono HBW.out.size)⟩
    ·have HV:Hid (fN x.kids_ b.kids_=false):=J (mF _ _ (by have:=HNA.out;have:=HNB.out;omega));have d1:(na==nb)=false:=by simpa using e4
     have d2:((na:Int)==(nb:Int))=false:=Y4;have d3:decide ((na:Int)=(nb:Int))=false:=aK I;rw [HV.out];exact Z81
   ·have d3:(ma==mb)=false:=Y147;exact Z81
  | false=>
   exact Z81
 ·have d1:(ka==kb)=false:=Y29;exact Z81
end Go.Proofs.YtnojndgmgkgnpaaGreat
namespace Go.Proofs.YtnojndgmgkgnpaaGreat.Rf
open Go.ChangeShapes Go.WideShapes Go.ChangeAt Go.RowKit Go.Deep Go.Joins Go.Maps
theorem step_z {ops:Array Oper} {o:Oper} {a:Act} {K:Act→World→Prop} {Q:Exit→Act→World→Prop} {E:Prop} {w:World} {lv:Value} {n:Nat} {xs:List Value} (hgd:o.guard=none) (sl x:Operand)
  (hop:o.op= .call {callee:=.builtin .append,args:=#[sl,x],argTypes:=#[29,29]}) (h:w.ownsRow 0 44 4 lv n xs) (hs:a.eval sl=lv) {G:Nat} (hx:a.eval x= .slice (some ⟨G,0,none⟩) 1 1)
  (hG:w.heap[G]? =some (.cells #[.int .i64 0,.string eB,.int .i64 0,.slice none 0 0] 44 (0,0))) (hle:n≤100000)
  (hK:∀g c w',w'.ownsRow 0 44 4 (.slice (some ⟨g,0,none⟩) (n+1) c) (n+1) (xs++[.int .i64 0,.string eB,.int .i64 0,.slice none 0 0])→Turns (fun k=>lv.ownBlock=some k) w w'→(lv.ownBlock=some g∨g=w.heap.size)→K (a.put o.dst (.slice (some ⟨g,0,none⟩) (n+1) c)) w'):if Region.wanted o (yielded ops a.tmps)=true then Oper.wp Tryz.prog o a w K Q else E:=by
 obtain ⟨i0,hi,hz0,hz1,hz2⟩:=cQ wI;have hone:∀u∈([.int .i64 0,.string eB,.int .i64 0,.slice none 0 0]:List Value),u.oneCell'=true:=fun u hu=>by
  simp only [List.mem_cons,List.not_mem_nil,or_false] at hu
  rcases hu with rfl | rfl | rfl | rfl <;> rfl
 rw [if_pos Y92];obtain ⟨v',w',hr,h2,h3,_,h5⟩:=run_append_own_at (P:=Tryz.prog) w 0 29 o.type 44 i0 (.agg #[.int .i64 0,.string eB,.int .i64 0,.slice none 0 0]) 4 56 Tryz.underlying29 hi hz0 hz1 hz2 rfl Y3 lv n _ h ⟨G,0,none⟩ 1 1 [.int .i64 0,.string eB,.int .i64 0,.slice none 0 0] rfl (cY hG) hone Y24 I (Nat.zero_le _);have hsl:∃g c,v'= .slice (some ⟨g,0,none⟩) (n+1) c:=by
  rcases h2.2 with ⟨_,h0⟩ | ⟨g,cap,cur,hv,_⟩
  ·omega
  ·exact ⟨g,cap,hv⟩
 obtain ⟨g,c,hv⟩:=hsl;subst hv;unfold Oper.wp execOp;simp only [hop,resolve,invoke,builtin,Sem.run_bind,Sem.run_pure,Result.andThen_ok,List.map_toArray,List.map_cons,List.map_nil,hs,hx,hr];exact hK g c w' h2 ⟨h3.os,h3.tape,h3.output,h3.size,fun k hk hs=>h3.block k hk (fun e=>hs e.symm)⟩ (h5.imp (fun z=>z.symm) (fun z=>Option.some.inj z))
theorem eD {w:World} {p:Addr} {v:Value} {k:Nat} (h:p.block≠k):(w.setCell p v).heap[k]? =w.heap[k]? :=Below.heap_setCell _ _ _ _ (fun e=>h e.symm)
theorem vN {w0 w:World} {P:Nat→Prop} {cb:Nat} {m:MK} {s:CSt} {lv cv nv:Value} {D:Nat→Prop} {ps:List LP} {A:Option Addr} {n c g5 c5:Nat} {wa w5 W:World} {l:LitT} {q:LS} {Dl:Nat→Prop} (h:CY w0 P wa cb m s (.slice A n c) cv nv D ps) (hn:ps.length=n) (hl:IsLt wa Dl l q) (hD:∀k,Dl k→(Value.slice A n c).ownBlock≠some k∧∃cur,wa.heap[k]? =some (.cells cur 44 (0,0)))
  (hown:w5.ownsRow 0 44 4 (.slice (some ⟨g5,0,none⟩) (n+1) c5) (n+1) (ps.flatMap lpC++[.int .i64 0,.string eB,.int .i64 0,.slice none 0 0])) (ht:Turns (fun k=>(Value.slice A n c).ownBlock=some k) wa w5) (hat:(Value.slice A n c).ownBlock=some g5∨g5=wa.heap.size) (hgc:g5≠cb)
  (hW:W=(((((w5.setCell ⟨cb,4,none⟩ (.slice (some ⟨g5,0,none⟩) (n+1) c5)).setCell ⟨g5,n*4,none⟩ (.int .i64 l.kind_)).setCell ⟨g5,n*4+1,none⟩ (.string l.text_)).setCell ⟨g5,n*4+2,none⟩ (.int .i64 l.num_)).setCell ⟨g5,n*4+3,none⟩ (.slice q.p l.kids_.length q.c))∨W=((((w5.setCell ⟨g5,n*4,none⟩ (.int .i64 l.kind_)).setCell ⟨g5,n*4+1,none⟩ (.string l.text_)).setCell ⟨g5,n*4+2,none⟩ (.int .i64 l.num_)).setCell ⟨g5,n*4+3,none⟩ (.slice q.p l.kids_.length q.c)).setCell ⟨cb,4,none⟩ (.slice (some ⟨g5,0,none⟩) (n+1) c5)):
  CY w0 P W cb m {s with lits:=s.lits++[l]} (.slice (some ⟨g5,0,none⟩) (n+1) c5) cv nv (fun k=>D k∨Dl k) (ps++[(l,q)])∧Turns (cP P) wa W:=by
 have hbx:=(ht.block cb (aA h.box) (fun e=>(h.ne.1 cb e).1 rfl)).trans h.box;have hm:Turns (fun k=>(Value.slice A n c).ownBlock=some k∨k=cb∨k=g5) wa w5:=ht.mono (fun _ _ z=>.inl z);have hfl:(ps.flatMap lpC).length=n*4:=by rw [gT kC,hn]
 refine h.relit (g:=g5) (n:=n+1) (c:=c5) (l,q) hl hD ?_ (hat.imp id (fun e=>by omega)) ?_ ?_
 ·rcases hW with e | e
  ·rw [e];exact (((((hm.setCell ⟨cb,4,none⟩ _ (.inl (.inr (.inl rfl)))).setCell ⟨g5,n*4,none⟩ _ (.inl (.inr (.inr rfl)))).setCell ⟨g5,n*4+1,none⟩ _ (.inl (.inr (.inr rfl)))).setCell ⟨g5,n*4+2,none⟩ _ (.inl (.inr (.inr rfl)))).setCell ⟨g5,n*4+3,none⟩ _ (.inl (.inr (.inr rfl))))
  ·rw [e];exact (((((hm.setCell ⟨g5,n*4,none⟩ _ (.inl (.inr (.inr rfl)))).setCell ⟨g5,n*4+1,none⟩ _ (.inl (.inr (.inr rfl)))).setCell ⟨g5,n*4+2,none⟩ _ (.inl (.inr (.inr rfl)))).setCell ⟨g5,n*4+3,none⟩ _ (.inl (.inr (.inr rfl)))).setCell ⟨cb,4,none⟩ _ (.inl (.inr (.inl rfl))))
 ·rcases hW with e | e
  ·rw [e,eD hgc,eD hgc,eD hgc,eD hgc,heap_setCell_same w5 cb 4 _ _ _ hbx]
   rfl
  ·have h4:((((w5.setCell ⟨g5,n*4,none⟩ (.int .i64 l.kind_)).setCell ⟨g5,n*4+1,none⟩ (.string l.text_)).setCell ⟨g5,n*4+2,none⟩ (.int .i64 l.num_)).setCell ⟨g5,n*4+3,none⟩ (.slice q.p l.kids_.length q.c)).heap[cb]? =some (.cells (fR m s (.slice A n c) cv nv) 53 (0,0)):=by rw [eD hgc,eD hgc,eD hgc,eD hgc];exact hbx
   rw [e,heap_setCell_same _ cb 4 _ _ _ h4]
   rfl
 ·rw [hn]
  rcases hW with e | e
  ·rw [e];exact own4 (aJ hown (Turns.setCell (Turns.refl (fun k=>k=cb) _) ⟨cb,4,none⟩ _ (.inl rfl)).size (fun k hk=>by cases hk;exact eD (fun e=>hgc e.symm))) hfl _ _ _ _
  ·rw [e];exact aJ (own4 hown hfl _ _ _ _) (Turns.setCell (Turns.refl (fun k=>k=cb) _) ⟨cb,4,none⟩ _ (.inl rfl)).size (fun k hk=>by cases hk;exact eD (fun e=>hgc e.symm))
theorem gA {w0 w:World} {P:Nat→Prop} {cb:Nat} {m:MK} {s:CSt} {lv cv nv:Value} {D:Nat→Prop} {ps:List LP} (h:CY w0 P w cb m s lv cv nv D ps) {l:LitT} {q:LS} {Dl:Nat→Prop} (hl:IsLt w Dl l q) (hD:∀k,Dl k→lv.ownBlock≠some k∧∃cur,w.heap[k]? =some (.cells cur 44 (0,0))) (hle:s.lits.length≤100000):
  Calls Tryz.prog 37 #[.pointer (some ⟨cb,0,none⟩),ltV l q] w fun e w'=>e= .returned (.int .i64 ((bS s l).1:Int))∧(∃lv' D' ps',CY w0 P w' cb m (bS s l).2 lv' cv nv D' ps')∧Turns (cP P) w w':=by
 obtain ⟨A,c,hlv,_⟩:=aX h.lits.own;obtain ⟨n,hn⟩:=aE ps.length;rw [hn] at hlv;subst hlv;have HN:=J hn;have hln:s.lits.length=n:=by rw [←h.lps,List.length_map,hn]
 have HLN:=J hln;rw [hln] at hle;have HD:=J hD;have HL:=J hl;have hpl:bS s l=placeO ((ps.map Prod.fst).findIdx? (fun k=>eA k l)) s l:=by rw [h.lps];rfl
 have HPL:=J hpl;have HM:Hid ((ps.map Prod.fst).length=n):=J (by rw [List.length_map];exact hn);have hb0:Below w.heap.size w (w.alloc (.cells #[.int .i64 l.kind_,.string l.text_,.int .i64 l.num_,.slice q.p l.kids_.length q.c] 44)):=ba;have H1:Hid (CY w0 P (w.alloc (.cells #[.int .i64 l.kind_,.string l.text_,.int .i64 l.num_,.slice q.p l.kids_.length q.c] 44)) cb m s (.slice A n c) cv nv D ps∧(w.alloc (.cells #[.int .i64 l.kind_,.string l.text_,.int .i64 l.num_,.slice q.p l.kids_.length q.c] 44)).heap[w.heap.size]? =some (.cells #[.int .i64 l.kind_,.string l.text_,.int .i64 l.num_,.slice q.p l.kids_.length q.c] 44 (0,0))∧Below w.heap.size w (w.alloc (.cells #[.int .i64 l.kind_,.string l.text_,.int .i64 l.num_,.slice q.p l.kids_.length q.c] 44))):=J ⟨h.below hb0,heap_alloc_new w _,hb0⟩;have hcl:=aA h.box;unfold ltV;have HLT:Hid (∀b,(Value.slice A n c).ownBlock=some b→b<w.heap.size):=J (fun b hb=>(World.ownsRow.lt h.lits.own b hb).2);clear h hl hD hn hln hpl hb0;go_enter Tryz.func37,Tryz.ntmps37
 go_upto_region 1 with fail
 have h1:=H1.out;obtain ⟨lb,hlb⟩:=aE w.heap.size;obtain ⟨w1,hw1⟩:∃w1,w.alloc (.cells #[.int .i64 l.kind_,.string l.text_,.int .i64 l.num_,.slice q.p l.kids_.length q.c] 44)=w1:=⟨_,rfl⟩;rw [hw1] at h1 ⊢;rw [hlb] at h1 ⊢;have HY:=J h1.1;have HLB:=J h1.2.1;have HW1:Hid (Below w.heap.size w w1):=J (by rw [hlb];exact h1.2.2);have HCL:Hid (cb<lb):=J I;have HLBN:Hid (∀b,(Value.slice A n c).ownBlock=some b→b<lb):=J (fun b hb=>by rw [←hlb];exact HLT.out b hb);have hk4:w1.cell? ⟨cb,4,none⟩=some (.slice A n c):=by rw [HY.out.cell];rfl
 clear h1 hw1 H1 hlb hcl;go_wp2_with fail
 go_loopw [5] (fun i wr=>∃k:Nat,k≤n∧i= .int .i64 k∧((ps.map Prod.fst).take k).any (fun k=>eA k l)=false∧Below w1.heap.size w1 wr) (fun i _=>n-(intOf i).toNat)
 case atStart=>exact ⟨0,Nat.zero_le _,rfl,rfl,Below.refl _ _⟩
 case round=>
  obtain ⟨k,hk,rfl,hall,hbr⟩:=hrel;have HALL:=J hall;have HBR:=J hbr;have hy9:=HY.out.below hbr;have hl9:=(hbr.block _ (aA HLB.out)).trans HLB.out;have k4:wr.cell? ⟨cb,4,none⟩=some (.slice A n c):=by rw [hy9.cell];rfl
  have kf4:=hy9.free 4;obtain ⟨x0,x1,x2,x3⟩:=cc4 (hl9);clear hall hk4
  by_cases hlt:k<n
  ·have d1:=aD hlt;have d2:=aT hlt;have hkl:k<ps.length:=Y111;have hkm:k<(ps.map Prod.fst).length:=by rw [HM.out];exact hlt
   obtain ⟨b,c',cur,hv,_,hh,hc⟩:=hy9.lits.at_ hkl;simp only [Value.slice.injEq] at hv;obtain ⟨rfl,hx9,rfl⟩:=hv;clear hx9;have hbl:=aA hh;obtain ⟨px,hpx⟩:=aE (ps[k]);have hlk:=hy9.lits.lits px (by rw [←hpx];exact List.getElem_mem hkl);have HPX:Hid ((ps.map Prod.fst)[k]=px.1):=J (by rw [List.getElem_map,hpx]);rw [hpx] at hc;obtain ⟨kx,qx⟩:=px;obtain ⟨c0,c1,c2,c3⟩:=hc;dsimp only at c0 c1 c2 c3;have hsm:∀W,Below wr.heap.size wr W→Calls Tryz.prog 22 #[ltV kx qx,ltV l q] W fun e w'=>e= .returned (.bool (eA kx l))∧Below wr.heap.size wr w':=fun W hW=>(rF hlk W _ _ _ hW ((HL.out.under HW1.out).under (hbr.trans (hW.mono hbr.size)))).mono (fun e w' ⟨he,hb⟩=>⟨he,hW.trans (hb.mono hW.size)⟩)
   obtain ⟨v,hv⟩:=aE (eA kx l);rw [hv] at hsm;unfold ltV at hsm;have HSM:=J hsm;have HV:=J hv;have g0:(0:Int)≤(k:Int):=I;have g1:(k:Int)<(n:Int):=I;clear hsm hv hpx hlk hy9 hl9 hh hbr
   go_upto_region 4 with fail
   cases v with
   | false=>
    go_region_law (first | (go_simp;go_at_call 22;(with_reducible refine (HSM.out _ bel).mono ?_);rintro e w5 ⟨rfl,hb5⟩;have HB5:=J (HBR.out.trans (hb5.mono HBR.out.size));clear hb5))
    all_goals
     go_wp2_with fail;go_roundw
     case rel=>exact ⟨k+1,by omega,by go_num,gH hkm Y141 HALL.out,HB5.out⟩
     case measure=>simp [intOf];omega
   | true=>
    go_region_law (first | (go_simp;go_at_call 22;(with_reducible refine (HSM.out _ bel).mono ?_);rintro e w5 ⟨rfl,hb5⟩;have HB5:=J (HBR.out.trans (hb5.mono HBR.out.size));clear hb5))
    all_goals
     go_wp2_with fail;go_ret;have hpo:bS s l=(k,s):=by rw [HPL.out,gU hkm HALL.out Y141];rfl
     rw [hpo];exact ⟨rfl,⟨_,D,ps,HY.out.below HB5.out⟩,Turns.of_below (HW1.out.trans (HB5.out.mono HW1.out.size))⟩
  ·have hkn:k=n:=I;have d1:=aK hlt;have d2:=aF hlt;have HPO:Hid (bS s l=(n,{s with lits:=s.lits++[l]})):=J (by
    have h8:=HALL.out;rw [hkn,←HM.out,List.take_length] at h8;rw [HPL.out,gV h8,←HLN.out]
    rfl)
   clear hlt hk;subst hkn;have hba:Below wr.heap.size wr (wr.drew.alloc (.cells #[.int .i64 0,.string eB,.int .i64 0,.slice none 0 0] 44)):=((Below.refl _ _).drew).alloc aR _;have hya:=hy9.below hba;have HYA:=J hya;have HROW:Hid ((wr.drew.alloc (.cells #[.int .i64 0,.string eB,.int .i64 0,.slice none 0 0] 44)).ownsRow 0 44 4 (.slice A k c) k (ps.flatMap lpC)):=J (by have h8:=hya.lits.own;rw [HN.out] at h8;exact h8);have HGA:Hid ((wr.drew.alloc (.cells #[.int .i64 0,.string eB,.int .i64 0,.slice none 0 0] 44)).heap[wr.heap.size]? =some (.cells #[.int .i64 0,.string eB,.int .i64 0,.slice none 0 0] 44 (0,0))):=J (heap_alloc_new wr.drew _);have HBA:=J hya.box;have HLBA:=J ((hba.block _ (aA hl9)).trans hl9);have HCA:=J (aA hya.box);have HLA:=J (aA HLBA.out);have HNE:Hid ((Value.slice A k c).ownBlock≠some cb∧(Value.slice A k c).ownBlock≠some lb):=J ⟨fun e=>(hy9.ne.1 cb e).1 rfl,fun e=>Nat.lt_irrefl _ (HLBN.out lb e)⟩;have HBT:Hid (Below w.heap.size w (wr.drew.alloc (.cells #[.int .i64 0,.string eB,.int .i64 0,.slice none 0 0] 44))):=J (HW1.out.trans ((HBR.out.trans (hba.mono HBR.out.size)).mono HW1.out.size));have x4a:(wr.drew.alloc (.cells #[.int .i64 0,.string eB,.int .i64 0,.slice none 0 0] 44)).cell? ⟨cb,4,none⟩=some (.slice A k c):=by rw [hya.cell];rfl
   have k4a:(wr.alloc (.cells #[.int .i64 0,.string eB,.int .i64 0,.slice none 0 0] 44)).cell? ⟨cb,4,none⟩=some (.slice A k c):=Lib.cell?_alloc_marked _ k4;have xa0:(wr.alloc (.cells #[.int .i64 0,.string eB,.int .i64 0,.slice none 0 0] 44)).cell? ⟨lb,0,none⟩=_:=Lib.cell?_alloc_marked _ x0;have xa1:(wr.alloc (.cells #[.int .i64 0,.string eB,.int .i64 0,.slice none 0 0] 44)).cell? ⟨lb,1,none⟩=_:=Lib.cell?_alloc_marked _ x1;have xa2:(wr.alloc (.cells #[.int .i64 0,.string eB,.int .i64 0,.slice none 0 0] 44)).cell? ⟨lb,2,none⟩=_:=Lib.cell?_alloc_marked _ x2;have xa3:(wr.alloc (.cells #[.int .i64 0,.string eB,.int .i64 0,.slice none 0 0] 44)).cell? ⟨lb,3,none⟩=_:=Lib.cell?_alloc_marked _ x3;have g0:(0:Int)≤(k:Int):=I;have g1:(k:Int)<(k:Int)+1:=I;have g2:k<k+1:=I;clear hba hya hy9 hl9 hbr
   go_upto_region 6 with fail
   go_cut [] (fun wx=>∃g5 c5 D',CY w0 P wx cb m {s with lits:=s.lits++[l]} (.slice (some ⟨g5,0,none⟩) (k+1) c5) cv nv D' (ps++[(l,q)])∧Turns (cP P) w wx)
   case first=>
    go_region_law (first | (refine step_z rfl _ _ rfl HROW.out Y10 (G:=wr.heap.size) Y10 HGA.out I ?_;intro g5 c5 w5 hown ht5 hat;have HOWN:=J hown;have HT5:=J ht5;have HAT:=J hat;have hbx5:=(ht5.block cb HCA.out (fun e=>HNE.out.1 e)).trans HBA.out;have hlb5:=(ht5.block lb HLA.out (fun e=>HNE.out.2 e)).trans HLBA.out;have HBX5:=J hbx5;have HLB5:=J hlb5;have s4:w5.cell? ⟨cb,4,none⟩=some (.slice A k c):=(by simp [World.cell?,hbx5,fR]);have sf4:w5.frozen? ⟨cb,4,none⟩=false:=(by simp [World.frozen?,hbx5]);obtain ⟨y0,y1,y2,y3⟩:=cc4 hlb5;obtain ⟨cur5,hg5⟩:=bN hown (v:=.slice (some ⟨g5,0,none⟩) (k+1) c5) rfl;have ng1:g5≠cb:=(fun e=>by rw [e,hbx5] at hg5;simp at hg5);have ng2:¬cb=g5:=(fun e=>ng1 e.symm);have ng3:g5≠lb:=(fun e=>hat.elim (fun z=>HNE.out.2 (e▸z)) (fun z=>Nat.lt_irrefl lb (aN HLA.out (Nat.le_of_eq (z.symm.trans e)))));have ng4:¬lb=g5:=(fun e=>ng3 e.symm);have hcl:=fun j (hj:j<4)=>((World.ownsRow.cellAt hown (k*4+j) I).trans (by rw [List.getElem?_append_right (by rw [gT kC,HN.out];omega),gT kC,HN.out,Nat.add_sub_cancel_left]):w5.cell? ⟨g5,k*4+j,none⟩=([.int .i64 0,.string eB,.int .i64 0,.slice none 0 0]:List Value)[j]?);have z0:w5.cell? ⟨g5,k*4,none⟩=some (.int .i64 0):=hcl 0 I;have z1:w5.cell? ⟨g5,k*4+1,none⟩=some (.string eB):=hcl 1 I;have z2:w5.cell? ⟨g5,k*4+2,none⟩=some (.int .i64 0):=hcl 2 I;have z3:w5.cell? ⟨g5,k*4+3,none⟩=some (.slice none 0 0):=hcl 3 I;have fz0:w5.frozen? ⟨g5,k*4,none⟩=false:=Y143;have fz1:w5.frozen? ⟨g5,k*4+1,none⟩=false:=Y143;have fz2:w5.frozen? ⟨g5,k*4+2,none⟩=false:=Y143;have fz3:w5.frozen? ⟨g5,k*4+3,none⟩=false:=Y143;clear hown ht5 hat hbx5 hlb5 hg5 hcl))
    all_goals
     go_wp2_with fail;go_meet;have hfin:=fun W hW=>vN (w:=wr) (lv:=.slice none 0 0) (W:=W) HYA.out HN.out ((HL.out.under HBT.out)) (fun b hb=>⟨(HD.out b hb).1,by obtain ⟨cur,hc⟩:=(HD.out b hb).2;exact ⟨cur,(HBT.out.block b (aA hc)).trans hc⟩⟩) HOWN.out HT5.out HAT.out ng1 hW
     first
     | exact ⟨g5,c5,_,(hfin _ (.inl rfl)).1,(Turns.of_below HBT.out).trans (hfin _ (.inl rfl)).2⟩
     | exact ⟨g5,c5,_,(hfin _ (.inr rfl)).1,(Turns.of_below HBT.out).trans (hfin _ (.inr rfl)).2⟩
   case rest=>
    obtain ⟨g5,c5,D',hcy,htu⟩:=hcut
    rename World=>wx
    have x4:wx.cell? ⟨cb,4,none⟩=some (.slice (some ⟨g5,0,none⟩) (k+1) c5):=by rw [hcy.cell];rfl
    have HC:=J hcy;have HT:=J htu;have hw1:wrap64 ((k:Int)+1-1)=(k:Int):=Y67;clear hcy htu k4 kf4 x4a k4a;go_wp2_with fail;go_ret;rw [HPO.out];exact ⟨cI (by first | rfl | omega | simp),⟨_,_,_,HC.out⟩,HT.out⟩
theorem mH {w0 w:World} {P:Nat→Prop} {cb:Nat} {m:MK} {s:CSt} (h:CX w0 P w cb m s) (t:ByteArray) (ht:t.size≤bL) (hle:s.lits.length≤100000):Calls Tryz.prog 60 #[.pointer (some ⟨cb,0,none⟩),.string t] w fun e w'=>e= .returned (.int .i64 ((fO s t).1:Int))∧CT w0 P w w' cb m (fO s t).2:=by
 obtain ⟨lv,cv,nv,D,ps,hy,hfw⟩:=h;have hli:=gA hy (l:=.node 3 t 0 []) (q:=⟨none,0⟩) (Dl:=fun _=>False) (IsLt.leaf _ _ ⟨by decide,by decide⟩ ⟨by decide,by decide⟩ ht) (fun k z=>z.elim) hle;have hk:=eG s (.node 3 t 0 []);have HK:=J hk;have HL:=J hli;have HFW:=J hfw
 show Calls Tryz.prog 60 #[.pointer (some ⟨cb,0,none⟩),.string t] w fun e w'=>e= .returned (.int .i64 ((bS s (.node 3 t 0 [])).1:Int))∧CT w0 P w w' cb m (bS s (.node 3 t 0 [])).2
 unfold ltV at HL;simp only [LitT.kind_,LitT.text_,LitT.num_,LitT.kids_,List.length_nil] at HL;clear hli hy hfw hk;go_enter Tryz.func60,Tryz.ntmps60;go_wp2_with (go_at_call 37;(with_reducible refine HL.out.mono ?_);rintro e w3 ⟨rfl,hcy,htu⟩;have HC:=J (And.intro hcy htu);clear hcy htu);go_ret;obtain ⟨⟨lv',D',ps',hc⟩,htu⟩:=HC.out;exact ⟨rfl,⟨lv',cv,nv,D',ps',hc,by rw [HK.out.2.1,HK.out.1];exact HFW.out⟩,htu⟩
theorem iP {w0 ws w1 w:World} {P:Nat→Prop} {cb:Nat} {m:MK} {s:CSt} (h:CT w0 P ws w1 cb m s) (hb:Below w1.heap.size w1 w) (t:ByteArray) (ht:t.size≤bL) (hle:s.lits.length≤100000):Calls Tryz.prog 60 #[.pointer (some ⟨cb,0,none⟩),.string t] w fun e w'=>e= .returned (.int .i64 ((fO s t).1:Int))∧CT w0 P ws w' cb m ((fO s t).2):=by
 have h2:=h.below hb;refine (mH h2.1 t ht hle).mono ?_;rintro e w' ⟨he,hc⟩;exact ⟨he,h2.go hc⟩
theorem kD {w0 w:World} {P:Nat→Prop} {cb:Nat} {m:MK} {s:CSt} (h:CX w0 P w cb m s) (n:ByteArray) (hn:n.size≤bL) (hf:s.code.length≤1000000) (hle:s.lits.length≤100000):Calls Tryz.prog 38 #[.pointer (some ⟨cb,0,none⟩),.string n] w fun e w'=>e= .returned (.tuple #[])∧CT w0 P w w' cb m (gY s n):=by
 have HT:=J h.ct;have HC:=J hf;have HL:=J hle;clear h hf hle
 cases q0:n.toList==[115,101,108,102] with
 | true=>
  have HV:Hid (gY s n=aB s 1 0 0):=J (by unfold gY gG;rw [if_neg (show ¬n.toList=cG from fun z=>by rw [z] at q0;cases q0),if_pos (show n.toList=eE from beq_iff_eq.1 q0)]);have HNZ:=J hn;clear hn;go_enter Tryz.func38,Tryz.ntmps38;go_wp2_with (first | (go_at_call 19;(with_reducible refine (bG HT.out bel 1 0 0 HC.out).mono ?_);rintro e w3 ⟨rfl,HX⟩;replace HX:=J HX));go_returns;rw [HV.out];exact ⟨rfl,HX.out⟩
 | false=>
  cases q1:n.toList==[110,105,108] with
  | true=>
   have HV:Hid (gY s n=aB s 2 0 0):=J (by unfold gY gG;rw [if_neg (show ¬n.toList=cG from fun z=>by rw [z] at q1;cases q1),if_neg (show ¬n.toList=eE from aW q0),if_pos (show n.toList=gS from beq_iff_eq.1 q1)]);have HNZ:=J hn;clear hn;go_enter Tryz.func38,Tryz.ntmps38;go_wp2_with (first | (go_at_call 19;(with_reducible refine (bG HT.out bel 2 0 0 HC.out).mono ?_);rintro e w3 ⟨rfl,HX⟩;replace HX:=J HX));go_returns;rw [HV.out];exact ⟨rfl,HX.out⟩
  | false=>
   cases q2:n.toList==[116,114,117,101] with
   | true=>
    have HV:Hid (gY s n=aB s 3 0 0):=J (by unfold gY gG;rw [if_neg (show ¬n.toList=cG from fun z=>by rw [z] at q2;cases q2),if_neg (show ¬n.toList=eE from aW q0),if_neg (show ¬n.toList=gS from aW q1),if_pos (show n.toList=eZ from beq_iff_eq.1 q2)]);have HNZ:=J hn;clear hn;go_enter Tryz.func38,Tryz.ntmps38;go_wp2_with (first | (go_at_call 19;(with_reducible refine (bG HT.out bel 3 0 0 HC.out).mono ?_);rintro e w3 ⟨rfl,HX⟩;replace HX:=J HX));go_returns;rw [HV.out];exact ⟨rfl,HX.out⟩
   | false=>
    cases q3:n.toList==[102,97,108,115,101] with
    | true=>
     have HV:Hid (gY s n=aB s 4 0 0):=J (by unfold gY gG;rw [if_neg (show ¬n.toList=cG from fun z=>by rw [z] at q3;cases q3),if_neg (show ¬n.toList=eE from aW q0),if_neg (show ¬n.toList=gS from aW q1),if_neg (show ¬n.toList=eZ from aW q2),if_pos (show n.toList=dU from beq_iff_eq.1 q3)]);have HNZ:=J hn;clear hn;go_enter Tryz.func38,Tryz.ntmps38;go_wp2_with (first | (go_at_call 19;(with_reducible refine (bG HT.out bel 4 0 0 HC.out).mono ?_);rintro e w3 ⟨rfl,HX⟩;replace HX:=J HX));go_returns;rw [HV.out];exact ⟨rfl,HX.out⟩
    | false=>
     cases q4:n.toList==[116,104,105,115,67,111,110,116,101,120,116] with
     | true=>
      have HV:Hid (gY s n=aB s 5 0 0):=J (by unfold gY gG;rw [if_neg (show ¬n.toList=cG from fun z=>by rw [z] at q4;cases q4),if_neg (show ¬n.toList=eE from aW q0),if_neg (show ¬n.toList=gS from aW q1),if_neg (show ¬n.toList=eZ from aW q2),if_neg (show ¬n.toList=dU from aW q3),if_pos (show n.toList=cL from beq_iff_eq.1 q4)]);have HNZ:=J hn;clear hn;go_enter Tryz.func38,Tryz.ntmps38;go_wp2_with (first | (go_at_call 19;(with_reducible refine (bG HT.out bel 5 0 0 HC.out).mono ?_);rintro e w3 ⟨rfl,HX⟩;replace HX:=J HX));go_returns;rw [HV.out];exact ⟨rfl,HX.out⟩
     | false=>
      cases q5:n.toList==[115,117,112,101,114] with
      | true=>
       have HV:Hid (gY s n=aG s n 15):=J (by unfold gY;rw [if_pos (show n.toList=cG from beq_iff_eq.1 q5)]);have HNZ:=J hn;clear hn;go_enter Tryz.func38,Tryz.ntmps38;go_wp2_with (first | (go_at_call 35;(with_reducible refine (cO HT.out bel n HNZ.out 15).mono ?_);rintro e w3 ⟨rfl,HX⟩;replace HX:=J HX));go_returns;rw [HV.out];exact ⟨rfl,HX.out⟩
      | false=>
       have hnk:∀k,cE s.names n=some k→1≤k.kind∧k.kind≤3:=fun k hk=>by
        obtain ⟨lv,cv,nv,D,ps,hy,_⟩:=HT.out.1;exact (hy.nok k (List.mem_of_find?_eq_some hk)).2.2
       obtain ⟨o,ho⟩:=aE (cE s.names n);have HO:=J ho;rw [ho] at hnk
       cases o with
       | some k=>
        obtain ⟨hk1,hk3⟩:=hnk k rfl;obtain ⟨kn,kk,ka⟩:=k;dsimp only at hk1 hk3
        by_cases e1:kk=1
        ·have HV:Hid (gY s n=aB s 8 ka 0):=J (by unfold gY gG;rw [if_neg (show ¬n.toList=cG from aW q5),if_neg (show ¬n.toList=eE from aW q0),if_neg (show ¬n.toList=gS from aW q1),if_neg (show ¬n.toList=eZ from aW q2),if_neg (show ¬n.toList=dU from aW q3),if_neg (show ¬n.toList=cL from aW q4),if_neg (show ¬n.toList=cG from aW q5)];dsimp only;rw [HO.out];dsimp only;rw [if_pos e1]);subst e1;clear hnk ho hn;go_enter Tryz.func38,Tryz.ntmps38;go_wp2_with (first | (go_at_call 33;(with_reducible refine (bJ (HT.out.1.below bel) n).mono ?_);rw [HO.out];dsimp only [gR];rintro e w2 ⟨rfl,hb2⟩;have HT2:=J (HT.out.below ((bz w).trans (hb2.mono (bz w).size)));clear hb2) | (go_at_call 19;(with_reducible refine (bG HT2.out bel 8 ka 0 HC.out).mono ?_);rintro e w3 ⟨rfl,HX⟩;replace HX:=J HX));go_returns;rw [HV.out];exact ⟨rfl,HX.out⟩
        ·have HV:Hid (gY s n=aB s 7 ka 0):=J (by unfold gY gG;rw [if_neg (show ¬n.toList=cG from aW q5),if_neg (show ¬n.toList=eE from aW q0),if_neg (show ¬n.toList=gS from aW q1),if_neg (show ¬n.toList=eZ from aW q2),if_neg (show ¬n.toList=dU from aW q3),if_neg (show ¬n.toList=cL from aW q4),if_neg (show ¬n.toList=cG from aW q5)];dsimp only;rw [HO.out];dsimp only;rw [if_neg e1]);have d1:(kk==1)=false:=Y29;have d2:(kk != 0)=true:=Y4;have d3:(kk==0)=false:=Y4;clear hnk ho hn e1;go_enter Tryz.func38,Tryz.ntmps38;go_wp2_with (first | (go_at_call 33;(with_reducible refine (bJ (HT.out.1.below bel) n).mono ?_);rw [HO.out];dsimp only [gR];rintro e w2 ⟨rfl,hb2⟩;have HT2:=J (HT.out.below ((bz w).trans (hb2.mono (bz w).size)));clear hb2) | (go_at_call 19;(with_reducible refine (bG HT2.out bel 7 ka 0 HC.out).mono ?_);rintro e w3 ⟨rfl,HX⟩;replace HX:=J HX));go_returns;rw [HV.out];exact ⟨rfl,HX.out⟩
       | none=>
        cases hc:fA n with
        | true=>
         have HV:Hid (gY s n=aB (fO s n).2 9 (fO s n).1 0):=J (by unfold gY gG;rw [if_neg (show ¬n.toList=cG from aW q5),if_neg (show ¬n.toList=eE from aW q0),if_neg (show ¬n.toList=gS from aW q1),if_neg (show ¬n.toList=eZ from aW q2),if_neg (show ¬n.toList=dU from aW q3),if_neg (show ¬n.toList=cL from aW q4),if_neg (show ¬n.toList=cG from aW q5)];dsimp only;rw [HO.out];dsimp only;rw [hc,if_pos rfl]);have hcl:=eM n hn;rw [hc] at hcl;have HCL:=J hcl;have HNZ:=J hn;have HCS:Hid ((fO s n).2.code.length≤1000000):=J (by rw [show (fO s n).2.code=s.code from (eG s _).2.2.1];exact HC.out);clear hnk ho hc hcl hn;go_enter Tryz.func38,Tryz.ntmps38;go_wp2_with (first | (go_at_call 33;(with_reducible refine (bJ (HT.out.1.below bel) n).mono ?_);rw [HO.out];dsimp only [gR];rintro e w2 ⟨rfl,hb2⟩;have HT2:=J (HT.out.below ((bz w).trans (hb2.mono (bz w).size)));clear hb2) | (go_at_call 59;(with_reducible refine (HCL.out _).mono ?_);rintro e w4 ⟨rfl,hw4⟩;replace hw4:=hw4.symm;subst hw4) | (go_at_call 60;(with_reducible refine (iP HT2.out bel n HNZ.out HL.out).mono ?_);rintro e w5 ⟨rfl,HT5⟩;replace HT5:=J HT5) | (go_at_call 19;(with_reducible refine (bG HT5.out bel 9 _ 0 HCS.out).mono ?_);rintro e w6 ⟨rfl,HX⟩;replace HX:=J HX));go_returns;rw [HV.out];exact ⟨rfl,HX.out⟩
        | false=>
         have HV:Hid (gY s n=aG s n 15):=J (by unfold gY gG;rw [if_neg (show ¬n.toList=cG from aW q5),if_neg (show ¬n.toList=eE from aW q0),if_neg (show ¬n.toList=gS from aW q1),if_neg (show ¬n.toList=eZ from aW q2),if_neg (show ¬n.toList=dU from aW q3),if_neg (show ¬n.toList=cL from aW q4),if_neg (show ¬n.toList=cG from aW q5)];dsimp only;rw [HO.out];dsimp only;rw [hc];rfl);have hcl:=eM n hn;rw [hc] at hcl;have HCL:=J hcl;have HNZ:=J hn;clear hnk ho hc hcl hn;go_enter Tryz.func38,Tryz.ntmps38;go_wp2_with (first | (go_at_call 33;(with_reducible refine (bJ (HT.out.1.below bel) n).mono ?_);rw [HO.out];dsimp only [gR];rintro e w2 ⟨rfl,hb2⟩;have HT2:=J (HT.out.below ((bz w).trans (hb2.mono (bz w).size)));clear hb2) | (go_at_call 59;(with_reducible refine (HCL.out _).mono ?_);rintro e w4 ⟨rfl,hw4⟩;replace hw4:=hw4.symm;subst hw4) | (go_at_call 35;(with_reducible refine (cO HT2.out bel n HNZ.out 15).mono ?_);rintro e w3 ⟨rfl,HX⟩;replace HX:=J HX));go_returns;rw [HV.out];exact ⟨rfl,HX.out⟩
theorem kX {w0 ws w1 w:World} {P:Nat→Prop} {cb:Nat} {m:MK} {s:CSt} (h:CT w0 P ws w1 cb m s) (hb:Below w1.heap.size w1 w) (n:ByteArray) (hn:n.size≤bL) (hf:s.code.length≤1000000) (hle:s.lits.length≤100000):Calls Tryz.prog 38 #[.pointer (some ⟨cb,0,none⟩),.string n] w fun e w'=>e= .returned (.tuple #[])∧CT w0 P ws w' cb m (gY s n):=by
 have h2:=h.below hb;refine (kD h2.1 n hn hf hle).mono ?_;rintro e w' ⟨he,hc⟩;exact ⟨he,h2.go hc⟩
end Go.Proofs.YtnojndgmgkgnpaaGreat.Rf
