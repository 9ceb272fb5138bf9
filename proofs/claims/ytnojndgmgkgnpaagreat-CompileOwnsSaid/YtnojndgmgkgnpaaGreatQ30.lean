/- Chapter 10: words and contracts for the law. -/
import Derived.Test.YtnojndgmgkgnpaaGreatQ21
import Derived.Test.YtnojndgmgkgnpaaGreatQ23
import Derived.Deep.QuietTactic
import Derived.Deep.RegionLaw
import Derived.Test.YtnojndgmgkgnpaaGreatQ10
import Derived.Test.YtnojndgmgkgnpaaGreatQ29
set_option maxRecDepth 100000
set_option maxHeartbeats 40000000
set_option linter.unusedVariables false
set_option linter.unusedSimpArgs false
namespace Go.Proofs.YtnojndgmgkgnpaaGreat
open Go.ChangeShapes Go.WideShapes Go.ChangeAt Go.RowKit Go.Deep Go.Joins Go.Maps
def cut5 (s:ByteArray):ByteArray:=if 500<s.size then s.extract 0 500 else s
theorem cut_le (s:ByteArray):(cut5 s).size≤500:=by
 unfold cut5
 split
 ·simp;omega
 ·omega
theorem vW (s:ByteArray) (m:Bool) (h:s.size≤500):(eC s m).1.size≤100000:=by
 have h0:nd0.size=1:=by rw [NodT.size_kids];rfl
 unfold eC;rw [if_neg I]
 cases hT:Lx.toksV s.data.toList with
 | err a e=>show nd0.size≤_;omega
 | ok T=>
  obtain ⟨hok,hl⟩:=TokOk.of I hT
  show (kW T m).1.size≤100000
  unfold kW;dsimp only;obtain ⟨⟨ht,hn,hu,hs⟩,hh⟩:=aE ((if m=true then kQ T ⟨0,0,0,0⟩ else (mV,[],0,⟨0,0,0,0⟩)));have h1:=(wW hok _ m hh (Nat.zero_le _)).2.2.2;rw [hh];dsimp only;have h2:=(nG hok.at0 hs).top h1;obtain ⟨h3,h4⟩:=(fY hok.at0 (oA T)).stmts (fB T hs).2;have h5:=h3.top h2
  split
  ·show nd0.size≤_;omega
  ·rw [NodT.size_kids]
   show 1+NodT.sizes ((rcF T (oA T)).stmts (fB T hs).2).1≤100000
   omega
abbrev bY:ByteArray:=⟨#[121]⟩
theorem xG {n:Int} {u:Bool} (h:gZ n u=true):0≤n∧n≤255:=by
 unfold gZ at h
 cases u <;> simp at h <;> omega
theorem may_in {i:Ins} (h:fD i=true):(1≤i.op∧i.op≤20)∧(0≤i.a∧i.a≤255)∧0≤i.b∧i.b≤255:=by
 unfold fD at h;simp only [Bool.and_eq_true,decide_eq_true_eq] at h;exact ⟨h.1.1,xG h.1.2,xG h.2⟩
theorem qA {w:World} {D D':Nat→Prop} {p p':Option Addr} {n c c':Nat} {l:List ByteArray} (h:Strs w D p l) (h':Strs w D' p' l) (hl:l.length=n) (hn:n≤9223372036854775807):∀w1,Below w.heap.size w w1→Calls Tryz.prog 28 #[.slice p n c,.slice p' n c'] w1 fun e w'=>e= .returned (.bool true)∧Below w1.heap.size w1 w':=by
 intro w1 hb;have HA:=J (h.same hb.size (fun b _ hl=>hb.block b hl) (fun _ z=>z));have HB:=J (h'.same hb.size (fun b _ hl=>hb.block b hl) (fun _ z=>z));have HL:=J hl;clear h h' hl hb;go_enter Tryz.func28,Tryz.ntmps28;go_wp2_with fail
 go_loopw [5] (fun i wr=>∃k:Nat,i= .int .i64 k∧k≤n∧Below w1.heap.size w1 wr) (fun i _=>n-(intOf i).toNat)
 case atStart=>exact ⟨0,rfl,Nat.zero_le _,Below.refl _ _⟩
 case round=>
  obtain ⟨k,rfl,hk,hbr⟩:=hrel;have HBR:=J hbr
  by_cases hlt:k<n
  ·have d1:=aD hlt;have d2:=aT hlt;have hln:k<l.length:=Y48;obtain ⟨b,off,rfl,hbl,_,hc,hz1⟩:=HA.out k hln;obtain ⟨b',off',rfl,hbl',_,hc',hz2⟩:=HB.out k hln;obtain ⟨s,hs⟩:=aE (l[k]);rw [hs] at hc hc';have e1:wr.cell? ⟨b,off+k,none⟩=some (.string s):=(World.cell?_of_block (hbr.block b hbl)).trans hc;have e2:wr.cell? ⟨b',off'+k,none⟩=some (.string s):=(World.cell?_of_block (hbr.block b' hbl')).trans hc';have hb1:b<wr.heap.size:=aN hbl hbr.size;have hb2:b'<wr.heap.size:=aN hbl' hbr.size;have g0:(0:Int)≤(k:Int):=I;have g1:(k:Int)<(n:Int):=I;clear hs hz1 hz2 hc hc' hbr hln;go_wp2_with fail
   go_quiet (fail)
   go_wp2;go_roundw
   case rel=>exact ⟨k+1,by go_num,hlt,bM HBR.out _⟩
   case measure=>simp [intOf];omega
  ·have hkn:k=n:=I;have d1:=aK hlt;have d2:=aF hlt;clear hlt hbr;subst hkn;go_wp2_with fail;go_ret;exact ⟨rfl,HBR.out⟩
theorem yY {w:World} {D:Nat→Prop} {x:NodT} {q:NS} (h:IsNd w D x q):∀(D':Nat→Prop) (r:NS),IsNd w D' x r→∀w1,Below w.heap.size w w1→Calls Tryz.prog 12 #[ndV x q,ndV x r] w1 fun e w'=>e= .returned (.bool true)∧Below w1.heap.size w1 w':=by
 induction h with
 | node x q Q h1 h2 h3 h4 h5 ih=>
 intro D' r h' w1 hb;have hR:∃R:Nat→NS,(∀i (h:i<x.kids.length),∃b off,r.pk=some ⟨b,off,none⟩∧b<w.heap.size∧D' b∧Cells6 w b (off+i*6) x.kids[i] (R i))∧∀i (h:i<x.kids.length),IsNd w D' x.kids[i] (R i):=by
  cases h' with
  | node x r R k1 k2 k3 k4 k5=>exact ⟨R,k4,k5⟩
 obtain ⟨R,k4,k5⟩:=hR;have HNM0:Hid (∀W,Below w1.heap.size w1 W→Calls Tryz.prog 28 #[.slice q.pn x.names.length q.cn,.slice r.pn x.names.length r.cn] W fun e w'=>e= .returned (.bool true)∧Below W.heap.size W w'):=J (fun W hW=>qA h2 h'.strs.1 rfl (by have:=h1.nlen;unfold maxLen at this;omega) W (hb.trans (hW.mono hb.size)));have HTM0:Hid (∀W,Below w1.heap.size w1 W→Calls Tryz.prog 28 #[.slice q.pt x.temps.length q.ct,.slice r.pt x.temps.length r.ct] W fun e w'=>e= .returned (.bool true)∧Below W.heap.size W w'):=J (fun W hW=>qA h3 h'.strs.2 rfl (by have:=h1.tlen;unfold maxLen at this;omega) W (hb.trans (hW.mono hb.size)));have HIH:Hid (∀i (h:i<x.kids.length),∀w2,Below w1.heap.size w1 w2→Calls Tryz.prog 12 #[ndV x.kids[i] (Q i),ndV x.kids[i] (R i)] w2 fun e w'=>e= .returned (.bool true)∧Below w2.heap.size w2 w'):=J (fun i h w2 hb2=>ih i h D' (R i) (k5 i h) w2 (hb.trans (hb2.mono hb.size)));have HK:Hid (∀i (h:i<x.kids.length),∃b off,q.pk=some ⟨b,off,none⟩∧b<w1.heap.size∧Cells6 w1 b (off+i*6) x.kids[i] (Q i)):=J (fun i hi=>by
  obtain ⟨b,off,e,k1,k2,k3⟩:=h4 i hi;exact ⟨b,off,e,aN k1 hb.size,k3.same (hb.block b k1)⟩)
 have HK':Hid (∀i (h:i<x.kids.length),∃b off,r.pk=some ⟨b,off,none⟩∧b<w1.heap.size∧Cells6 w1 b (off+i*6) x.kids[i] (R i)):=J (fun i hi=>by
  obtain ⟨b,off,e,k1,k2,k3⟩:=k4 i hi;exact ⟨b,off,e,aN k1 hb.size,k3.same (hb.block b k1)⟩)
 have hkl:=h1.klen;have hkm:x.kids.length≤9223372036854775807:=by unfold maxLen at*;omega
 have hnm:x.names.length≤9223372036854775807:=by have:=h1.nlen;unfold maxLen at this;omega
 have htm:x.temps.length≤9223372036854775807:=by have:=h1.tlen;unfold maxLen at this;omega
 unfold ndV;obtain ⟨nn,hnn⟩:=aE x.names.length;obtain ⟨nt,hnt⟩:=aE x.temps.length;obtain ⟨nk,hnk⟩:=aE x.kids.length;obtain ⟨xk,hxk⟩:=aE x.kind;obtain ⟨xt,hxt⟩:=aE x.text;obtain ⟨xn,hxn⟩:=aE x.num;have HNK:=J hnk;obtain ⟨pk,hpk⟩:=aE q.pk;obtain ⟨pl,hpl⟩:=aE r.pk;rw [hpk] at HK ⊢;rw [hpl] at HK' ⊢;rw [hnn] at HNM0 hnm;rw [hnt] at HTM0 htm;rw [hnk] at hkm;rw [hnn,hnt,hnk,hxk,hxt,hxn];clear h1 h2 h3 h4 h5 ih h' k4 k5 hkl hnn hnt hnk hxk hxt hxn hb hpk hpl;have hbw:Below w1.heap.size w1 ((w1.alloc (.cells #[.int .i64 xk,.string xt,.int .i64 xn,.slice q.pn nn q.cn,.slice q.pt nt q.ct,.slice pk nk q.ck] 25)).alloc (.cells #[.int .i64 xk,.string xt,.int .i64 xn,.slice r.pn nn r.cn,.slice r.pt nt r.ct,.slice pl nk r.ck] 25)):=bel;have g1:=heap_alloc_new w1 (.cells #[.int .i64 xk,.string xt,.int .i64 xn,.slice q.pn nn q.cn,.slice q.pt nt q.ct,.slice pk nk q.ck] 25);have g2:=heap_alloc_new (w1.alloc (.cells #[.int .i64 xk,.string xt,.int .i64 xn,.slice q.pn nn q.cn,.slice q.pt nt q.ct,.slice pk nk q.ck] 25)) (.cells #[.int .i64 xk,.string xt,.int .i64 xn,.slice r.pn nn r.cn,.slice r.pt nt r.ct,.slice pl nk r.ck] 25);rw [World.size_alloc] at g2;have g1':((w1.alloc (.cells #[.int .i64 xk,.string xt,.int .i64 xn,.slice q.pn nn q.cn,.slice q.pt nt q.ct,.slice pk nk q.ck] 25)).alloc (.cells #[.int .i64 xk,.string xt,.int .i64 xn,.slice r.pn nn r.cn,.slice r.pt nt r.ct,.slice pl nk r.ck] 25)).heap[w1.heap.size]? =some (.cells #[.int .i64 xk,.string xt,.int .i64 xn,.slice q.pn nn q.cn,.slice q.pt nt q.ct,.slice pk nk q.ck] 25 (0,0)):=((ba).block _ (aA g1)).trans g1;have HBW:=J hbw;have HBA:=J g1';have HBB:=J g2;clear hbw g1 g1' g2;go_enter Tryz.func12,Tryz.ntmps12
 go_upto_region 1 with fail
 obtain ⟨W,hW⟩:∃W,((w1.alloc (.cells #[.int .i64 xk,.string xt,.int .i64 xn,.slice q.pn nn q.cn,.slice q.pt nt q.ct,.slice pk nk q.ck] 25)).alloc (.cells #[.int .i64 xk,.string xt,.int .i64 xn,.slice r.pn nn r.cn,.slice r.pt nt r.ct,.slice pl nk r.ck] 25))=W:=⟨_,rfl⟩;rw [hW] at HBW HBA HBB ⊢;have HNM:Hid (∀W',Below W.heap.size W W'→Calls Tryz.prog 28 #[.slice q.pn nn q.cn,.slice r.pn nn r.cn] W' fun e w'=>e= .returned (.bool true)∧Below W'.heap.size W' w'):=J (fun W' h=>HNM0.out W' (HBW.out.trans (h.mono HBW.out.size)));have HTM:Hid (∀W',Below W.heap.size W W'→Calls Tryz.prog 28 #[.slice q.pt nt q.ct,.slice r.pt nt r.ct] W' fun e w'=>e= .returned (.bool true)∧Below W'.heap.size W' w'):=J (fun W' h=>HTM0.out W' (HBW.out.trans (h.mono HBW.out.size)));clear hW HNM0 HTM0;obtain ⟨a0,a1,a2,a3,a4,a5⟩:=cc6 (HBA.out);obtain ⟨b0,b1,b2,b3,b4,b5⟩:=cc6 (HBB.out)
 go_upto_region 2 with (first | (go_at_call 28;(with_reducible refine (HNM.out _ bel).mono ?_);rintro e w3 ⟨rfl,hb3⟩;have HW3:Hid (Below W.heap.size W w3):=J ((bz W).trans (hb3.mono (bz W).size));have ha9:=(HW3.out.block _ (aA HBA.out)).trans HBA.out;have hb9:=(HW3.out.block _ (aA HBB.out)).trans HBB.out;obtain ⟨x0,x1,x2,x3,x4,x5⟩:=cc6 (ha9);obtain ⟨y0,y1,y2,y3,y4,y5⟩:=cc6 (hb9);clear hb3 ha9 hb9 a0 a1 a2 a3 a4 a5 b0 b1 b2 b3 b4 b5))
 have hw3:=HW3.out
 go_upto_region 3 with (first | (go_at_call 28;(with_reducible refine (HTM.out _ HW3.out).mono ?_);rintro e w4 ⟨rfl,hb3⟩;have HW4:Hid (Below W.heap.size W w4):=J ((bz W).trans (hb3.mono (bz W).size));have ha9:=(HW4.out.block _ (aA HBA.out)).trans HBA.out;have hb9:=(HW4.out.block _ (aA HBB.out)).trans HBB.out;obtain ⟨z0,z1,z2,z3,z4,z5⟩:=cc6 (ha9);obtain ⟨v0,v1,v2,v3,v4,v5⟩:=cc6 (hb9);clear hb3 ha9 hb9 x0 x1 x2 x3 x4 x5 y0 y1 y2 y3 y4 y5))
 have HB3:Hid (Below W.heap.size W w4):=HW4;clear hw3;go_wp2_with fail
 go_loopw [7] (fun i wr=>∃k:Nat,i= .int .i64 k∧k≤nk∧Below W.heap.size W wr) (fun i _=>nk-(intOf i).toNat)
 case atStart=>exact ⟨0,rfl,Nat.zero_le _,HB3.out⟩
 case round=>
  obtain ⟨k,rfl,hk,hbr⟩:=hrel;have HBR:=J hbr;have ha9:=(hbr.block _ (aA HBA.out)).trans HBA.out;have hb9:=(hbr.block _ (aA HBB.out)).trans HBB.out;clear z0 z1 z2 z3 z4 z5 v0 v1 v2 v3 v4 v5 hbr;obtain ⟨a0,a1,a2,a3,a4,a5⟩:=cc6 (ha9);obtain ⟨b0,b1,b2,b3,b4,b5⟩:=cc6 (hb9);clear ha9 hb9
  by_cases hlt:k<nk
  ·have d1:=aD hlt;have d2:=aT hlt;have hkl:k<x.kids.length:=by have:=HNK.out;omega
   obtain ⟨y,hy⟩:=aE (x.kids[k]);obtain ⟨b1,off1,hp1,hl1,hc1⟩:=HK.out k hkl;have hd1:=hc1.same ((HBW.out.trans (HBR.out.mono HBW.out.size)).block b1 hl1);obtain ⟨q1,hq1⟩:=aE (Q k);rw [hy,hq1] at hd1;obtain ⟨e10,e11,e12,e13,e14,e15⟩:=hd1;have hs1:b1<wr.heap.size:=aN hl1 (HBW.out.trans (HBR.out.mono HBW.out.size)).size;obtain ⟨b2,off2,hp2,hl2,hc2⟩:=HK'.out k hkl;have hd2:=hc2.same ((HBW.out.trans (HBR.out.mono HBW.out.size)).block b2 hl2);obtain ⟨q2,hq2⟩:=aE (R k);rw [hy,hq2] at hd2;obtain ⟨e20,e21,e22,e23,e24,e25⟩:=hd2;have hs2:b2<wr.heap.size:=aN hl2 (HBW.out.trans (HBR.out.mono HBW.out.size)).size;have hih:=HIH.out k hkl;rw [hy,hq1,hq2] at hih;have hW:∀W',Below wr.heap.size wr W'→Calls Tryz.prog 12 #[ndV y q1,ndV y q2] W' fun e w'=>e= .returned (.bool true)∧Below W.heap.size W w':=fun W' hW=>by
    have hb:=HBR.out.trans (hW.mono HBR.out.size);exact (hih W' (HBW.out.trans (hb.mono HBW.out.size))).mono (fun e w' ⟨he,hb2⟩=>⟨he,hb.trans (hb2.mono hb.size)⟩)
   unfold ndV at hW;have HW:=J hW;subst hp1;subst hp2;have g0:(0:Int)≤(k:Int):=I;have g1:(k:Int)<(nk:Int):=I;clear hW hih hy hq1 hq2 hl1 hl2 hc1 hc2 hkl
   go_upto_region 8 with fail
   go_region_law (first | (go_simp;go_at_call 12;(with_reducible refine (HW.out _ bel).mono ?_);rintro e w5 ⟨rfl,HB5⟩;replace HB5:=J HB5))
   all_goals
    go_wp2_with fail;go_roundw
    case rel=>exact ⟨k+1,by go_num,hlt,HB5.out⟩
    case measure=>simp [intOf];omega
  ·have hkn:k=nk:=I;have d1:=aK hlt;have d2:=aF hlt;clear hlt;subst hkn;go_wp2_with fail;go_ret;exact ⟨rfl,HBW.out.trans (HBR.out.mono HBW.out.size)⟩
theorem sets4 {w:World} {b:Nat} {cur:Array Value} {t:TypeId} (h:w.heap[b]? =some (.cells cur t (0,0))) (o:Nat) (v0 v1 v2 v3:Value):∃c2,((((w.setCell ⟨b,o,none⟩ v0).setCell ⟨b,o+1,none⟩ v1).setCell ⟨b,o+2,none⟩ v2).setCell ⟨b,o+3,none⟩ v3).heap[b]? =some (.cells c2 t (0,0))∧c2.size=cur.size:=by
 have h1:=heap_setCell_same w b o _ _ v0 h;have h2:=heap_setCell_same _ b (o+1) _ _ v1 h1;have h3:=heap_setCell_same _ b (o+2) _ _ v2 h2;have h4:=heap_setCell_same _ b (o+3) _ _ v3 h3;exact ⟨_,h4,by simp⟩
theorem sC {T:Nat→Prop} {w w':World} (h:Turns T w w') {b:Nat} (hb:T b) (o:Nat) (v0 v1 v2 v3:Value):Turns T w ((((w'.setCell ⟨b,o,none⟩ v0).setCell ⟨b,o+1,none⟩ v1).setCell ⟨b,o+2,none⟩ v2).setCell ⟨b,o+3,none⟩ v3):=
 (((h.setCell ⟨b,o,none⟩ v0 (.inl hb)).setCell ⟨b,o+1,none⟩ v1 (.inl hb)).setCell ⟨b,o+2,none⟩ v2 (.inl hb)).setCell ⟨b,o+3,none⟩ v3 (.inl hb)
theorem turns3 {T:Nat→Prop} {w w':World} (h:Turns T w w') {b:Nat} (hb:T b) (o:Nat) (v0 v1 v2:Value):Turns T w (((w'.setCell ⟨b,o,none⟩ v0).setCell ⟨b,o+1,none⟩ v1).setCell ⟨b,o+2,none⟩ v2):=
 ((h.setCell ⟨b,o,none⟩ v0 (.inl hb)).setCell ⟨b,o+1,none⟩ v1 (.inl hb)).setCell ⟨b,o+2,none⟩ v2 (.inl hb)
structure Four (w:World) (b o:Nat):Prop where
 c:∃u0 u1 u2 u3,w.cell? ⟨b,o,none⟩=some u0∧w.cell? ⟨b,o+1,none⟩=some u1∧w.cell? ⟨b,o+2,none⟩=some u2∧w.cell? ⟨b,o+3,none⟩=some u3
 f:w.frozen? ⟨b,o,none⟩=false∧w.frozen? ⟨b,o+1,none⟩=false∧w.frozen? ⟨b,o+2,none⟩=false∧w.frozen? ⟨b,o+3,none⟩=false
 lt:b<w.heap.size
theorem Four.of {w:World} {b o:Nat} {cur:Array Value} {t:TypeId} (h:w.heap[b]? =some (.cells cur t (0,0))) (ho:o+4≤cur.size):Four w b o:=by
 have c:∀j,j<cur.size→∃u,w.cell? ⟨b,j,none⟩=some u:=fun j hj=>⟨cur[j],by simp [World.cell?,h,hj]⟩
 have f:∀j,w.frozen? ⟨b,j,none⟩=false:=fun j=>by simp [World.frozen?,h]
 obtain ⟨u0,h0⟩:=c o I;obtain ⟨u1,h1⟩:=c (o+1) I;obtain ⟨u2,h2⟩:=c (o+2) I;obtain ⟨u3,h3⟩:=c (o+3) I;exact ⟨⟨u0,u1,u2,u3,h0,h1,h2,h3⟩,⟨f _,f _,f _,f _⟩,aA h⟩
def KidsOk (w:World) (D:Nat→Prop) (p:LP):Prop:=∀i,i<p.1.kids_.length→∃b cur,p.2.p=some ⟨b,0,none⟩∧w.heap[b]? =some (.cells cur 44 (0,0))∧D b∧i*4+4≤cur.size
theorem IsLt.kidsOk {w:World} {D:Nat→Prop} {x:LitT} {q:LS} (h:IsLt w D x q):KidsOk w D (x,q):=fun i hi=>by
 obtain ⟨b,cur,q',e,hb,hD,hc,_⟩:=h.kid hi;have h3:=hc.c3;rw [World.cell?] at h3;simp only [hb] at h3;have h4:i*4+3<cur.size:=by
  rcases Nat.lt_or_ge (i*4+3) cur.size with z | z
  ·exact z
  ·rw [Array.getElem?_eq_none z] at h3
   cases h3
 exact ⟨b,cur,e,hb,hD,by omega⟩
theorem KidsOk.at_ {w:World} {D:Nat→Prop} {p:LP} (h:KidsOk w D p) {i b:Nat} (hi:i<p.1.kids_.length) (e:p.2.p=some ⟨b,0,none⟩):D b∧Four w b (i*4):=by
 obtain ⟨b',cur,e',hb,hD,hs⟩:=h i hi;rw [e] at e'
 cases e'
 exact ⟨hD,.of hb hs⟩
structure ZL (w3:World) (A:Option Addr) (nl cl:Nat) (D:Nat→Prop) (ps:List LP) (k:Nat) (w:World):Prop where
 len:ps.length=nl
 row:∃xs,w.ownsRow 0 44 4 (.slice A nl cl) nl xs∧∀j,k*4≤j→xs[j]? =(ps.flatMap lpC)[j]?
 kids:∀p,p∈ps→KidsOk w D p
 ts:Turns (fun j=>(Value.slice A nl cl).ownBlock=some j∨D j) w3 w
 apart:∀j,(Value.slice A nl cl).ownBlock=some j→¬D j
section
variable {w3 w:World} {A:Option Addr} {nl cl k:Nat} {D:Nat→Prop} {ps:List LP}
theorem ZL.start (h:LitRow w3 D (.slice A nl cl) ps) (hn:ps.length=nl) (hap:∀j,(Value.slice A nl cl).ownBlock=some j→¬D j):ZL w3 A nl cl D ps 0 w3:=by
 refine ⟨hn,⟨_,by have:=h.own;rw [hn] at this;exact this,fun j _=>rfl⟩,fun p hp=>(h.lits p hp).kidsOk,Turns.refl _ _,hap⟩
theorem ZL.at_ (h:ZL w3 A nl cl D ps k w) (hk:k<nl):∃g,A=some ⟨g,0,none⟩∧Cells4 w g (k*4) (ps[k]'(by rw [h.len];exact hk)).1 (ps[k]'(by rw [h.len];exact hk)).2∧Four w g (k*4):=by
 obtain ⟨xs,ho,hx⟩:=h.row;have hk':k<ps.length:=by rw [h.len];exact hk
 have ho2:=ho
 rcases ho.2 with ⟨_,h0⟩ | ⟨g,cap,cur,hv,hg,hh,h1,h2,h3,h4⟩
 ·omega
 ·cases hv
  have hc:∀j,j<4→w.cell? ⟨g,k*4+j,none⟩=(lpC ps[k])[j]? :=fun j hj=>by
   rw [World.ownsRow.cellAt ho2 (k*4+j) I,hx _ I];exact eY kC ps k j hk' hj
  refine ⟨g,rfl,⟨hc 0 I,hc 1 I,hc 2 I,hc 3 I⟩,.of hh ?_⟩;have c3:=hc 3 I;rw [World.cell?] at c3;simp only [hh] at c3
  rcases Nat.lt_or_ge (k*4+3) cur.size with z | z
  ·omega
  ·rw [Array.getElem?_eq_none z] at c3
   cases c3
theorem ZL.kid (h:ZL w3 A nl cl D ps k w) {p:LP} (hp:p∈ps) {i b:Nat} (hi:i<p.1.kids_.length) (e:p.2.p=some ⟨b,0,none⟩) (v0 v1 v2 v3:Value):ZL w3 A nl cl D ps k ((((w.setCell ⟨b,i*4,none⟩ v0).setCell ⟨b,i*4+1,none⟩ v1).setCell ⟨b,i*4+2,none⟩ v2).setCell ⟨b,i*4+3,none⟩ v3):=by
 obtain ⟨b',cur,e',hb,hD,hs⟩:=h.kids p hp i hi;rw [e] at e'
 cases e'
 obtain ⟨c2,hc2,hsz⟩:=sets4 hb (i*4) v0 v1 v2 v3;have ht:=sC (T:=fun j=>j=b) (Turns.refl _ w) rfl (i*4) v0 v1 v2 v3;have ht2:=sC h.ts (T:=fun j=>(Value.slice A nl cl).ownBlock=some j∨D j) (b:=b) (.inr hD) (i*4) v0 v1 v2 v3;obtain ⟨W,hW⟩:∃W,((((w.setCell ⟨b,i*4,none⟩ v0).setCell ⟨b,i*4+1,none⟩ v1).setCell ⟨b,i*4+2,none⟩ v2).setCell ⟨b,i*4+3,none⟩ v3)=W:=⟨_,rfl⟩;rw [hW] at hc2 ht ht2 ⊢;obtain ⟨xs,ho,hx⟩:=h.row;refine ⟨h.len,⟨xs,aJ ho ht.size (fun j hj=>ht.block j (World.ownsRow.lt ho j hj).2 (fun z=>h.apart j hj (z▸hD))),hx⟩,fun p' hp' i' hi'=>?_,ht2,h.apart⟩;obtain ⟨b2,cur2,e2,hb2,hD2,hs2⟩:=h.kids p' hp' i' hi'
 by_cases z:b2=b
 ·subst z;rw [hb] at hb2
  cases hb2
  exact ⟨b2,c2,e2,hc2,hD2,by rw [hsz];exact hs2⟩
 ·exact ⟨b2,cur2,e2,(ht.block b2 (aA hb2) z).trans hb2,hD2,hs2⟩
theorem ZL.next (h:ZL w3 A nl cl D ps k w) (hk:k<nl) {g:Nat} (e:A=some ⟨g,0,none⟩) (v0 v1 v2 v3:Value):ZL w3 A nl cl D ps (k+1) ((((w.setCell ⟨g,k*4,none⟩ v0).setCell ⟨g,k*4+1,none⟩ v1).setCell ⟨g,k*4+2,none⟩ v2).setCell ⟨g,k*4+3,none⟩ v3):=by
 subst e;have hap:=h.apart g rfl;have ht:=sC (T:=fun j=>j=g) (Turns.refl _ w) rfl (k*4) v0 v1 v2 v3;have ht2:=sC h.ts (T:=fun j=>(Value.slice (some ⟨g,0,none⟩) nl cl).ownBlock=some j∨D j) (b:=g) (.inl rfl) (k*4) v0 v1 v2 v3;obtain ⟨xs,ho,hx⟩:=h.row;have h1:=cJ ho v0 (j:=k*4) I;have h2:=cJ h1 v1 (j:=k*4+1) I;have h3:=cJ h2 v2 (j:=k*4+2) I;have h4:=cJ h3 v3 (j:=k*4+3) I;refine ⟨h.len,⟨_,h4,fun j hj=>?_⟩,fun p' hp' i' hi'=>?_,ht2,h.apart⟩
 ·rw [List.getElem?_set_ne I,List.getElem?_set_ne I,List.getElem?_set_ne I,List.getElem?_set_ne I];exact hx j I
 ·obtain ⟨b2,cur2,e2,hb2,hD2,hs2⟩:=h.kids p' hp' i' hi';exact ⟨b2,cur2,e2,(ht.block b2 (aA hb2) (fun z=>hap (z▸hD2))).trans hb2,hD2,hs2⟩
end
structure ZC (w3:World) (A:Option Addr) (nc cc:Nat) (w:World):Prop where
 row:∃xs,w.ownsRow 0 42 3 (.slice A nc cc) nc xs
 ts:Turns (fun j=>(Value.slice A nc cc).ownBlock=some j) w3 w
structure Three (w:World) (b o:Nat):Prop where
 c:∃u0 u1 u2,w.cell? ⟨b,o,none⟩=some u0∧w.cell? ⟨b,o+1,none⟩=some u1∧w.cell? ⟨b,o+2,none⟩=some u2
 f:w.frozen? ⟨b,o,none⟩=false∧w.frozen? ⟨b,o+1,none⟩=false∧w.frozen? ⟨b,o+2,none⟩=false
 lt:b<w.heap.size
section
variable {w3 w:World} {A:Option Addr} {nc cc k:Nat}
theorem ZC.at_ (h:ZC w3 A nc cc w) (hk:k<nc):∃g,A=some ⟨g,0,none⟩∧Three w g (k*3):=by
 obtain ⟨xs,ho⟩:=h.row;have ho2:=ho;have hl:=ho.1
 rcases ho.2 with ⟨_,h0⟩ | ⟨g,cap,cur,hv,hg,hh,h1,h2,h3,h4⟩
 ·omega
 ·cases hv
  have hc:∀j,j<3→∃u,w.cell? ⟨g,k*3+j,none⟩=some u:=fun j hj=>⟨xs[k*3+j]'I,by
   rw [World.ownsRow.cellAt ho2 (k*3+j) I,List.getElem?_eq_getElem]⟩
  have f:∀j,w.frozen? ⟨g,j,none⟩=false:=fun j=>by simp [World.frozen?,hh]
  obtain ⟨u0,e0⟩:=hc 0 I;obtain ⟨u1,e1⟩:=hc 1 I;obtain ⟨u2,e2⟩:=hc 2 I;exact ⟨g,rfl,⟨u0,u1,u2,e0,e1,e2⟩,⟨f _,f _,f _⟩,aA hh⟩
theorem ZC.next (h:ZC w3 A nc cc w) (hk:k<nc) {g:Nat} (e:A=some ⟨g,0,none⟩) (v0 v1 v2:Value):ZC w3 A nc cc (((w.setCell ⟨g,k*3,none⟩ v0).setCell ⟨g,k*3+1,none⟩ v1).setCell ⟨g,k*3+2,none⟩ v2):=by
 subst e;obtain ⟨xs,ho⟩:=h.row;have h1:=cJ ho v0 (j:=k*3) I;have h2:=cJ h1 v1 (j:=k*3+1) I;have h3:=cJ h2 v2 (j:=k*3+2) I;exact ⟨⟨_,h3⟩,turns3 h.ts (T:=fun j=>(Value.slice (some ⟨g,0,none⟩) nc cc).ownBlock=some j) (b:=g) rfl (k*3) v0 v1 v2⟩
end
section
variable {m:MetT} {nm:ByteArray} {fe:Int} {B:Nat} {w w' w5 wr:World} {Al Ac:Option Addr} {nl cl nc cc k:Nat} {D:Nat→Prop} {ps:List LP}
theorem Told.zc (h:Told (m,nm,fe) B w (.slice Al nl cl) (.slice Ac nc cc) D ps) (hl:m.code.length=nc) (hb:Below w.heap.size w w'):ZC w' Ac nc cc w':=by
 have h9:=h.code;dsimp only at h9;rw [hl] at h9;exact ⟨⟨_,lX h9 hb⟩,Turns.refl _ _⟩
theorem Told.zl (h:Told (m,nm,fe) B w (.slice Al nl cl) (.slice Ac nc cc) D ps) (hl:m.lits.length=nl) (hb:Below w.heap.size w w') (hz:ZC w' Ac nc cc w5):ZL w5 Al nl cl D ps 0 w5:=by
 have hn:ps.length=nl:=by
  have:=congrArg List.length h.lps;rw [List.length_map] at this;exact this.trans hl
 have h1:LitRow w' D (.slice Al nl cl) ps:=h.lits.same hb.size (fun k hk=>hb.block k (World.ownsRow.lt h.lits.own k hk).2) (fun b _ hl=>hb.block b hl) (fun _ z=>z);have hcode:=h.code;have hne:∀j,(∃cur,w.heap[j]? =some (.cells cur 44 (0,0)))→¬(Value.slice Ac nc cc).ownBlock=some j:=fun j ⟨cur,hj⟩ z=>by
  obtain ⟨cur2,h2⟩:=bN hcode z;rw [hj] at h2;simp at h2
 have h2:LitRow w5 D (.slice Al nl cl) ps:=h1.same hz.ts.size (fun j hj=>hz.ts.block j (World.ownsRow.lt h1.own j hj).2 (hne j (bN h.lits.own hj))) (fun j hj hl=>hz.ts.block j hl (hne j (h.dty j hj))) (fun _ z=>z);exact ZL.start h2 hn (fun j hj=>(h.lvB j hj).2)
theorem Told.keepC (h:Told (m,nm,fe) B w (.slice Al nl cl) (.slice Ac nc cc) D ps) (hz:ZC w' Ac nc cc w5) {b:Nat} {o:Obj} (hb:w.heap.size≤b) (ho:w'.heap[b]? =some o):w5.heap[b]? =some o:=
 (hz.ts.block b (aA ho) (fun z=>by have:=(World.ownsRow.lt h.code b z).2;omega)).trans ho
theorem Told.keepL (h:Told (m,nm,fe) B w (.slice Al nl cl) (.slice Ac nc cc) D ps) (hz:ZL w5 Al nl cl D ps k wr) {b:Nat} {o:Obj} (hb:w.heap.size≤b) (ho:w5.heap[b]? =some o):wr.heap[b]? =some o:=
 (hz.ts.block b (aA ho) (fun z=>z.elim (fun z=>by have:=(World.ownsRow.lt h.lits.own b z).2;omega) (fun z=>by obtain ⟨cur,hc⟩:=h.dty b z;have:=aA hc;omega))).trans ho
theorem Told.keepB (h:Told (m,nm,fe) B w (.slice Al nl cl) (.slice Ac nc cc) D ps) (hB:B≤w'.heap.size) (hc:ZC w' Ac nc cc w5) (hz:ZL w5 Al nl cl D ps k wr):Below B w' wr:=by
 have h1:Below B w' w5:=hc.ts.below (fun j z=>h.cvB j z) hB;exact h1.trans (hz.ts.below (fun j z=>z.elim (fun y=>(h.lvB j y).1) (fun y=>h.dge j y)) (Nat.le_trans hB hc.ts.size))
end
theorem yZ {w:World} {D:Nat→Prop} {p:Option Addr} {l:List ByteArray} (h:Strs w D p l) (k:Nat):Strs w D p (l.take k):=fun i hi=>by
 have hi2:i<l.length:=by rw [List.length_take] at hi;omega
 rw [List.getElem_take];exact h i hi2
end Go.Proofs.YtnojndgmgkgnpaaGreat
