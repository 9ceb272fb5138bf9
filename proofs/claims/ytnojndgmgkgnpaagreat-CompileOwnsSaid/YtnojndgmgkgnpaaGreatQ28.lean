/- Chapter 10: words and contracts for the law. -/
import Derived.Test.YtnojndgmgkgnpaaGreatQ24
import Derived.Test.YtnojndgmgkgnpaaGreatQ26
import Derived.Test.YtnojndgmgkgnpaaGreatQ27
set_option maxRecDepth 100000
set_option maxHeartbeats 40000000
set_option linter.unusedVariables false
set_option linter.unusedSimpArgs false
namespace Go.Proofs.YtnojndgmgkgnpaaGreat.Rf
open Go.ChangeShapes Go.WideShapes Go.ChangeAt Go.RowKit Go.Deep Go.Joins Go.Maps
theorem send_eq (rec:NodT→CSt→CSt) {x k:NodT} {args:List NodT} (s:CSt) (h:x.kids=k :: args):lZ rec x s=if (gB rec x s).1=true then (gB rec x s).2 else gE rec (cS rec k s).1 x.text args (cS rec k s).2:=by
 unfold lZ gB;rw [h];dsimp only
 cases eX x with
 | some yn=>obtain ⟨y,n⟩:=yn;rfl
 | none=>
  cases cA x with
  | some wab=>obtain ⟨a,b,c⟩:=wab;rfl
  | none=>rfl
theorem nB {w0 w:World} {P:Nat→Prop} {cb:Nat} {m:MK} {s:CSt} (h:CX w0 P w cb m s) {nt:Nat} (hn:s.temps=nt):w.cell? ⟨cb,2,none⟩=some (.int .i64 (nt:Int)):=by
 obtain ⟨lv,cv,nv,D,ps,hy,_⟩:=h;rw [hy.cell,←hn];rfl
theorem nL {w0 w:World} {P:Nat→Prop} {cb:Nat} {m:MK} {s:CSt} (h:CX w0 P w cb m s):w.cell? ⟨cb,7,none⟩=some (.int .i64 s.err):=by
 obtain ⟨lv,cv,nv,D,ps,hy,_⟩:=h;rw [hy.cell];rfl
mutual
theorem jC:∀(x:NodT) (s:CSt),(dJ x s).2.temps=s.temps
 | .node k t n _ _ ks,s=>by
  unfold dJ
  split
  ·rfl
  split
  ·rfl
  split
  ·rfl
  split
  ·exact oH ks s
  ·unfold aG;split <;> rfl
theorem oH:∀(l:List NodT) (s:CSt),(fC l s).2.temps=s.temps
 | [],s=>rfl
 | x :: r,s=>by
  unfold fC
  split
  ·rfl
  ·exact (oH r _).trans (jC x s)
end
theorem nT {f:Nat} (hv:RSpec f) {w0 ws w1 w:World} {P:Nat→Prop} {cb:Nat} {m:MK} {s:CSt} (h:CT w0 P ws w1 cb m s) (hb:Below w1.heap.size w1 w) {x:NodT} {q:NS} (hn:IsNd w0 (fun _=>True) x q) (hx:x.size≤f+1) (hf:s.code.length+8*x.size≤1000000) (hl:s.lits.length+x.size≤100000):Calls Tryz.prog 39 #[.pointer (some ⟨cb,0,none⟩),ndV x q] w fun e w'=>e= .returned (.tuple #[])∧CT w0 P ws w' cb m (cU (aS f) x s):=by
 have h2:=h.below hb;refine (mI hv h2.1 hn hx hf hl).mono ?_;rintro e w' ⟨he,hc⟩;exact ⟨he,h2.go hc⟩
theorem mJ {f:Nat} (hv:RSpec f) {w0 ws w1 w:World} {P:Nat→Prop} {cb:Nat} {m:MK} {s:CSt} (h:CT w0 P ws w1 cb m s) (hb:Below w1.heap.size w1 w) {x:NodT} {q:NS} (hn:IsNd w0 (fun _=>True) x q) (hx:x.size≤f+1) (hf:s.code.length+8*x.size≤1000000) (hl:s.lits.length+x.size≤100000):Calls Tryz.prog 43 #[.pointer (some ⟨cb,0,none⟩),ndV x q] w fun e w'=>e= .returned (.tuple #[])∧CT w0 P ws w' cb m (jB (aS f) x s):=by
 have h2:=h.below hb;refine (kY hv h2.1 hn hx hf hl).mono ?_;rintro e w' ⟨he,hc⟩;exact ⟨he,h2.go hc⟩
theorem Z98 {P:Prop} (h:P:=by
 obtain ⟨lv,cv,nv,D,ps,hy,hfw⟩:=HH.out;have HYB:Hid (CY w0 P (w.alloc (.cells #[.int .i64 x.kind,.string x.text,.int .i64 x.num,.slice q.pn x.names.length q.cn,.slice q.pt x.temps.length q.ct,.slice q.pk x.kids.length q.ck] 25)) cb m s lv cv nv D ps):=J (hy.under (ba));obtain ⟨l,hl0⟩:=aE ((dJ x s).1);obtain ⟨s1,hs1⟩:=aE ((dJ x s).2);obtain ⟨g,hg⟩:=aE ((bS s1 l).1);obtain ⟨s2,hs2⟩:=aE ((bS s1 l).2);have HST0:Hid (aS (f+1) x s=if s1.err≠0 then s1 else aB s2 6 (g:Int) 0):=J (by
  show dR (aS f) x s=_
  unfold dR;rw [if_neg (fun z=>z HER.out),if_pos Y7,hl0,hs1,hg,hs2])
 have hgr:=kL x s;have htm:=jC x s;have hpk:=eG s1 l;rw [hs1] at hgr htm;rw [hs2] at hpk;have HFW1:Hid (s1.temps≤24∧s1.names.length≤8+s1.temps):=J (by rw [hgr.names,htm];exact hfw);have HFW2:Hid (s2.temps≤24∧s2.names.length≤8+s2.temps):=J (by rw [hpk.1,hpk.2.1,hgr.names,htm];exact hfw);have HLL:Hid (s1.lits.length≤100000):=J (by have h1:=hgr.lits;have h2:=HBD.out.2.1;omega);have HF4:Hid (s2.code.length≤1000000):=J Y131;have HPL:=J hg;have HPS:=J hs2;have hcall:∀W,Below (w.alloc (.cells #[.int .i64 x.kind,.string x.text,.int .i64 x.num,.slice q.pn x.names.length q.cn,.slice q.pt x.temps.length q.ct,.slice q.pk x.kids.length q.ck] 25)).heap.size (w.alloc (.cells #[.int .i64 x.kind,.string x.text,.int .i64 x.num,.slice q.pn x.names.length q.cn,.slice q.pt x.temps.length q.ct,.slice q.pk x.kids.length q.ck] 25)) W→Calls Tryz.prog 36 #[.pointer (some ⟨cb,0,none⟩),ndV x q] W (fun e w'=>dO w0 W P cb m lv cv nv D ps (dJ x s).1 (dJ x s).2 e w'∧Below (w.alloc (.cells #[.int .i64 x.kind,.string x.text,.int .i64 x.num,.slice q.pn x.names.length q.cn,.slice q.pt x.temps.length q.ct,.slice q.pk x.kids.length q.ck] 25)).heap.size (w.alloc (.cells #[.int .i64 x.kind,.string x.text,.int .i64 x.num,.slice q.pn x.names.length q.cn,.slice q.pt x.temps.length q.ct,.slice q.pk x.kids.length q.ck] 25)) W):=fun W hb=>(iL (HYB.out.under hb) HN.out HBD.out.2.2).mono (fun e w' z=>⟨z,hb⟩)
 rw [hl0,hs1] at hcall;unfold ndV at hcall;have HCA:=J hcall;clear hy hfw hl0 hs1 hg hs2 hgr htm hpk e hcall
 by_cases he:s1.err=0
 ·have HST:Hid (aS (f+1) x s=aB s2 6 (g:Int) 0):=J (by rw [HST0.out,if_neg (fun z=>z he)]);have y1:(s1.err==0)=true:=Y20;clear HST0 he;go_enter Tryz.func18,Tryz.ntmps18;go_wp2_with (first | (go_at_call 36;(with_reducible refine (HCA.out _ bel).mono ?_);rintro e w3 ⟨⟨ql,rfl,hcy,hlt,htu⟩,hbw⟩;unfold ltV;have HCY:=J hcy;have HLT:=J hlt;have HTU:Hid (Turns (cP P) w w3):=J (((Turns.of_below (ba)).trans (Turns.of_below hbw)).trans (outOf htu HYB.out.cbP));have HDD:Hid (∀W,Below w3.heap.size w3 W→∀k,iK _ w3 k→lv.ownBlock≠some k∧∃cur,W.heap[k]? =some (.cells cur 44 (0,0))):=J (fun W hW k hk=>⟨((HYB.out.under hbw).fresh hk.1).2.1,by obtain ⟨cur,h9⟩:=hk.2.2;exact ⟨cur,(hW.block k (aA h9)).trans h9⟩⟩);have HAP:Hid (∀W,Below w3.heap.size w3 W→Calls Tryz.prog 37 #[.pointer (some ⟨cb,0,none⟩),ltV l ql] W (fun e w'=>(e= .returned (.int .i64 (g:Int))∧(∃lv' D' ps',CY w0 P w' cb m s2 lv' cv nv D' ps'))∧Turns (cP P) w3 w')):=J (fun W hW=>(gA (HCY.out.under hW) (HLT.out.under hW) (HDD.out W hW) HLL.out).mono (fun e w' z=>by rw [HPL.out,HPS.out] at z;exact ⟨⟨z.1,z.2.1⟩,(Turns.of_below hW).trans z.2.2⟩));have k7:w3.cell? ⟨cb,7,none⟩=some (.int .i64 s1.err):=(by rw [hcy.cell];rfl);have k7a:(w3.alloc (.cells #[.int .i64 l.kind_,.string l.text_,.int .i64 l.num_,.slice ql.p l.kids_.length ql.c] 44)).cell? ⟨cb,7,none⟩=some (.int .i64 s1.err):=Lib.cell?_alloc_marked _ k7;have hap:=HAP.out;unfold ltV at hap;have HAQ:=J hap;clear hcy hlt htu hbw hap) | (go_at_call 37;(with_reducible refine (HAQ.out _ bel).mono ?_);rintro e w4 ⟨⟨rfl,hcy⟩,htu⟩;have HX4:Hid (CT w0 P w w4 cb m s2):=J (by obtain ⟨lv',D',ps',hc9⟩:=hcy;exact ⟨⟨lv',_,_,D',ps',hc9,HFW2.out⟩,HTU.out.trans htu⟩);clear hcy htu) | (go_at_call 19;(with_reducible refine (bG HX4.out bel 6 (g:Int) 0 HF4.out).mono ?_);rintro e w5 ⟨rfl,HX5⟩;replace HX5:=J HX5));go_returns;rw [HST.out];exact ⟨rfl,HX5.out⟩
 ·have HST:Hid (aS (f+1) x s=s1):=J (by rw [HST0.out,if_pos he]);have y1:(s1.err==0)=false:=Y20;clear HST0 he;go_enter Tryz.func18,Tryz.ntmps18;go_wp2_with (first | (go_at_call 36;(with_reducible refine (HCA.out _ bel).mono ?_);rintro e w3 ⟨⟨ql,rfl,hcy,hlt,htu⟩,hbw⟩;unfold ltV;have HCY:=J hcy;have HLT:=J hlt;have HTU:Hid (Turns (cP P) w w3):=J (((Turns.of_below (ba)).trans (Turns.of_below hbw)).trans (outOf htu HYB.out.cbP));have HDD:Hid (∀W,Below w3.heap.size w3 W→∀k,iK _ w3 k→lv.ownBlock≠some k∧∃cur,W.heap[k]? =some (.cells cur 44 (0,0))):=J (fun W hW k hk=>⟨((HYB.out.under hbw).fresh hk.1).2.1,by obtain ⟨cur,h9⟩:=hk.2.2;exact ⟨cur,(hW.block k (aA h9)).trans h9⟩⟩);have HAP:Hid (∀W,Below w3.heap.size w3 W→Calls Tryz.prog 37 #[.pointer (some ⟨cb,0,none⟩),ltV l ql] W (fun e w'=>(e= .returned (.int .i64 (g:Int))∧(∃lv' D' ps',CY w0 P w' cb m s2 lv' cv nv D' ps'))∧Turns (cP P) w3 w')):=J (fun W hW=>(gA (HCY.out.under hW) (HLT.out.under hW) (HDD.out W hW) HLL.out).mono (fun e w' z=>by rw [HPL.out,HPS.out] at z;exact ⟨⟨z.1,z.2.1⟩,(Turns.of_below hW).trans z.2.2⟩));have k7:w3.cell? ⟨cb,7,none⟩=some (.int .i64 s1.err):=(by rw [hcy.cell];rfl);have k7a:(w3.alloc (.cells #[.int .i64 l.kind_,.string l.text_,.int .i64 l.num_,.slice ql.p l.kids_.length ql.c] 44)).cell? ⟨cb,7,none⟩=some (.int .i64 s1.err):=Lib.cell?_alloc_marked _ k7;have hap:=HAP.out;unfold ltV at hap;have HAQ:=J hap;clear hcy hlt htu hbw hap));go_returns;rw [HST.out];have hb9:Below w3.heap.size w3 _:=(Below.refl w3.heap.size w3).alloc aR (.cells #[.int .i64 l.kind_,.string l.text_,.int .i64 l.num_,.slice ql.p l.kids_.length ql.c] 44);exact ⟨rfl,⟨_,_,_,_,_,HCY.out.under hb9,HFW1.out⟩,HTU.out.trans (Turns.of_below hb9)⟩):P:=h
theorem Z99 {P:Prop} (h:P:=by
 go_enter Tryz.func18,Tryz.ntmps18;go_wp2_with (first | (go_at_call 35;(with_reducible refine (cO HX0.out bel ⟨#[]⟩ (Nat.zero_le _) 1).mono ?_);rintro e w5 ⟨rfl,HX5⟩;replace HX5:=J HX5));go_returns;rw [HST.out];exact ⟨rfl,HX5.out⟩):P:=h
theorem nU {f:Nat} (hv:RSpec f):RSpec (f+1):=by
 intro x hx w0 w P cb m s q h hn hf hl;have HH:=J h;have HN:=J hn;have HV:=J hv;have HSZ:=J hx;have HTX:Hid (x.text.size≤bL):=J hn.ok.text;have HBD:Hid (s.code.length+8*x.size≤1000000∧s.lits.length+x.size≤100000∧x.size≤100000):=J ⟨hf,hl,by omega⟩;have HF0:Hid (s.code.length≤1000000):=J I;have HL0:Hid (s.lits.length≤100000):=J I;have HX0:Hid (CT w0 P w (w.alloc (.cells #[.int .i64 x.kind,.string x.text,.int .i64 x.num,.slice q.pn x.names.length q.cn,.slice q.pt x.temps.length q.ct,.slice q.pk x.kids.length q.ck] 25)) cb m s):=J (h.ct.below (ba));have k7:(w.alloc (.cells #[.int .i64 x.kind,.string x.text,.int .i64 x.num,.slice q.pn x.names.length q.cn,.slice q.pt x.temps.length q.ct,.slice q.pk x.kids.length q.ck] 25)).cell? ⟨cb,7,none⟩=some (.int .i64 s.err):=nL HX0.out.1;clear h hn hv hx hf hl
 by_cases her:s.err=0
 ·have HER:=J her;rw [her] at k7;clear her;unfold ndV
  by_cases e1:x.kind=1
  ·have e:=e1;have q1:(x.kind==1)=true:=Y1;have q2:(x.kind==2)=false:=Y1;have q3:(x.kind==3)=false:=Y1;have q4:(x.kind==4)=false:=Y1;have q5:(x.kind==5)=false:=Y1;have q6:(x.kind==6)=false:=Y1;have q7:(x.kind==7)=false:=Y1;have q8:(x.kind==8)=false:=Y1;have q9:(x.kind==9)=false:=Y1;have q10:(x.kind==10)=false:=Y1;clear e1;exact Z98
  by_cases e2:x.kind=2
  ·have e:=e2;have q1:(x.kind==1)=false:=Y1;have q2:(x.kind==2)=true:=Y1;have q3:(x.kind==3)=false:=Y1;have q4:(x.kind==4)=false:=Y1;have q5:(x.kind==5)=false:=Y1;have q6:(x.kind==6)=false:=Y1;have q7:(x.kind==7)=false:=Y1;have q8:(x.kind==8)=false:=Y1;have q9:(x.kind==9)=false:=Y1;have q10:(x.kind==10)=false:=Y1;clear e1 e2;exact Z98
  by_cases e3:x.kind=3
  ·have e:=e3;have q1:(x.kind==1)=false:=Y1;have q2:(x.kind==2)=false:=Y1;have q3:(x.kind==3)=true:=Y1;have q4:(x.kind==4)=false:=Y1;have q5:(x.kind==5)=false:=Y1;have q6:(x.kind==6)=false:=Y1;have q7:(x.kind==7)=false:=Y1;have q8:(x.kind==8)=false:=Y1;have q9:(x.kind==9)=false:=Y1;have q10:(x.kind==10)=false:=Y1;clear e1 e2 e3;exact Z98
  by_cases e4:x.kind=4
  ·have e:=e4;have q1:(x.kind==1)=false:=Y1;have q2:(x.kind==2)=false:=Y1;have q3:(x.kind==3)=false:=Y1;have q4:(x.kind==4)=true:=Y1;have q5:(x.kind==5)=false:=Y1;have q6:(x.kind==6)=false:=Y1;have q7:(x.kind==7)=false:=Y1;have q8:(x.kind==8)=false:=Y1;have q9:(x.kind==9)=false:=Y1;have q10:(x.kind==10)=false:=Y1;clear e1 e2 e3 e4;exact Z98
  by_cases e5:x.kind=5
  ·have e:=e5;have q1:(x.kind==1)=false:=Y1;have q2:(x.kind==2)=false:=Y1;have q3:(x.kind==3)=false:=Y1;have q4:(x.kind==4)=false:=Y1;have q5:(x.kind==5)=true:=Y1;have q6:(x.kind==6)=false:=Y1;have q7:(x.kind==7)=false:=Y1;have q8:(x.kind==8)=false:=Y1;have q9:(x.kind==9)=false:=Y1;have q10:(x.kind==10)=false:=Y1;clear e1 e2 e3 e4 e5;have HST:Hid (aS (f+1) x s=gY s x.text):=J (by
    show dR (aS f) x s=_
    unfold dR;rw [if_neg (fun z=>z HER.out),if_neg Y7,if_pos e])
   clear e;go_enter Tryz.func18,Tryz.ntmps18;go_wp2_with (first | (go_at_call 38;(with_reducible refine (kX HX0.out bel x.text HTX.out HF0.out HL0.out).mono ?_);rintro e w5 ⟨rfl,HX5⟩;replace HX5:=J HX5));go_returns;rw [HST.out];exact ⟨rfl,HX5.out⟩
  by_cases e6:x.kind=6
  ·have e:=e6;have q1:(x.kind==1)=false:=Y1;have q2:(x.kind==2)=false:=Y1;have q3:(x.kind==3)=false:=Y1;have q4:(x.kind==4)=false:=Y1;have q5:(x.kind==5)=false:=Y1;have q6:(x.kind==6)=true:=Y1;have q7:(x.kind==7)=false:=Y1;have q8:(x.kind==8)=false:=Y1;have q9:(x.kind==9)=false:=Y1;have q10:(x.kind==10)=false:=Y1;clear e1 e2 e3 e4 e5 e6;have HST:Hid (aS (f+1) x s=cU (aS f) x s):=J (by
    show dR (aS f) x s=_
    unfold dR;rw [if_neg (fun z=>z HER.out),if_neg Y7,if_neg Y7,if_pos e])
   clear e;have hcall:∀{ws w1 W:World},CT w0 P ws w1 cb m s→Below w1.heap.size w1 W→Calls Tryz.prog 39 #[.pointer (some ⟨cb,0,none⟩),ndV x q] W fun e w'=>e= .returned (.tuple #[])∧CT w0 P ws w' cb m (cU (aS f) x s):=fun hc hb=>nT HV.out hc hb HN.out HSZ.out HBD.out.1 HBD.out.2.1
   unfold ndV at hcall;have HCA:Hid (∀{ws w1 W:World},CT w0 P ws w1 cb m s→Below w1.heap.size w1 W→_):=J hcall;clear hcall;go_enter Tryz.func18,Tryz.ntmps18;go_wp2_with (first | (go_at_call 39;(with_reducible refine (HCA.out HX0.out bel).mono ?_);rintro e w5 ⟨rfl,HX5⟩;replace HX5:=J HX5));go_returns;rw [HST.out];exact ⟨rfl,HX5.out⟩
  by_cases e7:x.kind=7
  ·have e:=e7;have q1:(x.kind==1)=false:=Y1;have q2:(x.kind==2)=false:=Y1;have q3:(x.kind==3)=false:=Y1;have q4:(x.kind==4)=false:=Y1;have q5:(x.kind==5)=false:=Y1;have q6:(x.kind==6)=false:=Y1;have q7:(x.kind==7)=true:=Y1;have q8:(x.kind==8)=false:=Y1;have q9:(x.kind==9)=false:=Y1;have q10:(x.kind==10)=false:=Y1;clear e1 e2 e3 e4 e5 e6 e7;obtain ⟨n,hnk⟩:=aE x.kids.length;have HNK:=J hnk;have hle:n≤9223372036854775807:=Y64
   by_cases e1:n=0
   ·have HST:Hid (aS (f+1) x s=aG s eB 1):=J (by
     show dR (aS f) x s=_
     unfold dR;rw [if_neg (fun z=>z HER.out),if_neg Y7,if_neg Y7,if_neg Y7,if_pos e];unfold lZ;have h9:x.kids=[]:=List.length_eq_zero_iff.1 (hnk.trans e1);rw [h9])
    have z1:(n==0)=true:=Y29;have z2:((n:Int)==0)=true:=Y4;rw [hnk] at HX0 k7 ⊢;clear hnk e1 e;exact Z99
   ·obtain ⟨kd,args,hkd⟩:∃k r,x.kids=k :: r:=by
     cases hc:x.kids with
     | nil=>rw [hc] at hnk;simp at hnk;omega
     | cons k r=>exact ⟨k,r,rfl⟩
    obtain ⟨b,off,q0,hpk,hbl,hc0,hkn0⟩:=HN.out.rows 0 I;rw [show x.kids[0]'I=kd from by simp [hkd]] at hc0 hkn0;rw [Nat.zero_mul,Nat.add_zero] at hc0;have HC0:=J hc0;have HBL:=J hbl;have HPK:=J hpk;have hz9:=HSZ.out;have hb9:=HBD.out;have hsz:x.size=1+(kd.size+NodT.sizes args):=by rw [x.size_kids,hkd,NodT.sizes]
    have hkp:=kd.size_pos;have hna:n=args.length+1:=by rw [←hnk,hkd];rfl
    obtain ⟨ps1,cs1,hsl,hrs⟩:=lN (c:=q.ck) HN.out.rows hnk I (by have h8:=HN.out.ok.klen;omega);rw [show x.kids.drop 1=args from by rw [hkd];rfl] at hrs;obtain ⟨op,hop⟩:=aE ((cS (aS f) kd s).1);obtain ⟨s1,hs1⟩:=aE ((cS (aS f) kd s).2);have hgr:=iD (eJ f) (x:=kd) I s;rw [hs1] at hgr;have hg1:=hgr.code;have hg2:=hgr.lits;have hrc:∀{P':Nat→Prop} {ws w1 W:World},CT w0 P' ws w1 cb m s→Below w1.heap.size w1 W→Calls Tryz.prog 41 #[.pointer (some ⟨cb,0,none⟩),ndV kd q0] W fun e w'=>e= .returned (.int .i64 op)∧CT w0 P' ws w' cb m s1:=fun hc hb=>by
     have h2:=hc.below hb;refine (gW HV.out h2.1 hkn0 I I I).mono ?_;rw [hop,hs1];rintro e w' ⟨he,hc⟩;exact ⟨he,h2.go hc⟩
    have hmc:∀{P':Nat→Prop} {ws w1 W:World},CT w0 P' ws w1 cb m s1→Below w1.heap.size w1 W→Calls Tryz.prog 42 #[.pointer (some ⟨cb,0,none⟩),.int .i64 op,.string x.text,.slice ps1 (n-1) cs1] W fun e w'=>e= .returned (.tuple #[])∧CT w0 P' ws w' cb m (gE (aS f) op x.text args s1):=fun hc hb=>by
     have h2:=hc.below hb;refine (eR HV.out h2.1 hrs I I op x.text HTX.out I I I).mono ?_;rintro e w' ⟨he,hc⟩;exact ⟨he,h2.go hc⟩
    obtain ⟨v,hv1⟩:=aE ((gB (aS f) x s).1);obtain ⟨si,hsi⟩:=aE ((gB (aS f) x s).2);have HST0:Hid (aS (f+1) x s=if v=true then si else gE (aS f) op x.text args s1):=J (by
     show dR (aS f) x s=_
     unfold dR;rw [if_neg (fun z=>z HER.out),if_neg Y7,if_neg Y7,if_neg Y7,if_pos e,send_eq _ s hkd,hv1,hsi,hop,hs1])
    have hba:Below w.heap.size w (w.alloc (.cells #[.int .i64 x.kind,.string x.text,.int .i64 x.num,.slice q.pn x.names.length q.cn,.slice q.pt x.temps.length q.ct,.slice q.pk n q.ck] 25)):=ba;have hnew:(w.alloc (.cells #[.int .i64 x.kind,.string x.text,.int .i64 x.num,.slice q.pn x.names.length q.cn,.slice q.pt x.temps.length q.ct,.slice q.pk n q.ck] 25)).heap[w.heap.size]? =some (.cells #[.int .i64 x.kind,.string x.text,.int .i64 x.num,.slice q.pn x.names.length q.cn,.slice q.pt x.temps.length q.ct,.slice q.pk n q.ck] 25 (0,0)):=heap_alloc_new w _;obtain ⟨P1,hP1⟩:∃P1:Nat→Prop,(fun k=>P k∨k=w.heap.size)=P1:=⟨_,rfl⟩;have hx1:CX w0 P1 (w.alloc (.cells #[.int .i64 x.kind,.string x.text,.int .i64 x.num,.slice q.pn x.names.length q.cn,.slice q.pt x.temps.length q.ct,.slice q.pk n q.ck] 25)) cb m s:=by
     rw [←hP1];exact (HH.out.below hba).and hnew Y3
    have HSUB:Hid (∀k,P k→P1 k):=J (fun k z=>by rw [←hP1];exact .inl z);have hbx:∀wz,Turns (cP P1) (w.alloc (.cells #[.int .i64 x.kind,.string x.text,.int .i64 x.num,.slice q.pn x.names.length q.cn,.slice q.pt x.temps.length q.ct,.slice q.pk n q.ck] 25)) wz→Sixn wz w.heap.size n x q:=fun wz ht=>cW ((ht.block _ (aA hnew) (fun z=>z Y72)).trans hnew)
    have hin:∀(W:World),Below (w.alloc (.cells #[.int .i64 x.kind,.string x.text,.int .i64 x.num,.slice q.pn x.names.length q.cn,.slice q.pt x.temps.length q.ct,.slice q.pk n q.ck] 25)).heap.size (w.alloc (.cells #[.int .i64 x.kind,.string x.text,.int .i64 x.num,.slice q.pn x.names.length q.cn,.slice q.pt x.temps.length q.ct,.slice q.pk n q.ck] 25)) W→Calls Tryz.prog 40 #[.pointer (some ⟨cb,0,none⟩),ndV x q] W fun e w'=>e= .returned (.bool v)∧CT w0 P1 (w.alloc (.cells #[.int .i64 x.kind,.string x.text,.int .i64 x.num,.slice q.pn x.names.length q.cn,.slice q.pt x.temps.length q.ct,.slice q.pk n q.ck] 25)) w' cb m si:=fun W hb=>by
     have h2:=hx1.ct.below hb;refine (vT HV.out h2.1 HN.out HSZ.out I I I).mono ?_;rw [hv1,hsi];rintro e w' ⟨he,hc⟩;exact ⟨he,h2.go hc⟩
    have HIS:Hid (v=false→si=s):=J (fun z=>by
     rw [←hsi];rw [←hv1] at z;unfold gB at z ⊢
     cases h8:eX x with
     | some yn=>rw [h8] at z;cases z
     | none=>
      rw [h8] at z;dsimp only at z ⊢
      cases h7:cA x with
      | some wab=>rw [h7] at z;cases z
      | none=>rfl)
    unfold ndV at hin hrc;rw [hnk] at hin ⊢;rw [hpk] at hin hba hx1 hbx hsl ⊢;have HB0:=J hbx;have HX9:=J hx1;have HBW:=J hba;have HRC:Hid (∀{P':Nat→Prop} {ws w1 W:World},CT w0 P' ws w1 cb m s→Below w1.heap.size w1 W→_):=J hrc;have HMC:Hid (∀{P':Nat→Prop} {ws w1 W:World},CT w0 P' ws w1 cb m s1→Below w1.heap.size w1 W→_):=J hmc;have HIN0:=J hin;have g1:(0:Int)<(n:Int):=I;have g2:0<n:=I;have z1:(n==0)=false:=Y29;have z2:((n:Int)==0)=false:=Y4;have z3:¬((n:Int)=0):=I;clear hnk e1 e hpk hbl hc0 hkn0 hz9 hb9 hsz hkp hna hrs hop hs1 hgr hg1 hg2 hrc hmc hv1 hsi hin hba hnew hP1 hx1 hbx hkd k7
    cases v with
    | true=>
     have HST:Hid (aS (f+1) x s=si):=J (by rw [HST0.out,if_pos rfl]);clear HST0;go_enter Tryz.func18,Tryz.ntmps18
     go_upto_region 1 with fail
     have hin:=HIN0.out;clear HIN0;have hbx:=HB0.out;have hx1:=HX9.out;have hbw:=HBW.out;obtain ⟨w1,hw1⟩:∃w1,(w.alloc (.cells #[.int .i64 x.kind,.string x.text,.int .i64 x.num,.slice q.pn x.names.length q.cn,.slice q.pt x.temps.length q.ct,.slice (some ⟨b,off,none⟩) n q.ck] 25))=w1:=⟨_,rfl⟩;clear HB0 HX9 HBW HX0;rw [hw1] at hbx hx1 hbw hin ⊢;have HBX:=J hbx;have HX1:=J hx1.ct;have HBW:=J hbw;have k7:=nL HX1.out.1;rw [HER.out] at k7;obtain ⟨c0,c1,c2,c3,c4,c5⟩:=HBX.out _ HX1.out.2;rw [HPK.out] at c5;clear hbx hx1 hbw hw1;have HIN:=J hin;clear hin;go_wp2_with (first | (go_at_call 40;(with_reducible refine (HIN.out _ bel).mono ?_);rintro e w3 ⟨rfl,hx3⟩;have HX3:=J hx3;obtain ⟨c0,c1,c2,c3,c4,c5⟩:=HBX.out _ hx3.2;rw [HPK.out] at c5;obtain ⟨d0,d1,d2,d3,d4,d5⟩:=HC0.out.same (hx3.1.stat.block b HBL.out);have dbw:b<_:=aN HBL.out hx3.1.stat.size;clear hx3));go_returns;rw [HST.out];exact ⟨rfl,HH.out.ct.back HBW.out HX3.out HSUB.out⟩
    | false=>
     have HST:Hid (aS (f+1) x s=gE (aS f) op x.text args s1):=J (by rw [HST0.out,if_neg Y3]);have hss:=HIS.out rfl;subst hss;clear HST0;go_enter Tryz.func18,Tryz.ntmps18
     go_upto_region 1 with fail
     have hin:=HIN0.out;clear HIN0;have hbx:=HB0.out;have hx1:=HX9.out;have hbw:=HBW.out;obtain ⟨w1,hw1⟩:∃w1,(w.alloc (.cells #[.int .i64 x.kind,.string x.text,.int .i64 x.num,.slice q.pn x.names.length q.cn,.slice q.pt x.temps.length q.ct,.slice (some ⟨b,off,none⟩) n q.ck] 25))=w1:=⟨_,rfl⟩;clear HB0 HX9 HBW HX0;rw [hw1] at hbx hx1 hbw hin ⊢;have HBX:=J hbx;have HX1:=J hx1.ct;have HBW:=J hbw;have k7:=nL HX1.out.1;rw [HER.out] at k7;obtain ⟨c0,c1,c2,c3,c4,c5⟩:=HBX.out _ HX1.out.2;rw [HPK.out] at c5;clear hbx hx1 hbw hw1;have HIN:=J hin;clear hin
     go_upto_region 21 with (first | (go_at_call 40;(with_reducible refine (HIN.out _ bel).mono ?_);rintro e w3 ⟨rfl,hx3⟩;have HX3:=J hx3;obtain ⟨c0,c1,c2,c3,c4,c5⟩:=HBX.out _ hx3.2;rw [HPK.out] at c5;obtain ⟨d0,d1,d2,d3,d4,d5⟩:=HC0.out.same (hx3.1.stat.block b HBL.out);have dbw:b<_:=aN HBL.out hx3.1.stat.size;clear hx3) | (go_at_call 41;(with_reducible refine (HRC.out HX3.out bel).mono ?_);rintro e w4 ⟨rfl,hx3⟩;have HX4:=J hx3;obtain ⟨c0,c1,c2,c3,c4,c5⟩:=HBX.out _ hx3.2;rw [HPK.out] at c5;clear hx3))
     go_region_law (first | (go_simp;go_at_call 42;(with_reducible refine (HMC.out HX4.out bel).mono ?_);rintro e w5 ⟨rfl,HX5⟩;replace HX5:=J HX5))
     all_goals
      go_wp2_with fail;go_returns;rw [HST.out];exact ⟨rfl,HH.out.ct.back HBW.out HX5.out HSUB.out⟩
  by_cases e8:x.kind=8
  ·have e:=e8;have q1:(x.kind==1)=false:=Y1;have q2:(x.kind==2)=false:=Y1;have q3:(x.kind==3)=false:=Y1;have q4:(x.kind==4)=false:=Y1;have q5:(x.kind==5)=false:=Y1;have q6:(x.kind==6)=false:=Y1;have q7:(x.kind==7)=false:=Y1;have q8:(x.kind==8)=true:=Y1;have q9:(x.kind==9)=false:=Y1;have q10:(x.kind==10)=false:=Y1;clear e1 e2 e3 e4 e5 e6 e7 e8;have HST:Hid (aS (f+1) x s=jB (aS f) x s):=J (by
    show dR (aS f) x s=_
    unfold dR;rw [if_neg (fun z=>z HER.out),if_neg Y7,if_neg Y7,if_neg Y7,if_neg Y7,if_pos e])
   clear e;have hcall:∀{ws w1 W:World},CT w0 P ws w1 cb m s→Below w1.heap.size w1 W→Calls Tryz.prog 43 #[.pointer (some ⟨cb,0,none⟩),ndV x q] W fun e w'=>e= .returned (.tuple #[])∧CT w0 P ws w' cb m (jB (aS f) x s):=fun hc hb=>mJ HV.out hc hb HN.out HSZ.out HBD.out.1 HBD.out.2.1
   unfold ndV at hcall;have HCA:Hid (∀{ws w1 W:World},CT w0 P ws w1 cb m s→Below w1.heap.size w1 W→_):=J hcall;clear hcall;go_enter Tryz.func18,Tryz.ntmps18;go_wp2_with (first | (go_at_call 43;(with_reducible refine (HCA.out HX0.out bel).mono ?_);rintro e w5 ⟨rfl,HX5⟩;replace HX5:=J HX5));go_returns;rw [HST.out];exact ⟨rfl,HX5.out⟩
  by_cases e9:x.kind=9
  ·have e:=e9;have q1:(x.kind==1)=false:=Y1;have q2:(x.kind==2)=false:=Y1;have q3:(x.kind==3)=false:=Y1;have q4:(x.kind==4)=false:=Y1;have q5:(x.kind==5)=false:=Y1;have q6:(x.kind==6)=false:=Y1;have q7:(x.kind==7)=false:=Y1;have q8:(x.kind==8)=false:=Y1;have q9:(x.kind==9)=true:=Y1;have q10:(x.kind==10)=false:=Y1;clear e1 e2 e3 e4 e5 e6 e7 e8 e9;obtain ⟨n,hnk⟩:=aE x.kids.length;have HNK:=J hnk;have hle:n≤9223372036854775807:=Y64;obtain ⟨nn,hnn⟩:=aE x.names.length;obtain ⟨nt,hnt⟩:=aE s.temps;have HNN:=J hnn;obtain ⟨s1,hs1⟩:∃t,aB s 18 (nt:Int) (nn:Int)=t:=⟨_,rfl⟩;obtain ⟨s2,hs2⟩:=aE (aB s1 16 0 0);obtain ⟨s3,hs3⟩:=aE (cN (aS f) x s2);obtain ⟨s4,hs4⟩:=aE (aB s3 19 0 0);obtain ⟨n1,hn1⟩:=aE s1.code.length;obtain ⟨n4,hn4⟩:=aE s4.code.length;have HST:Hid (aS (f+1) x s=toP s4 n1 16 n4):=J (by
    show dR (aS f) x s=_
    unfold dR;rw [if_neg (fun z=>z HER.out),if_neg Y7,if_neg Y7,if_neg Y7,if_neg Y7,if_neg Y7,if_pos e];unfold iW;dsimp only;rw [hnt,hnn,hs1,hs2,hs3,hs4,hn1,hn4])
   have hgr:=eQ (eJ f) HSZ.out s2;have htm:=eS (jL f) x s2;rw [hs3] at hgr htm;have hb9:=HBD.out;have hxp:=x.size_pos;have g1:=hgr.code;have g2:=hgr.lits;have x1:s1.code.length=s.code.length+1:=by rw [←hs1];exact aM _ _ _ _
   have x2:s2.code.length=s.code.length+2:=by rw [←hs2,aM,x1]
   have x3:s2.lits=s.lits:=by rw [←hs2,←hs1];rfl
   have x4:s4.code.length=s3.code.length+1:=by rw [←hs4];exact aM _ _ _ _
   have o1:Hole s4 n1 16:=by rw [←hs4];exact ((show Hole s2 n1 16 from by rw [←hs2,←hn1];exact Hole.emit _ _ _ _).tm htm).tm (Tm.emit _ _ _ _)
   have HO1:=J o1;have HF3:Hid (s1.code.length≤1000000):=J I;have HF5:Hid (s3.code.length≤1000000):=J I;have HF6:Hid (n4≤1000000∧s4.code.length≤1000000):=J I;have HS1:=J hs1;have HS2:=J hs2;have HS4:=J hs4;have HN1:=J hn1;have HN4:=J hn4;have hbo:∀{P':Nat→Prop} {ws w1 W:World},CT w0 P' ws w1 cb m s2→Below w1.heap.size w1 W→Calls Tryz.prog 44 #[.pointer (some ⟨cb,0,none⟩),ndV x q] W fun e w'=>e= .returned (.tuple #[])∧CT w0 P' ws w' cb m s3:=fun hc hb=>by
    rw [←hs3];have h2:=hc.below hb;refine (eO HV.out h2.1 HN.out HSZ.out I (by rw [x3];omega)).mono ?_;rintro e w' ⟨he,hc⟩;exact ⟨he,h2.go hc⟩
   unfold ndV at hbo;have hba:Below w.heap.size w (w.alloc (.cells #[.int .i64 x.kind,.string x.text,.int .i64 x.num,.slice q.pn x.names.length q.cn,.slice q.pt x.temps.length q.ct,.slice q.pk n q.ck] 25)):=ba;have hnew:(w.alloc (.cells #[.int .i64 x.kind,.string x.text,.int .i64 x.num,.slice q.pn x.names.length q.cn,.slice q.pt x.temps.length q.ct,.slice q.pk n q.ck] 25)).heap[w.heap.size]? =some (.cells #[.int .i64 x.kind,.string x.text,.int .i64 x.num,.slice q.pn x.names.length q.cn,.slice q.pt x.temps.length q.ct,.slice q.pk n q.ck] 25 (0,0)):=heap_alloc_new w _;obtain ⟨P1,hP1⟩:∃P1:Nat→Prop,(fun k=>P k∨k=w.heap.size)=P1:=⟨_,rfl⟩;have hx1:CX w0 P1 (w.alloc (.cells #[.int .i64 x.kind,.string x.text,.int .i64 x.num,.slice q.pn x.names.length q.cn,.slice q.pt x.temps.length q.ct,.slice q.pk n q.ck] 25)) cb m s:=by
    rw [←hP1];exact (HH.out.below hba).and hnew Y3
   have HSUB:Hid (∀k,P k→P1 k):=J (fun k z=>by rw [←hP1];exact .inl z);have hbx:∀wz,Turns (cP P1) (w.alloc (.cells #[.int .i64 x.kind,.string x.text,.int .i64 x.num,.slice q.pn x.names.length q.cn,.slice q.pt x.temps.length q.ct,.slice q.pk n q.ck] 25)) wz→Sixn wz w.heap.size n x q:=fun wz ht=>cW ((ht.block _ (aA hnew) (fun z=>z Y72)).trans hnew)
   rw [hnk,hnn] at hbo;rw [hnn] at hba hx1 hbx;rw [hnk,hnn];have HB0:=J hbx;have HX9:=J hx1;have HBW:=J hba;have HBO:Hid (∀{P':Nat→Prop} {ws w1 W:World},CT w0 P' ws w1 cb m s2→Below w1.heap.size w1 W→_):=J hbo;have HNT:=J hnt;have hle2:nn≤9223372036854775807:=by have h1:=HN.out.ok.nlen;unfold maxLen at h1;omega
   clear hnk hnn hnt hs1 hs2 hs3 hs4 hn1 hn4 hgr htm hb9 hxp g1 g2 x1 x2 x3 x4 o1 hbo hnew hba hx1 hbx hP1 e k7;go_enter Tryz.func18,Tryz.ntmps18
   go_upto_region 1 with fail
   have hbx:=HB0.out;have hx1:=HX9.out;have hbw:=HBW.out;obtain ⟨w1,hw1⟩:∃w1,(w.alloc (.cells #[.int .i64 x.kind,.string x.text,.int .i64 x.num,.slice q.pn nn q.cn,.slice q.pt x.temps.length q.ct,.slice q.pk n q.ck] 25))=w1:=⟨_,rfl⟩;clear HB0 HX9 HBW HX0;rw [hw1] at hbx hx1 hbw ⊢;have HBX:=J hbx;have HX1:=J hx1.ct;have HBW:=J hbw;have k7:=nL HX1.out.1;rw [HER.out] at k7;obtain ⟨c0,c1,c2,c3,c4,c5⟩:=HBX.out _ HX1.out.2;clear hbx hx1 hbw hw1;rw [HNN.out] at c3;have a2:=nB HX1.out.1 HNT.out
   go_upto_region 25 with fail
   go_region_law (first | (go_simp;go_at_call 19;(with_reducible refine (bG HX1.out bel 18 (nt:Int) (nn:Int) HF0.out).mono ?_);rw [HS1.out];rintro e w3 ⟨rfl,hx3⟩;have HX3:=J hx3;obtain ⟨c0,c1,c2,c3,c4,c5⟩:=HBX.out _ hx3.2;rw [HNN.out] at c3;obtain ⟨_,_,k5⟩:=hx3.1.codeAt HN1.out;clear hx3))
   all_goals
    go_wp2_with (first | (go_at_call 19;(with_reducible refine (bG HX3.out bel 16 0 0 HF3.out).mono ?_);rw [HS2.out];rintro e w4 ⟨rfl,hx3⟩;have HX4:=J hx3;obtain ⟨c0,c1,c2,c3,c4,c5⟩:=HBX.out _ hx3.2;rw [HNN.out] at c3;clear hx3) | (go_at_call 44;(with_reducible refine (HBO.out HX4.out bel).mono ?_);rintro e w5 ⟨rfl,HX5⟩;replace HX5:=J HX5) | (go_at_call 19;(with_reducible refine (bG HX5.out bel 19 0 0 HF5.out).mono ?_);rw [HS4.out];rintro e w6 ⟨rfl,hx3⟩;have HX6:=J hx3;obtain ⟨_,_,k5⟩:=hx3.1.codeAt HN4.out;clear hx3) | (go_at_call 45;(with_reducible refine (fV HX6.out bel HO1.out n4 HF6.out.1 HF6.out.2).mono ?_);rintro e w7 ⟨rfl,HX7⟩;replace HX7:=J HX7));go_returns;rw [HST.out];exact ⟨rfl,HH.out.ct.back HBW.out HX7.out HSUB.out⟩
  by_cases e10:x.kind=10
  ·have e:=e10;have q1:(x.kind==1)=false:=Y1;have q2:(x.kind==2)=false:=Y1;have q3:(x.kind==3)=false:=Y1;have q4:(x.kind==4)=false:=Y1;have q5:(x.kind==5)=false:=Y1;have q6:(x.kind==6)=false:=Y1;have q7:(x.kind==7)=false:=Y1;have q8:(x.kind==8)=false:=Y1;have q9:(x.kind==9)=false:=Y1;have q10:(x.kind==10)=true:=Y1;clear e1 e2 e3 e4 e5 e6 e7 e8 e9 e10;obtain ⟨n,hnk⟩:=aE x.kids.length;have HNK:=J hnk;have hle:n≤9223372036854775807:=Y64
   by_cases e1:n=1
   ·obtain ⟨kd,hkd⟩:=List.length_eq_one_iff.1 (hnk.trans e1);obtain ⟨b,off,q0,hpk,hbl,hc0,hkn0⟩:=HN.out.rows 0 I;rw [show x.kids[0]'I=kd from by simp [hkd]] at hc0 hkn0;rw [Nat.zero_mul,Nat.add_zero] at hc0;have HC0:=J hc0;have HBL:=J hbl;have HPK:=J hpk;have hsz:=iC hkd;have hz9:=HSZ.out;have hb9:=HBD.out;have HST:Hid (aS (f+1) x s=aB (aS f kd s) 20 0 0):=J (by
     show dR (aS f) x s=_
     unfold dR;rw [if_neg (fun z=>z HER.out),if_neg Y7,if_neg Y7,if_neg Y7,if_neg Y7,if_neg Y7,if_neg Y7,if_pos e];rw [hkd])
    have hgr:=eJ f kd s I;have HF5:Hid ((aS f kd s).code.length≤1000000):=J (by have h1:=hgr.code;omega);have hva:∀{P':Nat→Prop} {ws w1 W:World},CT w0 P' ws w1 cb m s→Below w1.heap.size w1 W→Calls Tryz.prog 18 #[.pointer (some ⟨cb,0,none⟩),ndV kd q0] W fun e w'=>e= .returned (.tuple #[])∧CT w0 P' ws w' cb m (aS f kd s):=fun hc hb=>HV.out.at_ I hc hb hkn0 I I
    unfold ndV at hva;have HVA:Hid (∀{P':Nat→Prop} {ws w1 W:World},CT w0 P' ws w1 cb m s→Below w1.heap.size w1 W→_):=J hva;obtain ⟨d0,d1,d2,d3,d4,d5⟩:=hc0.same (HX0.out.1.stat.block b hbl);have dbw:b<(w.alloc (.cells #[.int .i64 x.kind,.string x.text,.int .i64 x.num,.slice q.pn x.names.length q.cn,.slice q.pt x.temps.length q.ct,.slice q.pk x.kids.length q.ck] 25)).heap.size:=aN hbl HX0.out.1.stat.size;have HX1:=HX0;rw [hnk,hpk] at HX1 d0 d1 d2 d3 d4 d5 dbw k7 ⊢;clear HX0 hva hgr hsz hz9 hb9 hkn0 hc0 hbl hpk hkd hnk;subst e1;clear e;go_enter Tryz.func18,Tryz.ntmps18;go_wp2_with (first | (go_at_call 18;(with_reducible refine (HVA.out HX1.out bel).mono ?_);rintro e w5 ⟨rfl,HX5⟩;replace HX5:=J HX5) | (go_at_call 19;(with_reducible refine (bG HX5.out bel 20 0 0 HF5.out).mono ?_);rintro e w6 ⟨rfl,HX6⟩;replace HX6:=J HX6));go_returns;rw [HST.out];exact ⟨rfl,HX6.out⟩
   ·have HST:Hid (aS (f+1) x s=aG s eB 1):=J (by
     show dR (aS f) x s=_
     unfold dR;rw [if_neg (fun z=>z HER.out),if_neg Y7,if_neg Y7,if_neg Y7,if_neg Y7,if_neg Y7,if_neg Y7,if_pos e]
     match hk:x.kids with
     | []=>rfl
     | [k]=>rw [hk] at hnk;exact absurd hnk.symm e1
     | _ :: _ :: _=>rfl)
    have z1:(n==1)=false:=Y29;have z2:((n:Int)==1)=false:=Y4;have z3:(n != 1)=true:=Y29;have z4:((n:Int) != 1)=true:=Y4;rw [hnk] at HX0 k7 ⊢;clear hnk e1 e;exact Z99
  have q1:(x.kind==1)=false:=Y29;have q2:(x.kind==2)=false:=Y148;have q3:(x.kind==3)=false:=Y147;have q4:(x.kind==4)=false:=by simpa using e4
  have q5:(x.kind==5)=false:=by simpa using e5
  have q6:(x.kind==6)=false:=by simpa using e6
  have q7:(x.kind==7)=false:=Y118;have q8:(x.kind==8)=false:=by simpa using e8
  have q9:(x.kind==9)=false:=by simpa using e9
  have q10:(x.kind==10)=false:=Y26;have HST:Hid (aS (f+1) x s=aG s eB 1):=J (by
   show dR (aS f) x s=_
   unfold dR;rw [if_neg (fun z=>z HER.out),if_neg (fun z=>z.elim e1 (fun z=>z.elim e2 (fun z=>z.elim e3 e4))),if_neg e5,if_neg e6,if_neg e7,if_neg e8,if_neg e9,if_neg e10])
  clear e1 e2 e3 e4 e5 e6 e7 e8 e9 e10;exact Z99
 ·have HST:Hid (aS (f+1) x s=s):=J (by
   show dR (aS f) x s=_
   unfold dR;rw [if_pos her])
  have e1:(s.err==0)=false:=by simpa using her
  have e2:(s.err != 0)=true:=by simpa using her
  unfold ndV;clear her;go_enter Tryz.func18,Tryz.ntmps18;go_wp2_with fail;go_returns;rw [HST.out];exact ⟨rfl,HX0.out⟩
theorem rspec:∀f,RSpec f
 | 0=>fun x hx=>by have:=x.size_pos;omega
 | f+1=>nU (rspec f)
end Go.Proofs.YtnojndgmgkgnpaaGreat.Rf
