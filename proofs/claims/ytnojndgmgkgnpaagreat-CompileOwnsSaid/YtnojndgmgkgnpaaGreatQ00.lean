/- Chapter 10: words and contracts for the law. -/
import Derived.Deep.Slices
import Derived.Deep.Fields
import Derived.ChangeSame
import Derived.ChangeOld
import Derived.Lib.SmallJoins
import Derived.Below
import Derived.Handy
import Derived.Lib.Hide
import Derived.RegionTactic
import Derived.Deep.QuietTactic
import Derived.BigQuiet
import Derived.Outline
import Derived.OwnWalk
import Derived.Test.YtnojndgmgkgnpaaGreatChecked
import Derived.BigGuard
import Derived.Deep.Draws
import Derived.LoopN
import Derived.WalkMore
import Derived.Deep.DeepCutAuto
import Derived.Deep.CutRange
import Derived.Lib.Bytealg
import Derived.Deep.LoopGhost
import Derived.Maps.AppendAt
set_option maxRecDepth 100000
set_option maxHeartbeats 40000000
set_option linter.unusedVariables false
set_option linter.unusedSimpArgs false
namespace Go.Proofs.YtnojndgmgkgnpaaGreat
open Go.ChangeShapes Go.WideShapes Go.ChangeAt Go.RowKit Go.Deep Go.Joins
theorem bM {B:Nat} {a w:World} (h:Below B a w) (n:Nat):Below B a (w.drewN n):=⟨h.os,h.tape,h.output,h.size,h.block⟩
theorem Below.trans' {a b c:World} (h:Below a.heap.size a b) (k:Below b.heap.size b c):Below a.heap.size a c:=h.trans (k.mono h.size)
structure Inv (w0 w W c:World):Prop where
 b0:Below w0.heap.size w0 c
 bw:Below w.heap.size w c
 bW:Below W.heap.size W c
section
variable {w0 w W c d e:World}
theorem Inv.start (h:Below w0.heap.size w0 w) (k:Below w.heap.size w W):Inv w0 w W W:=⟨h.trans (k.mono h.size),k,Below.refl _ _⟩
theorem Inv.go (h:Inv w0 w W c) (k:Below c.heap.size c d):Inv w0 w W d:=⟨h.b0.trans (k.mono h.b0.size),h.bw.trans (k.mono h.bw.size),h.bW.trans (k.mono h.bW.size)⟩
end
def Row (w:World) (A:Option Addr) (n size:Nat) (f:Nat→Nat→Value):Prop:=
 0<n→∃b off,A=some ⟨b,off,none⟩∧b<w.heap.size∧∀i,i<n→∀j,j<size→w.cell? ⟨b,off+i*size+j,none⟩=some (f i j)
section
variable {w w':World} {A:Option Addr} {n size:Nat} {f:Nat→Nat→Value}
theorem Row.below (h:Row w A n size f) (hb:Below w.heap.size w w'):Row w' A n size f:=fun hn=>by
 obtain ⟨b,off,e,hlt,hc⟩:=h hn;exact ⟨b,off,e,Nat.lt_of_lt_of_le hlt hb.size,fun i hi j hj=>(hb.cell (p:=⟨b,_,none⟩) hlt).trans (hc i hi j hj)⟩
end
theorem oQ {w w':World} (hb:Below w.heap.size w w') (row:Option Nat):w.grownBy w' row:=⟨hb.os,hb.tape,hb.output,hb.size,fun k hk _=>hb.block k hk⟩
theorem lX {w w':World} {base:Nat} {e:TypeId} {size:Nat} {v:Value} {n:Nat} {xs:List Value} (h:w.ownsRow base e size v n xs) (hb:Below w.heap.size w w'):w'.ownsRow base e size v n xs:=
 h.kept (oQ hb none) (by cases v.ownBlock <;> simp)
theorem bR {w:World} {base base':Nat} {e:TypeId} {size:Nat} {v:Value} {n:Nat} {xs:List Value} (h:w.ownsRow base e size v n xs) (hb:base'≤base):w.ownsRow base' e size v n xs:=by
 refine ⟨h.1,?_⟩
 rcases h.2 with hn | ⟨g,cap,cur,hv,hg,rest⟩
 ·exact .inl hn
 ·exact .inr ⟨g,cap,cur,hv,by omega,rest⟩
theorem kO {w w':World} {base:Nat} {e:TypeId} {size:Nat} {v:Value} {n:Nat} {xs:List Value} (h:w.ownsRow base e size v n xs) (hg:w.grownBy w' v.ownBlock) (hb:base≤w.heap.size):Below base w w':=
 (Below.refl _ _).grown hg hb (fun k hk=>(h.lt k hk).1)
theorem jZ {w:World} {a:Addr} {v:Value} (h:w.cell? a=some v):a.block<w.heap.size:=by
 rcases Nat.lt_or_ge a.block w.heap.size with hl | hl
 ·exact hl
 ·unfold World.cell? at h;rw [Array.getElem?_eq_none hl] at h;cases h
theorem hH (b off k:Nat):(⟨b,off,none⟩:Addr).add k=⟨b,off+k,none⟩:=by
 unfold Addr.add;split
 ·subst_vars;rfl
 ·rfl
section
variable {H:Type} {enc:TypeId×Value→H} {P:Program} {w:World} {base:Nat} {spare:Nat→Bool} {held:Bool}
theorem qD (w:World) (t:TypeId) (l:List Value):∀(j:Nat) (u:Value),l[j]? =some u→(w.alloc (.cells l.toArray t)).cell? ((⟨w.heap.size,0,none⟩:Addr).add j)=some u:=by
 intro j u hu;rw [hH,Nat.zero_add,World.cell?_alloc_new];simpa using hu
def strOf:Value→ByteArray | .string s=>s | _=>⟨#[]⟩
def addrOf:Value→Option Addr | .slice a _ _=>a | _=>none
def lenOf:Value→Nat | .slice _ n _=>n | _=>0
def capOf:Value→Nat | .slice _ _ c=>c | _=>0
end
theorem bl0 (B:Nat) (w:World):Below B w w:=Below.refl B w
theorem bl1 {B:Nat} {a w:World} (h:Below B a w) (n:Nat):Below B a (w.drewN n):=bM h n
theorem bl2 {B:Nat} {a w:World} (h:Below B a w) (hB:B≤w.heap.size) (o:Obj):Below B a (w.alloc o):=h.alloc hB o
theorem bl3 {B:Nat} {a w:World} (h:Below B a w):Below B a w.drew:=h.drew
theorem bl4 {B:Nat} {a w:World} (h:Below B a w) {p:Addr} (hp:B≤p.block) (u:Value):Below B a (w.setCell p u):=h.setCell hp u
theorem bel {B:Nat} {w w':World} (h:Below B w w':=by (repeat' first | (with_reducible first | exact bl0 _ _ | assumption | apply bl1 | apply bl2 | apply bl3 | apply bl4) | go_size)):Below B w w':=h
theorem J {p:Prop} (h:p):Hid p:=Lib.hid h
theorem aT {a b:Nat} (h:a<b):decide ((a:Int)<(b:Int))=true:=decide_eq_true (by omega)
theorem aF {a b:Nat} (h:¬a<b):decide ((a:Int)<(b:Int))=false:=decide_eq_false (by omega)
theorem aN {a b c:Nat} (h:a<b) (k:b≤c):a<c:=Nat.lt_of_lt_of_le h k
theorem aR {n:Nat}:n≤n:=Nat.le_refl n
theorem aD {p:Prop} [Decidable p] (h:p):decide p=true:=decide_eq_true h
theorem aK {p:Prop} [Decidable p] (h:¬p):decide p=false:=decide_eq_false h
theorem aE {α:Type} (a:α):∃n,a=n:=⟨_,rfl⟩
theorem ba {w:World} {o:Obj}:Below w.heap.size w (w.alloc o):=(Below.refl _ _).alloc aR _
theorem bz (w:World) {w':World} (h:Below w.heap.size w w':=by (repeat' first | (with_reducible first | exact bl0 _ _ | assumption | apply bl1 | apply bl2 | apply bl3 | apply bl4) | go_size)):Below w.heap.size w w':=h
theorem I {P:Prop} (h:P:=by omega):P:=h
theorem Y1 {P:Prop} (h:P:=by rw [e];rfl):P:=h
theorem Y2 {P:Prop} (h:P:=by rw [hW9];exact aU (T:=fun k=>k=w.heap.size) (Turns.refl _ _) (w.heap.size) rfl):P:=h
theorem Y3 {P:Prop} (h:P:=by decide):P:=h
theorem Y4 {P:Prop} (h:P:=by simp;omega):P:=h
theorem Y5 {P:Prop} (h:P:=by rw [ht];decide):P:=h
theorem Y6 {P:Prop} (h:P:=by have:=HPL.out;omega):P:=h
theorem Y7 {P:Prop} (h:P:=by rw [e];decide):P:=h
theorem Y8 {P:Prop} (h:P:=by have:=HPL.out;have:=HN3.out;omega):P:=h
theorem Y9 {P:Prop} (h:P:=by simp [World.frozen?,HT10.out]):P:=h
theorem Y10 {P:Prop} (h:P:=by simp [Act.eval,Act.put]):P:=h
theorem Y11 {P:Prop} (h:P:=by simp [World.cell?,h9]):P:=h
theorem Y12 {P:Prop} (h:P:=by simp):P:=h
theorem Y13 {P:Prop} (h:P:=by simp [results,Tryz.results47,go_sem, *]):P:=h
theorem Y14 {P:Prop} (h:P:=by rw [hW9];exact cM (Below.refl _ _) (Nat.le_succ _)):P:=h
theorem Y15 {P:Prop} (h:P:=by rw [hy.cell];rfl):P:=h
theorem Y16 {P:Prop} (h:P:=by rw [hW9];exact aU (T:=fun k=>k=w.heap.size+1) (Turns.refl _ _) (w.heap.size+1) rfl):P:=h
theorem Y17 {P:Prop} (h:P:=by rw [ha];rfl):P:=h
theorem Y18 {P:Prop} (h:P:=by obtain ⟨lv,cv,nv,D,ps,hy,_⟩:=hx5.1;rw [hy.cell];rfl):P:=h
theorem Y19 {P:Prop} (h:P:=by rw [hW9];exact aV HM.out.res):P:=h
theorem Y20 {P:Prop} (h:P:=by simpa using he):P:=h
theorem Y21 {P:Prop} (h:P:=by have h0:=hgr.code;have h1:=HRM.out;have h2:=HSZ.out;have h9:=kd.size_kids;rw [eb1] at h0;omega):P:=h
theorem Y22 {P:Prop} (h:P:=by simp [World.frozen?,HMZ5.out]):P:=h
theorem Y23 {P:Prop} (h:P:=by rw [HNK.out];exact hm):P:=h
theorem Y24 {P:Prop} (h:P:=by unfold maxLen;omega):P:=h
theorem Y25 {P:Prop} (h:P:=by simp [World.frozen?,HTB.out]):P:=h
theorem Y26 {P:Prop} (h:P:=by simpa using e10):P:=h
theorem Y27 {P:Prop} (h:P:=by rw [IntKind.wrap_i64];omega):P:=h
theorem Y28 {P:Prop} (h:P:=by simp [World.frozen?,har.tb]):P:=h
theorem Y29 {P:Prop} (h:P:=by simpa using e1):P:=h
theorem Y30 {P:Prop} (h:P:=by simp [results,Tryz.results69,go_sem,z0,z1,z2,z3,z4,z5]):P:=h
theorem Y31 {P:Prop} (h:P:=by have h1:=HRM.out;have h2:=HSZ.out;omega):P:=h
theorem Y32 {P:Prop} (h:P:=by simp [World.cell?,har.tb]):P:=h
theorem Y33 {P:Prop} (h:P:=by simp [results,Tryz.results68,go_sem, *]):P:=h
theorem Y34 {P:Prop} (h:P:=by have h1:=HRM.out;omega):P:=h
theorem Y35 {P:Prop} (h:P:=by rw [hcw,HY.out.cell];rfl):P:=h
theorem Y36 {P:Prop} (h:P:=by rw [List.length_drop,HNK.out]):P:=h
theorem Y37 {P:Prop} (h:P:=by {have hB1:=HB1.out;(repeat' first | (with_reducible first | exact bl0 _ _ | assumption | apply bl1 | apply bl2 | apply bl3 | apply bl4) | go_size)}):P:=h
theorem Y38 {P:Prop} (h:P:=by rw [hW9];exact aV HZ.out):P:=h
theorem Y39 {P:Prop} (h:P:=by rw [World.size_alloc];have:=aA HBX3.out;omega):P:=h
theorem Y40 {P:Prop} (h:P:=by kernel_rfl):P:=h
theorem Y41 {P:Prop} (h:P:=by simp [results,Tryz.results16,go_sem,z0,z1,z2,z3,z4,z5]):P:=h
theorem Y42 {P:Prop} (h:P:=by simp [results,Tryz.results86,go_sem,z0,z1,z2,z3,z4,z5]):P:=h
theorem Y43 {P:Prop} (h:P:=by rw [←hPk];exact .inr ⟨Nat.le_refl _,HBX.out⟩):P:=h
theorem Y44 {P:Prop} (h:P:=by rw [←hw3];(repeat' first | (with_reducible first | exact bl0 _ _ | assumption | apply bl1 | apply bl2 | apply bl3 | apply bl4) | go_size)):P:=h
theorem Y45 {P:Prop} (h:P:=by have:=HG.out;have:=HLT.out;omega):P:=h
theorem Y46 {P:Prop} (h:P:=by simp [results,Tryz.results9,go_sem,z0,z1,z2,z3,z4,z5]):P:=h
theorem Y47 {P:Prop} (h:P:=by rw [hW3];(repeat' first | (with_reducible first | exact bl0 _ _ | assumption | apply bl1 | apply bl2 | apply bl3 | apply bl4) | go_size)):P:=h
theorem Y48 {P:Prop} (h:P:=by rw [HL.out];exact hlt):P:=h
theorem Y49 {P:Prop} (h:P:=by first | (simp;done) | simp_all):P:=h
theorem Y50 {P:Prop} (h:P:=by simp only [World.size_alloc];omega):P:=h
theorem Y51 {P:Prop} (h:P:=by have h9:=HF5.out;simp only [toP,List.length_set];exact h9):P:=h
theorem Y52 {P:Prop} (h:P:=by rw [hW9];exact mL (X:=fun k=>k=w.heap.size) (Turns.refl _ _) w.heap.size rfl):P:=h
theorem Y53 {P:Prop} (h:P:=by have h2:=HSK.out;have h9:=kd.size_kids;omega):P:=h
theorem Y54 {P:Prop} (h:P:=by rw [hU];exact aU (T:=fun k=>k=w.heap.size) (Turns.refl _ _) w.heap.size rfl):P:=h
theorem Y55 {P:Prop} (h:P:=by simp [World.frozen?,htb3]):P:=h
theorem Y56 {P:Prop} (h:P:=by simp [World.cell?,har.ob]):P:=h
theorem Y57 {P:Prop} (h:P:=by rw [HRT.out,if_neg (fun z=>z HE.out),if_neg (by rw [HNL.out];exact h60),if_pos (by rw [HNC.out];exact h400)]):P:=h
theorem Y58 {P:Prop} (h:P:=by rw [HRT.out,if_neg (fun z=>z HE.out),if_neg (by rw [HNL.out];exact h60),if_neg (by rw [HNC.out];exact h400)]):P:=h
theorem Y59 {P:Prop} (h:P:=by simp [World.frozen?,hmz]):P:=h
theorem Y60 {P:Prop} (h:P:=by show _=_;rw [ha];have:=iZ s i;rw [hlt] at this;simpa using this.symm):P:=h
theorem Y61 {P:Prop} (h:P:=by simp [World.frozen?,hT]):P:=h
theorem Y62 {P:Prop} (h:P:=by simp [World.cell?,hbx1]):P:=h
theorem Y63 {P:Prop} (h:P:=by simp [World.cell?,htb3]):P:=h
theorem Y64 {P:Prop} (h:P:=by have h1:=HN.out.ok.klen;unfold maxLen at h1;omega):P:=h
theorem Y65 {P:Prop} (h:P:=by unfold cA;rw [if_pos HW.out.1];simp only [HAB.out,HQ.out.1,HQ.out.2,Bool.and_true,if_true,HW.out.2]):P:=h
theorem Y66 {P:Prop} (h:P:=by first | (simp [aQ];done) | (rw [aP HO.out];rfl)):P:=h
theorem Y67 {P:Prop} (h:P:=by unfold wrap64;omega):P:=h
theorem Y68 {P:Prop} (h:P:=by have:=HNX.out;omega):P:=h
theorem Y69 {P:Prop} (h:P:=by simp [World.cell?,hT]):P:=h
theorem Y70 {P:Prop} (h:P:=by rw [HD.out,hkn,←HNK.out,List.drop_length];rfl):P:=h
theorem Y71 {P:Prop} (h:P:=by have h0:=hgr.code;have h1:=HRM.out;have h2:=HSZ.out;have h3:=kd.size_pos;rw [aM] at h0;omega):P:=h
theorem Y72 {P:Prop} (h:P:=by rw [←hP1];exact .inr rfl):P:=h
theorem Y73 {P:Prop} (h:P:=by rw [hW9];exact aU (T:=fun k=>k=w.heap.size+1) (Turns.of_below HBR.out) (w.heap.size+1) rfl):P:=h
theorem Y74 {P:Prop} (h:P:=by have h1:=hok.nlen;unfold maxLen at h1;omega):P:=h
theorem Y75 {P:Prop} (h:P:=by have h1:=hok.tlen;unfold maxLen at h1;omega):P:=h
theorem Y76 {P:Prop} (h:P:=by have h1:=hok.klen;unfold maxLen at h1;omega):P:=h
theorem Y77 {P:Prop} (h:P:=by unfold fJ;rw [h];rfl):P:=h
theorem Y78 {P:Prop} (h:P:=by rw [HD.out,HDR.out,hny]):P:=h
theorem Y79 {P:Prop} (h:P:=by have h9:=HK.out;rw [hkk] at h9;simp only [List.cons.injEq] at h9;exact ⟨h9.1.symm,h9.2⟩):P:=h
theorem Y80 {P:Prop} (h:P:=by rw [World.size_alloc];exact Nat.le_succ _):P:=h
theorem Y81 {P:Prop} (h:P:=by have h0:=HGR.out;have h1:=HRM.out;have h2:=HSZ.out;have h3:=kd.size_pos;rw [aM];omega):P:=h
theorem Y82 {P:Prop} (h:P:=by rw [HNK.out];exact hlt):P:=h
theorem Y83 {P:Prop} (h:P:=by simp [results,Tryz.results73,go_sem,z0,z1,z2,z3,z4,z5]):P:=h
theorem Y84 {P:Prop} (h:P:=by simp [results,Tryz.results52,go_sem,z0,z1,z2,z3,z4,z5]):P:=h
theorem Y85 {P:Prop} (h:P:=by simp [results,Tryz.results11,go_sem,z0,z1,z2,z3,z4,z5]):P:=h
theorem Y86 {P:Prop} (h:P:=by go_size):P:=h
theorem Y87 {P:Prop} (h:P:=by have h0:=HGR.out.code;have h1:=HRM.out;have h2:=HSZ.out;have h3:=kd.size_pos;omega):P:=h
theorem Y88 {P:Prop} (h:P:=by rw [Nat.add_assoc (q-(i+1)) 1,HDL.out,HDL.out,HM.out,←Nat.add_assoc];exact HC3.out):P:=h
theorem Y89 {P:Prop} (h:P:=by simp [Value.oneCell']):P:=h
theorem Y90 {P:Prop} (h:P:=by rw [hW9];exact aV HTB.out):P:=h
theorem Y91 {P:Prop} (h:P:=by rw [HB.out];decide):P:=h
theorem Y92 {P:Prop} (h:P:=by simp [Region.wanted,hgd]):P:=h
theorem Y93 {P:Prop} (h:P:=by have h0:=hgr.code;have h1:=HRM.out;have h2:=HSZ.out;have h3:=kd.size_pos;omega):P:=h
theorem Y94 {P:Prop} (h:P:=by simp [World.frozen?,xb9]):P:=h
theorem Y95 {P:Prop} (h:P:=by simp [World.frozen?,xa9]):P:=h
theorem Y96 {P:Prop} (h:P:=by have:=HFU.out;have:=HMO.out;have:=HLT.out;show 8*(T.length-(sk.i+1))+1<f;omega):P:=h
theorem Y97 {P:Prop} (h:P:=by simp [World.frozen?,ho9]):P:=h
theorem Y98 {P:Prop} (h:P:=by simp [World.cell?,hna.box,fR]):P:=h
theorem Y99 {P:Prop} (h:P:=by have h0:=HGR.out;have h1:=HRM.out;have h2:=HSZ.out;have h3:=kd.size_pos;omega):P:=h
theorem Y100 {P:Prop} (h:P:=by rw [←hs6,←hs5];exact ((o3.tm t1).tm (Tm.emit _ _ _ _)).tm (Tm.emit _ _ _ _)):P:=h
theorem Y101 {P:Prop} (h:P:=by simp [World.frozen?,hna.box]):P:=h
theorem Y102 {P:Prop} (h:P:=by rw [ho];rfl):P:=h
theorem Y103 {P:Prop} (h:P:=by simpa using hm):P:=h
theorem Y104 {P:Prop} (h:P:=by simp [results,Tryz.results36,go_sem,z0,z1,z2,z3]):P:=h
theorem Y105 {P:Prop} (h:P:=by show _=_;rw [ha'];have:=iZ s (i+1);rw [hlt] at this;simpa using this.symm):P:=h
theorem Y106 {P:Prop} (h:P:=by rw [List.length_map] at hi;exact hi):P:=h
theorem Y107 {P:Prop} (h:P:=by rw [HRT.out,if_neg (fun z=>z HE.out),if_pos (by rw [HNL.out];exact h60)]):P:=h
theorem Y108 {P:Prop} (h:P:=by rw [HNL.out];exact h60):P:=h
theorem Y109 {P:Prop} (h:P:=by have:=HFU.out;have:=HMO.out;have:=HLT.out;omega):P:=h
theorem Y110 {P:Prop} (h:P:=by rw [HDL0.out];exact HC.out):P:=h
theorem Y111 {P:Prop} (h:P:=by rw [HN.out];exact hlt):P:=h
theorem Y112 {P:Prop} (h:P:=by have h3:=cR x.kids i hi;have h4:=HBD.out.1;have h5:=x.size_kids;omega):P:=h
theorem Y113 {P:Prop} (h:P:=by have h1:=hn.ok.klen;unfold maxLen at h1;omega):P:=h
theorem Y114 {P:Prop} (h:P:=by first | decide | simpa using hx0):P:=h
theorem Y115 {P:Prop} (h:P:=by rw [hW9];exact (((HBW.out.setCell aR _).setCell aR _).setCell aR _)):P:=h
theorem Y116 {P:Prop} (h:P:=by first | (simp [aQ];done) | (rw [aP HO.out])):P:=h
theorem Y117 {P:Prop} (h:P:=by rw [ea1];have h1:=HRM.out;omega):P:=h
theorem Y118 {P:Prop} (h:P:=by simpa using e7):P:=h
theorem Y119 {P:Prop} (h:P:=by simp [World.frozen?,hcg]):P:=h
theorem Y120 {P:Prop} (h:P:=by have h1:=HRM.out;rw [aM];omega):P:=h
theorem Y121 {P:Prop} (h:P:=by rw [List.drop_drop];exact hsg2):P:=h
theorem Y122 {P:Prop} (h:P:=by unfold atV;rw [dif_pos hi,←bO hi,h58];rfl):P:=h
theorem Y123 {P:Prop} (h:P:=by simpa using h):P:=h
theorem Y124 {P:Prop} (h:P:=by rw [hab];simp):P:=h
theorem Y125 {P:Prop} (h:P:=by rw [←HT.out];exact gK HOK.out):P:=h
theorem Y126 {P:Prop} (h:P:=by have h0:=HGR.out;have h1:=HRM.out;have h3:=kd.size_pos;omega):P:=h
theorem Y127 {P:Prop} (h:P:=by have h9:=HBD.out.2.2.2;omega):P:=h
theorem Y128 {P:Prop} (h:P:=by cases hk):P:=h
theorem Y129 {P:Prop} (h:P:=by simp [LitT.kids_]):P:=h
theorem Y130 {P:Prop} (h:P:=by simpa [LitT.kids_] using hi):P:=h
theorem Y131 {P:Prop} (h:P:=by rw [hpk.2.2.1];have h1:=hgr.code;have h2:=HBD.out.1;omega):P:=h
theorem Y132 {P:Prop} (h:P:=by rw [List.length_append];rfl):P:=h
theorem Y133 {P:Prop} (h:P:=by simp [results,Tryz.results78,go_sem]):P:=h
theorem Y134 {P:Prop} (h:P:=by rw [List.getElem_drop];congr 1;omega):P:=h
theorem Y135 {P:Prop} (h:P:=by simp [results,Tryz.results36,go_sem]):P:=h
theorem Y136 {P:Prop} (h:P:=by unfold maxLen at hnl;omega):P:=h
theorem Y137 {P:Prop} (h:P:=by unfold maxLen at hkl;omega):P:=h
theorem Y138 {P:Prop} (h:P:=by rw [hW9];exact aV HT10.out):P:=h
theorem Y139 {P:Prop} (h:P:=by rw [hW9];exact aV nb):P:=h
theorem Y140 {P:Prop} (h:P:=by rw [HKX.out];exact HV.out):P:=h
theorem Y141 {P:Prop} (h:P:=by rw [HPX.out];exact HV.out):P:=h
theorem Y142 {P:Prop} (h:P:=by have:=HFU.out;omega):P:=h
theorem Y143 {P:Prop} (h:P:=by simp [World.frozen?,hg5]):P:=h
theorem Y144 {P:Prop} (h:P:=by simp [World.cell?,hbx2]):P:=h
theorem Y145 {P:Prop} (h:P:=by rw [HNC.out];exact h400):P:=h
theorem Y146 {P:Prop} (h:P:=by have:=HOK.out.len;omega):P:=h
theorem Y147 {P:Prop} (h:P:=by simpa using e3):P:=h
theorem Y148 {P:Prop} (h:P:=by simpa using e2):P:=h
theorem Y149 {P:Prop} (h:P:=by simpa using hk):P:=h
theorem Y150 {P:Prop} (h:P:=by simp [World.cell?,hfb]):P:=h
theorem Y151 {P:Prop} (h:P:=by simp [World.cell?,hb6]):P:=h
theorem Y152 {P:Prop} (h:P:=by simp [NodT.sizes]):P:=h
theorem Y153 {P:Prop} (h:P:=by rw [HNK.out];exact e0):P:=h
theorem Y154 {P:Prop} (h:P:=by simp [World.cell?,x0]):P:=h
theorem Y155 {P:Prop} (h:P:=by unfold atV;rw [dif_pos hi,hx]):P:=h
theorem Y156 {P:Prop} (h:P:=by simp at hi;omega):P:=h
theorem Y157 {P:Prop} (h:P:=by rw [←ha,hk,jH,←hxb];exact h1):P:=h
theorem Y158 {P:Prop} (h:P:=by rw [←ha,hk,kJ,←hxb];exact h2):P:=h
theorem Y159 {P:Prop} (h:P:=by rw [←ha,hk,lQ,←hxb];exact h3):P:=h
theorem Y160 {P:Prop} (h:P:=by rw [←ha,hk,kI,←hxb];exact h4):P:=h
theorem Y161 {P:Prop} (h:P:=by have:=htg.size;omega):P:=h
theorem Y162 {P:Prop} (h:P:=by rw [←hka1];exact hv0):P:=h
end Go.Proofs.YtnojndgmgkgnpaaGreat
namespace Go.Proofs.YtnojndgmgkgnpaaGreat
structure Ins where
 op:Int
 a:Int
 b:Int
deriving DecidableEq
def aQ (op:Int):Int:=if 14≤op∧op≤18 then 2 else if 6≤op∧op≤11 then 1 else 0
def gZ (n:Int) (u:Bool):Bool:=n==0 || (u && decide (0<n) && decide (n≤255))
def fD (i:Ins):Bool:=decide (1≤i.op) && decide (i.op≤20) && gZ i.a (decide (0<aQ i.op)) && gZ i.b (decide (1<aQ i.op))
def leadsB (op:Int):Bool:=op==16 || op==17
def vX (i:Ins):Int:=if leadsB i.op then i.a+i.b*256 else -1
def growsV (i:Ins):Int:=
 if (1≤i.op∧i.op≤9)∨i.op=13∨i.op=18 then 1
 else if i.op=12∨i.op=17∨i.op=19∨i.op=20 then -1
 else if i.op=14∨i.op=15 then -i.b
 else 0
def needsV (i:Ins):Int:=
 if i.op=12∨i.op=13∨i.op=10∨i.op=11∨i.op=17∨i.op=19∨i.op=20 then 1
 else if i.op=14∨i.op=15 then i.b+1
 else 0
theorem uH {i:Ins} (h:fD i=true):1≤i.op∧i.op≤20∧0≤i.a∧i.a≤255∧0≤i.b∧i.b≤255:=by
 unfold fD gZ at h;simp only [Bool.and_eq_true,Bool.or_eq_true,decide_eq_true_eq,beq_iff_eq] at h;omega
def endV (n:Nat) (C:Nat→Ins) (p:Nat):Int:=
 if (C p).op=18∧p+1<n∧(C (p+1)).op=16∧(p:Int)+2<vX (C (p+1)) then vX (C (p+1)) else -1
def ownK (n:Nat) (C:Nat→Ins) (at_:Nat):Nat→Int
 | 0=> -1
 | k+1=>if k+2≤at_∧(at_:Int)<endV n C k then (k:Int) else ownK n C at_ k
def ownV (n:Nat) (C:Nat→Ins) (at_:Nat):Int:=ownK n C at_ n
section
variable (n:Nat) (root:Nat→Bool) (chk:Nat→Int→Bool) (succ:Nat→List Int) (okp:Nat→Int→Bool) (aft:Nat→Int→Int)
inductive Reach:Nat→Int→Prop
 | start (p:Nat):p<n→root p=true→Reach p 0
 | step (p q:Nat) (d:Int):Reach p d→chk p d=true→(q:Int)∈succ p→okp p q=true→Reach q (aft p d)
def Bad:Prop:=(∃p d,Reach n root chk succ okp aft p d∧(chk p d=false∨∃q,q∈succ p∧okp p q=false))∨
 ∃p d e,Reach n root chk succ okp aft p d∧Reach n root chk succ okp aft p e∧d≠e
def Sound (out:Nat→Int):Prop:=(∀p,p<n→0≤out p→Reach n root chk succ okp aft p (out p))∧(∀p,p<n→out p= -1∨0≤out p)∧∀p,p<n→root p=true→out p=0
def ClosedAt (out:Nat→Int) (p:Nat):Prop:=chk p (out p)=true∧∀q,q∈succ p→okp p q=true∧out q.toNat=aft p (out p)
def Closed (out:Nat→Int):Prop:=∀p,p<n→0≤out p→ClosedAt chk succ okp aft out p
end
section
variable {n:Nat} {root:Nat→Bool} {chk:Nat→Int→Bool} {succ:Nat→List Int} {okp:Nat→Int→Bool} {aft:Nat→Int→Int}
end
end Go.Proofs.YtnojndgmgkgnpaaGreat
namespace Go.Proofs.YtnojndgmgkgnpaaGreat
open Go.ChangeShapes Go.WideShapes Go.ChangeAt Go.RowKit Go.Deep Go.Joins
def vY (i:Ins):Nat→Value
 | 0=>.int .i64 i.op
 | 1=>.int .i64 i.a
 | _=>.int .i64 i.b
def IsCode (w:World) (p:Option Addr) (n:Nat) (C:Nat→Ins):Prop:=Row w p n 3 (fun i=>vY (C i))
theorem IsCode.at_ {w0 w:World} {p:Option Addr} {n:Nat} {C:Nat→Ins} (h:IsCode w0 p n C) (hB:Below w0.heap.size w0 w) {k:Nat} (hk:k<n):
  ∃b off,p=some ⟨b,off,none⟩∧b<w0.heap.size∧w.cell? ⟨b,off+k*3,none⟩=some (.int .i64 (C k).op)∧w.cell? ⟨b,off+k*3+1,none⟩=some (.int .i64 (C k).a)∧w.cell? ⟨b,off+k*3+2,none⟩=some (.int .i64 (C k).b):=by
 obtain ⟨b,off,e,hlt,hc⟩:=h I;exact ⟨b,off,e,hlt,(hB.cell (p:=⟨b,off+k*3+0,none⟩) hlt).trans (hc k hk 0 I),(hB.cell (p:=⟨b,off+k*3+1,none⟩) hlt).trans (hc k hk 1 I),(hB.cell (p:=⟨b,off+k*3+2,none⟩) hlt).trans (hc k hk 2 I)⟩
inductive LitT where
 | node (kind:Int) (text:ByteArray) (num:Int) (kids:List LitT)
inductive IsLit (w:World):LitT→(Nat→Value)→Prop
 | node (k:Int) (s:ByteArray) (n:Int) (ks:List LitT) (p:Option Addr) (c:Nat) (F:Nat→Nat→Value) (f:Nat→Value):
   f 0= .int .i64 k→f 1= .string s→f 2= .int .i64 n→f 3= .slice p ks.length c→ks.length≤c→c≤9223372036854775807→s.size≤9223372036854775807→
   Row w p ks.length 4 F→(∀(i:Nat) (h:i<ks.length),IsLit w ks[i] (F i))→IsLit w (.node k s n ks) f
mutual
def okL:Int→LitT→Bool
 | deep,.node k s n ks=>
  if k==1 then s.size==0 && ks.length==0 && decide (-1152921504606846976≤n∧n≤1152921504606846976)
  else if k==2 then n==0 && ks.length==0 && decide (s.size≤250)
  else if k==3 then n==0 && ks.length==0 && decide (1≤s.size∧s.size≤60)
  else if k==4 then n==0 && s.size==0 && decide (0<deep) && decide (ks.length≤250) && okLs (deep-1) ks
  else false
def okLs:Int→List LitT→Bool
 | _,[]=>true
 | deep,t :: ts=>okL deep t && okLs deep ts
end
def IsLits (w:World) (p:Option Addr) (n:Nat) (F:Nat→Nat→Value) (ts:List LitT):Prop:=ts.length=n∧Row w p n 4 F∧∀(i:Nat) (h:i<ts.length),IsLit w ts[i] (F i)
end Go.Proofs.YtnojndgmgkgnpaaGreat
namespace Go.Proofs.YtnojndgmgkgnpaaGreat
structure Nm where
 name:ByteArray
 kind:Int
 at_:Int
inductive NodT where
 | node (kind:Int) (text:ByteArray) (num:Int) (names temps:List ByteArray) (kids:List NodT)
namespace NodT
def kind:NodT→Int | node k _ _ _ _ _=>k
def text:NodT→ByteArray | node _ t _ _ _ _=>t
def num:NodT→Int | node _ _ n _ _ _=>n
def names:NodT→List ByteArray | node _ _ _ l _ _=>l
def temps:NodT→List ByteArray | node _ _ _ _ l _=>l
def kids:NodT→List NodT | node _ _ _ _ _ l=>l
mutual
def size:NodT→Nat
 | node _ _ _ _ _ ks=>1+sizes ks
def sizes:List NodT→Nat
 | []=>0
 | k :: ks=>size k+sizes ks
end
theorem size_pos:∀x:NodT,1≤x.size
 | node _ _ _ _ _ ks=>by unfold size;omega
theorem size_kids (x:NodT):x.size=1+sizes x.kids:=by cases x;unfold size;rfl
theorem size_mem:∀{l:List NodT} {k:NodT},k∈l→k.size≤sizes l
 | a :: l,k,h=>by
  unfold sizes
  rcases List.mem_cons.1 h with rfl | q
  ·omega
  ·have:=size_mem q;omega
theorem size_kid {x k:NodT} (h:k∈x.kids):k.size<x.size:=by rw [size_kids x];have:=size_mem h;omega
end NodT
structure CSt where
 names:List Nm
 temps:Nat
 lits:List LitT
 code:List Ins
 ename:ByteArray
 err:Int
abbrev eB:ByteArray:=⟨#[]⟩
def eE:List UInt8:=[115,101,108,102]
def cG:List UInt8:=[115,117,112,101,114]
def gS:List UInt8:=[110,105,108]
def eZ:List UInt8:=[116,114,117,101]
def dU:List UInt8:=[102,97,108,115,101]
def cL:List UInt8:=[116,104,105,115,67,111,110,116,101,120,116]
def eH:List UInt8:=[105,102,84,114,117,101,58]
def dP:List UInt8:=[105,102,70,97,108,115,101,58]
def uI:List UInt8:=[97,110,100,58]
def bOr:List UInt8:=[111,114,58]
def dK:List UInt8:=[119,104,105,108,101,84,114,117,101,58]
def gM:List UInt8:=[119,104,105,108,101,70,97,108,115,101,58]
def dH (s:ByteArray):Bool:=s.toList==eE || s.toList==cG || s.toList==gS || s.toList==eZ || s.toList==dU || s.toList==cL
def fA (s:ByteArray):Bool:=match s.toList with
 | []=>false
 | c :: _=>decide (65≤c.toNat) && decide (c.toNat≤90)
def cE (l:List Nm) (s:ByteArray):Option Nm:=l.find? (fun k=>k.name.toList==s.toList)
def aG (s:CSt) (name:ByteArray) (e:Int):CSt:=if s.err=0 then {s with ename:=name,err:=e} else s
def aB (s:CSt) (op a b:Int):CSt:={s with code:=s.code++[⟨op,a,b⟩]}
def toP (s:CSt) (at_:Nat) (op:Int) (target:Nat):CSt:={s with code:=s.code.set at_ ⟨op,((target % 256:Nat):Int),((target / 256:Nat):Int)⟩}
def kS (s:CSt) (n:ByteArray) (fixed:Bool):CSt:={s with names:=s.names++[⟨n,if fixed then 3 else 2,(s.temps:Int)⟩],temps:=s.temps+1}
def gL (s:CSt) (n:ByteArray):CSt:=
 let s1:=if (cE s.names n).isSome || dH n then aG s n 16 else s
 if s1.temps=24 then aG s1 n 18 else s1
def bI (fixed:Bool):List ByteArray→CSt→CSt
 | [],s=>s
 | n :: r,s=>if (gL s n).err≠0 then gL s n else bI fixed r (kS (gL s n) n fixed)
mutual
def eA:LitT→LitT→Bool
 | .node k s n ks,.node k' s' n' ks'=>k==k' && s.toList==s'.toList && n==n' && fN ks ks'
def fN:List LitT→List LitT→Bool
 | [],[]=>true
 | a :: l,b :: r=>eA a b && fN l r
 | _,_=>false
end
def bS (s:CSt) (l:LitT):Nat×CSt:=match s.lits.findIdx? (fun k=>eA k l) with
 | some i=>(i,s)
 | none=>(s.lits.length,{s with lits:=s.lits++[l]})
def fO (s:CSt) (t:ByteArray):Nat×CSt:=bS s (.node 3 t 0 [])
mutual
def dS:NodT→CSt→LitT×CSt
 | .node k t n _ _ ks,s=>
  if k=1 then (.node 1 eB n [],s)
  else if k=2 then (.node 2 t 0 [],s)
  else if k=3 then (.node 3 t 0 [],s)
  else if k=4 then (.node 4 eB 0 (gC ks s).1,(gC ks s).2)
  else (.node 0 eB 0 [],aG s eB 1)
def gC:List NodT→CSt→List LitT×CSt
 | [],s=>([],s)
 | x :: r,s=>((dS x s).1 :: (gC r (dS x s).2).1,(gC r (dS x s).2).2)
end
def gG (s:CSt) (n:ByteArray):CSt:=
 if n.toList=eE then aB s 1 0 0
 else if n.toList=gS then aB s 2 0 0
 else if n.toList=eZ then aB s 3 0 0
 else if n.toList=dU then aB s 4 0 0
 else if n.toList=cL then aB s 5 0 0
 else
  let s1:=if n.toList=cG then aG s n 15 else s
  match cE s1.names n with
  | some k=>if k.kind=1 then aB s1 8 k.at_ 0 else aB s1 7 k.at_ 0
  | none=>if fA n then aB (fO s1 n).2 9 (fO s1 n).1 0 else aG s1 n 15
section
variable (rec:NodT→CSt→CSt)
def dC (s:CSt) (k:Option Nm) (n:ByteArray):CSt:=
 match k with
 | none=>if !dH n && !fA n then aG s n 15 else aG s n 17
 | some k=>if k.kind=3 || dH n then aG s n 17 else if k.kind=1 then aB s 11 k.at_ 0 else aB s 10 k.at_ 0
def fI (x:NodT) (s:CSt):CSt:=match x.kids with
 | [k]=>dC (rec k s) (cE s.names x.text) x.text
 | _=>aG s eB 1
def mB (x:NodT):Bool:=decide (x.kind=5) && (x.text.toList==cG)
def bU (x:NodT):Bool:=decide (x.kind=9) && decide (x.names.length=0)
def cS (x:NodT) (s:CSt):Int×CSt:=if mB x then (15,aB s 1 0 0) else (14,rec x s)
def hY:List NodT→CSt→CSt
 | [],s=>s
 | a :: r,s=>hY r (rec a s)
def cT (op:Int) (sel:ByteArray) (args:List NodT) (s:CSt):CSt:=
 aB (fO (hY rec args s) sel).2 op (fO (hY rec args s) sel).1 args.length
def dD:Bool→List NodT→CSt→CSt
 | _,[],s=>s
 | first,k :: r,s=>
  let s1:=rec k (if first then s else aB s 12 0 0)
  dD false r (if k.kind=10 then aB s1 2 0 0 else s1)
def cN (x:NodT) (s:CSt):CSt:=
 let s1:=dD rec true x.kids (bI false x.temps (bI true x.names s))
 let s2:=if x.kids.length=0 then aB s1 2 0 0 else s1
 {s2 with names:=s.names}
inductive Arm where
 | op (o:Int)
 | kid (i:Nat)
def fJ (t:ByteArray):Option (Arm×Arm×Nat):=
 if t.toList=eH then some (.kid 1,.op 2,2)
 else if t.toList=dP then some (.op 2,.kid 1,2)
 else if t.toList=uI then some (.kid 1,.op 4,2)
 else if t.toList=bOr then some (.op 3,.kid 1,2)
 else if t.toList=eH++dP then some (.kid 1,.kid 2,3)
 else if t.toList=dP++eH then some (.kid 2,.kid 1,3)
 else none
def dM (a:Arm) (kids:List NodT) (s:CSt):CSt:=match a with
 | .op o=>aB s o 0 0
 | .kid i=>match kids[i]? with
  | some k=>cN rec k s
  | none=>s
def cD (yes no:Arm) (kids:List NodT) (s:CSt):CSt:=
 let s1:=match kids with | k :: _=>rec k s | []=>s
 let s2:=dM rec yes kids (aB s1 17 0 0)
 let s3:=aB s2 16 0 0
 let s4:=dM rec no kids (toP s3 s1.code.length 17 s3.code.length)
 toP s4 s2.code.length 16 s4.code.length
def fE (whil:Bool) (k0 k1:NodT) (s:CSt):CSt:=
 let s1:=cN rec k0 s
 let s2:=aB s1 17 0 0
 let s3:=if whil then s2 else toP (aB s2 16 0 0) s1.code.length 17 (s2.code.length+1)
 let s4:=aB (cN rec k1 s3) 12 0 0
 let s5:=toP (aB s4 16 0 0) s4.code.length 16 s.code.length
 let s6:=if whil then toP s5 s1.code.length 17 s5.code.length else toP s5 s2.code.length 16 s5.code.length
 aB s6 2 0 0
def eX (x:NodT):Option (Arm×Arm):=match fJ x.text with
 | some (y,n,m)=>if x.kids.length=m∧(x.kids.drop 1).all bU=true then some (y,n) else none
 | none=>none
def cA (x:NodT):Option (Bool×NodT×NodT):=
 if x.text.toList=dK∨x.text.toList=gM then
  match x.kids with
  | [a,b]=>if bU a && bU b then some (decide (x.text.toList=dK),a,b) else none
  | _=>none
 else none
def iU (x:NodT) (s:CSt):CSt:=match x.kids with
 | []=>aG s eB 1
 | k :: args=>match eX x with
  | some (y,n)=>cD rec y n x.kids s
  | none=>match cA x with
   | some (w,a,b)=>fE rec w a b s
   | none=>cT rec (cS rec k s).1 x.text args (cS rec k s).2
def eF (op:Int):List NodT→CSt→CSt
 | [],s=>s
 | m :: r,s=>
  let s1:=if m.kind≠7 then aG s eB 1 else s
  if r.length=0 then cT rec op m.text m.kids s1
  else eF op r (aB (cT rec op m.text m.kids (aB s1 13 0 0)) 12 0 0)
def iV (x:NodT) (s:CSt):CSt:=match x.kids with
 | k :: m :: r=>eF rec (cS rec k s).1 (m :: r) (cS rec k s).2
 | _=>aG s eB 1
def iW (x:NodT) (s:CSt):CSt:=
 let s1:=aB s 18 s.temps x.names.length
 let s2:=aB (cN rec x (aB s1 16 0 0)) 19 0 0
 toP s2 s1.code.length 16 s2.code.length
def dV (x:NodT) (s:CSt):CSt:=
 if s.err≠0 then s
 else if x.kind=1∨x.kind=2∨x.kind=3∨x.kind=4 then aB (bS (dS x s).2 (dS x s).1).2 6 (bS (dS x s).2 (dS x s).1).1 0
 else if x.kind=5 then gG s x.text
 else if x.kind=6 then fI rec x s
 else if x.kind=7 then iU rec x s
 else if x.kind=8 then iV rec x s
 else if x.kind=9 then iW rec x s
 else if x.kind=10 then (match x.kids with | [k]=>aB (rec k s) 20 0 0 | _=>aG s eB 1)
 else aG s eB 1
def bB (value:Bool):List NodT→CSt→CSt
 | [],s=>aB (if value then aB s 2 0 0 else aB s 1 0 0) 20 0 0
 | k :: r,s=>
  let s1:=rec k s
  if r.length=0∧k.kind=10 then s1
  else if r.length=0∧value=true then aB s1 20 0 0
  else if k.kind=10 then bB value r s1
  else bB value r (aB s1 12 0 0)
def fP (x:NodT) (value:Bool) (s:CSt):CSt:=bB rec value x.kids (bI false x.temps (bI true x.names s))
end
def aL:Nat→NodT→CSt→CSt
 | 0,_,s=>s
 | f+1,x,s=>dV (aL f) x s
def kA (fields:List ByteArray):List Nm:=fields.mapIdx (fun i f=>⟨f,1,(i:Int)⟩)
def eU (fields:List ByteArray):CSt:=⟨kA fields,0,[],[],eB,0⟩
structure MetT where
 sel:ByteArray
 args:Nat
 temps:Nat
 prim:Int
 lits:List LitT
 code:List Ins
def noMet:MetT:=⟨eB,0,0,0,[],[]⟩
def eW (f:Nat) (x:NodT) (fields:List ByteArray) (value:Bool):MetT×ByteArray×Int:=
 if x.kind≠11∨8<fields.length then (noMet,eB,1)
 else
  let s:=fP (aL f) x value (eU fields)
  if s.err≠0 then (noMet,s.ename,s.err)
  else if 60<s.lits.length then (noMet,eB,18)
  else if 400<s.code.length then (noMet,eB,12)
  else if s.code.all fD then (⟨x.text,x.names.length,s.temps,x.num,s.lits,s.code⟩,eB,0)
  else (noMet,eB,12)
end Go.Proofs.YtnojndgmgkgnpaaGreat
namespace Go.Proofs.YtnojndgmgkgnpaaGreat.Lx
abbrev Bs:=List UInt8
def dE (c:UInt8):Bool:=(97≤c && c≤122) || (65≤c && c≤90)
def digB (c:UInt8):Bool:=48≤c && c≤57
def rI (c:UInt8):Bool:=dE c || digB c
def signs:Bs:=[43,45,42,47,60,62,61,126,44,64,38,37]
def marks:Bs:=[94,46,59,40,41,91,93,124]
def cF (c:UInt8):Bool:=signs.contains c
def gD (c:UInt8):Bool:=marks.contains c
def fQ (c:UInt8):Bool:=c==9 || c==10 || c==13 || c==32
structure Tok where
 kind:Int
 text:Bs
 num:Int
deriving DecidableEq
inductive Took (α:Type) where
 | err (e:Int)
 | ok (a:α) (n:Nat)
def hd (p:UInt8→Bool):Bs→Bool
 | []=>false
 | c :: _=>p c
def cK:Bs→Bool
 | []=>false
 | c :: r=>c==58 && !(hd (·==61) r)
def bA (l:Bs):Nat:=(l.takeWhile rI).length
def big:Int:=1152921504606846976
def numV:Bs→Int→Option Int
 | [],n=>some n
 | c :: r,n=>if digB c then (if n*10+((c.toNat:Int)-48) > big then none else numV r (n*10+((c.toNat:Int)-48))) else some n
def hJ (l:Bs):Nat:=(l.takeWhile digB).length
def txt:Bs→Option (Bs×Nat)
 | []=>none
 | [c]=>if c==39 then some ([],1) else none
 | c :: d :: r=>if c==39 then (if d==39 then (txt r).map (fun x=>(39 :: x.1,x.2+2)) else some ([],1)) else (txt (d :: r)).map (fun x=>(c :: x.1,x.2+1))
def kws:Nat→Bs→Option Nat
 | 0,_=>some 0
 | f+1,l=>if hd dE l && cK (l.drop (bA l)) then (if bA l > 24 then none else (kws f (l.drop (bA l+1))).map (· +(bA l+1))) else some 0
def hZ (l:Bs):Nat:=min (l.takeWhile cF).length 2
def symV (l:Bs):Took Bs:=
 if hd cF l then .ok (l.take (hZ l)) (hZ l)
 else if hd dE l then
  if bA l > 24 then .err 12
  else if cK (l.drop (bA l)) then
   match kws l.length (l.drop (bA l+1)) with
   | none=>.err 12
   | some k=>.ok (l.take (bA l+1+k)) (bA l+1+k)
  else .ok (l.take (bA l)) (bA l)
 else .err 10
def wrdV (l:Bs):Took Tok:=
 if bA l > 24 then .err 12
 else if cK (l.drop (bA l)) then .ok ⟨2,l.take (bA l+1),0⟩ (bA l+1)
 else .ok ⟨1,l.take (bA l),0⟩ (bA l)
def tokV:Bs→Took Tok
 | []=>.err 10
 | c :: r=>
  if dE c then
   wrdV (c :: r)
  else if digB c then
   (match numV (c :: r) 0 with
       | none=>.err 2
       | some n=>.ok ⟨4,[],n⟩ (hJ (c :: r)))
  else if c==39 then
   (match txt r with
       | none=>.err 11
       | some (t,n)=>.ok ⟨5,t,0⟩ (n+1))
  else if c==35 then
   (if hd (·==40) r then .ok ⟨7,[],0⟩ 2
       else match symV r with
       | .err e=>.err e
       | .ok t n=>.ok ⟨6,t,0⟩ (n+1))
  else if c==58 && hd (·==61) r then .ok ⟨9,[],0⟩ 2
  else if c==58 && hd dE r then
   (if bA r > 24 then .err 12 else .ok ⟨8,r.take (bA r),0⟩ (bA r+1))
  else if cF c then .ok ⟨3,(c :: r).take (hZ (c :: r)),0⟩ (hZ (c :: r))
  else if gD c then .ok ⟨10,[c],0⟩ 1
  else .err 10
def jM:Bs→Option Nat
 | []=>none
 | c :: r=>if c==34 then some 0 else (jM r).map (· +1)
def skp:Nat→Bs→Nat×Bool
 | 0,_=>(0,false)
 | _+1,[]=>(0,false)
 | f+1,c :: r=>if fQ c then ((skp f r).1+1,(skp f r).2)
  else if c==34 then
   match jM r with
   | none=>(0,true)
   | some k=>((skp f (r.drop (k+1))).1+(k+2),(skp f (r.drop (k+1))).2)
  else (0,false)
def skipV (l:Bs):Nat×Bool:=skp l.length l
structure ATok where
 kind:Int
 text:Bs
 num:Int
 at_:Nat
deriving DecidableEq
inductive Toks where
 | err (at_:Nat) (e:Int)
 | ok (l:List ATok)
def Toks.cons (t:ATok):Toks→Toks
 | .err a e=>.err a e
 | .ok l=>.ok (t :: l)
def toksF:Nat→Nat→Bs→Toks
 | 0,at_,_=>.err at_ 0
 | f+1,at_,l=>
  if (skipV l).2 then .err (at_+(skipV l).1) 11
  else if (skipV l).1=l.length then .ok [⟨0,[],0,at_+(skipV l).1⟩]
  else match tokV (l.drop (skipV l).1) with
   | .err e=>.err (at_+(skipV l).1) e
   | .ok t n=>.cons ⟨t.kind,t.text,t.num,at_+(skipV l).1⟩ (toksF f (at_+(skipV l).1+n) (l.drop ((skipV l).1+n)))
def toksV (l:Bs):Toks:=toksF (l.length+1) 0 l
theorem mR (l:Bs):bA l≤l.length:=(List.takeWhile_prefix (p:=rI) (l:=l)).length_le
theorem xH (l:Bs):hJ l≤l.length:=(List.takeWhile_prefix (p:=digB) (l:=l)).length_le
theorem sD (l:Bs):hZ l≤l.length:=by
 have:=(List.takeWhile_prefix (p:=cF) (l:=l)).length_le;unfold hZ;omega
theorem rJ {p:UInt8→Bool} {l:Bs} (h:hd p l=true):0<l.length:=by
 cases l with
 | nil=>cases h
 | cons c r=>simp
theorem iO {l:Bs} (h:cK l=true):0<l.length:=by
 cases l with
 | nil=>cases h
 | cons c r=>simp
theorem uJ:∀(l:Bs) (t:Bs) (n:Nat),txt l=some (t,n)→1≤n∧n≤l.length
 | [],t,n,h=>by simp [txt] at h
 | [c],t,n,h=>by
  unfold txt at h
  split at h
  ·simp at h;obtain ⟨_,rfl⟩:=h;simp
  ·cases h
 | c :: d :: r,t,n,h=>by
  unfold txt at h
  split at h
  ·split at h
   ·cases hx:txt r with
    | none=>rw [hx] at h;cases h
    | some x=>rw [hx] at h;simp at h;obtain ⟨_,rfl⟩:=h;have:=uJ r x.1 x.2 hx;simp;omega
   ·simp at h;obtain ⟨_,rfl⟩:=h;simp
  ·cases hx:txt (d :: r) with
   | none=>rw [hx] at h;cases h
   | some x=>rw [hx] at h;simp at h;obtain ⟨_,rfl⟩:=h;have:=uJ (d :: r) x.1 x.2 hx;simp at this ⊢;omega
theorem kws_le:∀(f:Nat) (l:Bs) (k:Nat),kws f l=some k→k≤l.length
 | 0,l,k,h=>by simp [kws] at h;omega
 | f+1,l,k,h=>by
  unfold kws at h
  split at h
  ·next hh=>
   split at h
   ·cases h
   ·cases hx:kws f (l.drop (bA l+1)) with
    | none=>rw [hx] at h;cases h
    | some x=>
     rw [hx] at h;simp at h;subst h;have:=kws_le f _ x hx;have h1:=iO (by simpa using (Bool.and_eq_true _ _▸hh:_∧_).2);simp at this h1;omega
  ·simp at h;omega
def Sep (y:Bs):Prop:=hd rI y=false∧hd cF y=false∧hd dE y=false∧hd digB y=false∧hd (·==58) y=false∧hd (·==61) y=false∧hd (·==39) y=false∧hd (·==40) y=false
theorem oR:∀(f g:Nat) (l:Bs),l.length≤f→l.length≤g→kws f l=kws g l
 | 0,g,l,hf,hg=>by
  obtain rfl:l=[]:=List.eq_nil_of_length_eq_zero I
  cases g <;> simp [kws,hd]
 | f+1,0,l,hf,hg=>by
  obtain rfl:l=[]:=List.eq_nil_of_length_eq_zero I;simp [kws,hd]
 | f+1,g+1,l,hf,hg=>by
  unfold kws;rw [oR f g (l.drop (bA l+1)) Y4 Y4]
theorem vZ:∀(l:Bs) (k:Nat),jM l=some k→k<l.length
 | [],k,h=>by cases h
 | c :: r,k,h=>by
  unfold jM at h
  split at h
  ·simp at h;subst h;simp
  ·cases hx:jM r with
   | none=>rw [hx] at h;cases h
   | some j=>rw [hx] at h;simp at h;subst h;have:=vZ r j hx;simp;omega
theorem oS:∀(f g:Nat) (l:Bs),l.length≤f→l.length≤g→skp f l=skp g l
 | 0,g,l,hf,hg=>by
  obtain rfl:l=[]:=List.eq_nil_of_length_eq_zero I
  cases g <;> rfl
 | f+1,0,l,hf,hg=>by
  obtain rfl:l=[]:=List.eq_nil_of_length_eq_zero I
  rfl
 | f+1,g+1,[],hf,hg=>rfl
 | f+1,g+1,c :: r,hf,hg=>by
  simp only [skp];simp at hf hg;rw [oS f g r I I]
  cases hx:jM r with
  | none=>rfl
  | some k=>simp only;rw [oS f g (r.drop (k+1)) Y4 Y4]
theorem sE:skipV []=(0,false):=rfl
theorem qE (c:UInt8) (r:Bs):skipV (c :: r)=if fQ c then ((skipV r).1+1,(skipV r).2) else if c==34 then
   match jM r with
   | none=>(0,true)
   | some k=>((skipV (r.drop (k+1))).1+(k+2),(skipV (r.drop (k+1))).2)
  else (0,false):=by
 unfold skipV;simp only [List.length_cons,skp]
 cases hx:jM r with
 | none=>rfl
 | some k=>simp only;rw [oS r.length (r.drop (k+1)).length (r.drop (k+1)) Y12 aR]
theorem jE:∀(f:Nat) (l:Bs),l.length≤f→(skipV l).1≤l.length∧((skipV l).2=true→(skipV l).1<l.length)
 | 0,l,hf=>by
  obtain rfl:l=[]:=List.eq_nil_of_length_eq_zero I;simp [sE]
 | f+1,[],hf=>by simp [sE]
 | f+1,c :: r,hf=>by
  simp at hf;rw [qE]
  split
  ·have:=jE f r I;simp only [List.length_cons];exact ⟨by omega,fun h=>by have:=this.2 h;omega⟩
  ·split
   ·cases hx:jM r with
    | none=>simp
    | some k=>
     have h1:=vZ r k hx;have:=jE f (r.drop (k+1)) Y4;simp only [List.length_drop] at this;simp only [List.length_cons];exact ⟨by omega,fun h=>by have:=this.2 h;omega⟩
   ·simp
theorem skip_le (l:Bs):(skipV l).1≤l.length:=(jE l.length l aR).1
theorem nm_pos {c:UInt8} (r:Bs) (h:dE c=true):1≤bA (c :: r):=by simp [bA,rI,h]
theorem dig_pos {c:UInt8} (r:Bs) (h:digB c=true):1≤hJ (c :: r):=by simp [hJ,h]
theorem sg_pos {c:UInt8} (r:Bs) (h:cF c=true):1≤hZ (c :: r):=by simp [hZ,h];omega
theorem oK {p:UInt8→Bool} {l:Bs} (h:hd p l=true):∃c r,l=c :: r∧p c=true:=by
 cases l with
 | nil=>cases h
 | cons c r=>exact ⟨c,r,rfl,h⟩
theorem sym_le {l t:Bs} {n:Nat} (h:symV l= .ok t n):n≤l.length:=by
 have h1:=mR l;have h2:=sD l;unfold symV at h
 split at h
 ·simp only [Took.ok.injEq] at h;omega
 ·split at h
  ·split at h
   ·cases h
   ·split at h
    ·next hc=>
     have:=iO hc;simp only [List.length_drop] at this
     cases hk:kws l.length (l.drop (bA l+1)) with
     | none=>rw [hk] at h;cases h
     | some k=>
      rw [hk] at h;have hk':=kws_le _ _ _ hk;simp only [List.length_drop] at hk';simp only [Took.ok.injEq] at h;omega
    ·simp only [Took.ok.injEq] at h;omega
  ·cases h
theorem wrd_le {l:Bs} {t:Tok} {n:Nat} (h:wrdV l= .ok t n) (h0:1≤bA l):1≤n∧n≤l.length∧t.kind≠0:=by
 have h1:=mR l;unfold wrdV at h
 split at h
 ·cases h
 ·split at h
  ·next hc=>
   have:=iO hc;simp only [List.length_drop] at this;simp only [Took.ok.injEq] at h;obtain ⟨rfl,rfl⟩:=h;exact ⟨by omega,by omega,by simp⟩
  ·simp only [Took.ok.injEq] at h;obtain ⟨rfl,rfl⟩:=h;exact ⟨by omega,by omega,by simp⟩
theorem Z1 {P:Prop} (h:P:=by
 simp only [Took.ok.injEq] at h;obtain ⟨rfl,rfl⟩:=h;exact ⟨by omega,by simp;omega,by simp⟩):P:=h
theorem Z2 {P:Prop} (h:P:=by
 rw [hx] at h;simp only [Took.ok.injEq] at h;obtain ⟨rfl,rfl⟩:=h;exact ⟨by omega,by simp;omega,by simp⟩):P:=h
theorem tok_pos {l:Bs} {t:Tok} {n:Nat} (h:tokV l= .ok t n):1≤n∧n≤l.length∧t.kind≠0:=by
 match l with
 | []=>cases h
 | c :: r=>
  have hr:=mR r;have hs:=sD (c :: r);have hdl:=xH (c :: r);simp only [tokV] at h
  by_cases q1:dE c=true
  ·rw [if_pos q1] at h;exact wrd_le h (nm_pos r q1)
  ·rw [if_neg q1] at h
   by_cases q2:digB c=true
   ·rw [if_pos q2] at h;have:=dig_pos r q2
    cases hn:numV (c :: r) 0 with
    | none=>rw [hn] at h;cases h
    | some v=>rw [hn] at h;simp only [Took.ok.injEq] at h;obtain ⟨rfl,rfl⟩:=h;exact ⟨this,hdl,by simp⟩
   ·rw [if_neg q2] at h
    by_cases q3:(c==39)=true
    ·rw [if_pos q3] at h
     cases hx:txt r with
     | none=>rw [hx] at h;cases h
     | some z=>
      have:=uJ r z.1 z.2 hx;exact Z2
    ·rw [if_neg q3] at h
     by_cases q4:(c==35)=true
     ·rw [if_pos q4] at h
      by_cases q5:hd (·==40) r=true
      ·rw [if_pos q5] at h;have:=rJ q5;exact Z1
      ·rw [if_neg q5] at h
       cases hx:symV r with
       | err e=>rw [hx] at h;cases h
       | ok u m=>
        have:=sym_le hx;exact Z2
     ·rw [if_neg q4] at h
      by_cases q5:(c==58 && hd (·==61) r)=true
      ·rw [if_pos q5] at h;simp only [Bool.and_eq_true] at q5;have:=rJ q5.2;exact Z1
      ·rw [if_neg q5] at h
       by_cases q6:(c==58 && hd dE r)=true
       ·rw [if_pos q6] at h
        split at h
        ·cases h
        ·exact Z1
       ·rw [if_neg q6] at h
        by_cases q7:cF c=true
        ·rw [if_pos q7] at h;have:=sg_pos r q7;simp only [Took.ok.injEq] at h;obtain ⟨rfl,rfl⟩:=h;exact ⟨this,hs,by simp⟩
        ·rw [if_neg q7] at h
         split at h
         ·simp only [Took.ok.injEq] at h;obtain ⟨rfl,rfl⟩:=h;exact ⟨by omega,by simp,by simp⟩
         ·cases h
theorem qF:∀(f g at_:Nat) (l:Bs),l.length<f→l.length<g→toksF f at_ l=toksF g at_ l
 | 0,g,at_,l,hf,hg=>by omega
 | f+1,0,at_,l,hf,hg=>by omega
 | f+1,g+1,at_,l,hf,hg=>by
  have hk:=skip_le l;simp only [toksF]
  split
  ·rfl
  ·split
   ·rfl
   ·cases hx:tokV (l.drop (skipV l).1) with
    | err e=>rfl
    | ok t n=>
     have:=tok_pos hx;simp only [List.length_drop] at this;simp only;rw [qF f g _ (l.drop ((skipV l).1+n)) Y4 Y4]
def ATok.shift (d:Nat) (t:ATok):ATok:=⟨t.kind,t.text,t.num,t.at_+d⟩
def Toks.shift (d:Nat):Toks→Toks
 | .err a e=>.err (a+d) e
 | .ok l=>.ok (l.map (ATok.shift d))
def Whole (p:Bs):Prop:=∀x,skipV (p++x)=(p.length+(skipV x).1,(skipV x).2)
def tz:ATok:=⟨0,[],0,0⟩
def spA (s:Bs):List ATok→Bs
 | a :: b :: r=>(s.drop a.at_).take (b.at_-a.at_)++32 :: spA s (b :: r)
 | _=>[]
def same3 (t:ATok):Int×Bs×Int:=(t.kind,t.text,t.num)
def Toks.app (L:List ATok):Toks→Toks
 | .err a e=>.err a e
 | .ok B=>.ok (L++B)
end Go.Proofs.YtnojndgmgkgnpaaGreat.Lx
namespace Go.Proofs.YtnojndgmgkgnpaaGreat.Lx
open Go.ChangeShapes Go.WideShapes Go.ChangeAt Go.RowKit
theorem uK (c:UInt8):dE c=((decide (97≤(c.toNat:Int)) && decide ((c.toNat:Int)≤122)) || (decide (65≤(c.toNat:Int)) && decide ((c.toNat:Int)≤90))):=by
 unfold dE;rw [Bool.eq_iff_iff];simp only [UInt8.le_iff_toNat_le,Bool.or_eq_true,Bool.and_eq_true,decide_eq_true_eq];simp;omega
theorem rK (c:UInt8):digB c=(decide (48≤(c.toNat:Int)) && decide ((c.toNat:Int)≤57)):=by
 unfold digB;rw [Bool.eq_iff_iff];simp only [UInt8.le_iff_toNat_le,Bool.and_eq_true,decide_eq_true_eq];simp;omega
theorem aY {a b:Bool} (h:a=b):Ending.returned (.bool a)= .returned (.bool b):=by rw [h]
def memB (l:Bs) (c:UInt8):Bool:=decide (0≤Lib.indexByte l c)
def notQ (c:UInt8):Bool:=c != 39
structure At (w:World) (b:Nat) (s:ByteArray) (i:Nat):Prop where
 c0:w.cell? ⟨b,0,none⟩=some (.string s)
 c1:w.cell? ⟨b,1,none⟩=some (.int .i64 i)
 f1:w.frozen? ⟨b,1,none⟩=false
def bQ (s:ByteArray) (i:Nat):UInt8:=if h:i<s.size then s[i] else 0
theorem bC {w c:World} {r:Option Nat} (h:w.grownBy c r) (n:Nat):w.grownBy (c.drewN n) r:=⟨h.os,h.tape,h.output,h.size,h.block⟩
def rl (p:UInt8→Bool) (l:Bs) (m:Nat):Nat:=min (l.takeWhile p).length m
theorem rl_succ {p:UInt8→Bool} {l:Bs} {m k:Nat} (hk:k≤rl p l m):k<rl p l m↔(k<m∧hd p (l.drop k)=true):=by
 unfold rl at hk ⊢;have key:∀(l:Bs) (k:Nat),k≤(l.takeWhile p).length→(k<(l.takeWhile p).length↔hd p (l.drop k)=true):=by
  intro l
  induction l with
  | nil=>intro k hk;simp at hk;subst hk;simp [hd]
  | cons c r ih=>
   intro k hk
   cases hc:p c
   ·simp [hc] at hk;subst hk;simp [hd,hc]
   ·simp only [List.takeWhile_cons,hc,if_true,List.length_cons] at hk ⊢
    cases k with
    | zero=>simp [hd,hc]
    | succ k=>simp only [List.drop_succ_cons];rw [←ih k I];omega
 have:=key l k I;rw [←this];omega
theorem mS {p:UInt8→Bool} {s:ByteArray} {j:Nat} (h:j<s.size):hd p (s.data.toList.drop j)=p s[j]:=by
 rw [List.drop_eq_getElem_cons Y123];rfl
theorem nO {p:UInt8→Bool} {s:ByteArray} {j:Nat} (h:s.size≤j):hd p (s.data.toList.drop j)=false:=by
 rw [List.drop_eq_nil_of_le Y123];rfl
theorem gJ {p:UInt8→Bool} (h0:p 0=false) (s:ByteArray) (i:Nat):hd p (s.data.toList.drop i)=p (bQ s i):=by
 unfold bQ
 by_cases h:i<s.size
 ·rw [dif_pos h,mS h]
 ·rw [dif_neg h,nO I,h0]
theorem fF (x:UInt8) (k:Nat) (hk:k<256):((x.toNat:Int)==(k:Int))=(x==UInt8.ofNat k):=by
 rw [Bool.eq_iff_iff];simp only [beq_iff_eq]
 constructor
 ·intro h;have:x.toNat=k:=I;rw [←this];simp
 ·intro h;rw [h];simp;omega
theorem u8_ne (x:UInt8) (k:Nat) (hk:k<256):((x.toNat:Int) != (k:Int))=!(x==UInt8.ofNat k):=by
 unfold bne;rw [fF x k hk]
structure Went (w w':World) (b:Nat) (s:ByteArray) (i:Nat):Prop where
 at_:At w' b s i
 grown:w.grownBy w' (some b)
theorem colon_eq (s:ByteArray) (i:Nat):cK (s.data.toList.drop i)=(bQ s i==58 && !(bQ s (i+1)==61)):=by
 rw [←gJ (p:=(·==61)) rfl s (i+1),←gJ (p:=(·==58)) rfl s i,←List.drop_drop]
 generalize s.data.toList.drop i=l
 cases l <;> rfl
def colEnd (s:ByteArray) (i:Nat):Nat:=if cK (s.data.toList.drop i) then i+1 else i
theorem size_ext (s:ByteArray) (i n:Nat) (h:i+n≤s.size):(s.extract i (i+n)).size=n:=Y4
def nmRet (s:ByteArray) (i:Nat):Ending:=if bA (s.data.toList.drop i) > 24 then .returned (.tuple #[.string ⟨#[]⟩,.int .i64 12]) else .returned (.tuple #[.string (s.extract i (i+bA (s.data.toList.drop i))),.int .i64 0])
theorem mT (s:ByteArray) (i:Nat) (hi:i≤s.size):i+bA (s.data.toList.drop i)≤s.size:=by
 have:=mR (s.data.toList.drop i);simp at this;have:s.data.size=s.size:=rfl;omega
theorem fW (s:ByteArray) (j r:Nat):(s.extract j (j+r)).data.toList=(s.data.toList.drop j).take r:=by
 rw [ByteArray.data_extract,Array.toList_extract,List.extract_eq_take_drop]
 congr 1;omega
def TextPost (w:World) (b:Nat) (s:ByteArray) (i:Nat) (e:Ending) (w':World):Prop:=
 (txt (s.data.toList.drop i)=none∧e= .returned (.tuple #[.string ⟨#[]⟩,.int .i64 11])∧∃k,k≤s.size∧Went w w' b s k)∨
 ∃(t:Bs) (n:Nat) (T:ByteArray),txt (s.data.toList.drop i)=some (t,n)∧T.data.toList=t∧e= .returned (.tuple #[.string T,.int .i64 0])∧Went w w' b s (i+n)
def TextRel (w:World) (b:Nat) (s:ByteArray) (i g:Nat) (O:ByteArray) (wr:World):Prop:=
 ∃j,g+j=s.size∧i≤j∧O.size≤j-i∧txt (s.data.toList.drop i)=(txt (s.data.toList.drop j)).map (fun x=>(O.data.toList++x.1,x.2+(j-i)))∧Went w wr b s j
def NumPost (w:World) (b:Nat) (s:ByteArray) (i:Nat) (e:Ending) (w':World):Prop:=
 (numV (s.data.toList.drop i) 0=none∧e= .returned (.tuple #[.int .i64 0,.int .i64 2])∧∃k,k≤s.size∧Went w w' b s k)∨
 ∃v,numV (s.data.toList.drop i) 0=some v∧e= .returned (.tuple #[.int .i64 v,.int .i64 0])∧Went w w' b s (i+hJ (s.data.toList.drop i))
theorem qG {c:UInt8} {r:Bs} {v:Int} (h:digB c=true):numV (c :: r) v=if v*10+((c.toNat:Int)-48) > big then none else numV r (v*10+((c.toNat:Int)-48)):=by
 rw [numV,if_pos h]
def bSigns:ByteArray:=⟨#[43,45,42,47,60,62,61,126,44,64,38,37]⟩
def bMarks:ByteArray:=⟨#[94,46,59,40,41,91,93,124]⟩
def bBlanks:ByteArray:=⟨#[9,10,13,32]⟩
def SymPost (w:World) (b:Nat) (s:ByteArray) (i:Nat) (e:Ending) (w':World):Prop:=
 (∃x,symV (s.data.toList.drop i)= .err x∧(x=10∨x=12)∧e= .returned (.tuple #[.string ⟨#[]⟩,.int .i64 x])∧∃k,k≤s.size∧Went w w' b s k)∨
 ∃(t:Bs) (n:Nat) (T:ByteArray),symV (s.data.toList.drop i)= .ok t n∧T.data.toList=t∧e= .returned (.tuple #[.string T,.int .i64 0])∧Went w w' b s (i+n)
theorem sF {l:Bs} (h:hd cF l=true):symV l= .ok (l.take (hZ l)) (hZ l):=by unfold symV;rw [if_pos h]
theorem sym_none {l:Bs} (h:hd cF l=false) (h':hd dE l=false):symV l= .err 10:=by unfold symV;rw [if_neg (by simp [h]),if_neg (by simp [h'])]
theorem sym_long {l:Bs} (h:hd cF l=false) (h':hd dE l=true) (h24:bA l > 24):symV l= .err 12:=by unfold symV;rw [if_neg (by simp [h]),if_pos h',if_pos h24]
theorem sym_name {l:Bs} (h:hd cF l=false) (h':hd dE l=true) (h24:¬bA l > 24) (hc:cK (l.drop (bA l))=false):symV l= .ok (l.take (bA l)) (bA l):=by
 unfold symV;rw [if_neg (by simp [h]),if_pos h',if_neg h24,if_neg (by simp [hc])]
theorem sym_kw {l:Bs} (h:hd cF l=false) (h':hd dE l=true) (h24:¬bA l > 24) (hc:cK (l.drop (bA l))=true):symV l=match kws l.length (l.drop (bA l+1)) with
   | none=>.err 12
   | some k=>.ok (l.take (bA l+1+k)) (bA l+1+k):=by
 unfold symV;rw [if_neg (by simp [h]),if_pos h',if_neg h24,if_pos hc]
 all_goals (cases kws l.length (l.drop (bA l+1)) <;> rfl)
def SymRel (w:World) (b:Nat) (s:ByteArray) (i g:Nat) (O:ByteArray) (wr:World):Prop:=
 ∃j,g+j=s.size∧i≤j∧O.data.toList=(s.data.toList.drop i).take (j-i)∧O.size≤100000∧
  symV (s.data.toList.drop i)=(match kws (s.size+1) (s.data.toList.drop j) with | none=>Took.err 12 | some k=>Took.ok ((s.data.toList.drop i).take (j-i+k)) (j-i+k))∧Went w wr b s j
theorem kws_some {f:Nat} {l:Bs} (h:¬(hd dE l=true∧cK (l.drop (bA l))=true)):kws (f+1) l=some 0:=by
 unfold kws;rw [if_neg Y123]
theorem kws_none {f:Nat} {l:Bs} (h1:hd dE l=true) (h2:cK (l.drop (bA l))=true) (h:bA l > 24):kws (f+1) l=none:=by
 unfold kws;rw [if_pos (by simp [h1,h2]),if_pos h]
theorem kws_more {f:Nat} {l:Bs} (h1:hd dE l=true) (h2:cK (l.drop (bA l))=true) (h:¬bA l > 24) (hl:l.length≤f):kws (f+1) l=(kws (f+1) (l.drop (bA l+1))).map (· +(bA l+1)):=by
 have hc:=iO h2;simp only [List.length_drop] at hc;rw [oR (f+1) f (l.drop (bA l+1)) Y4 Y4];rw [kws,if_pos (by simp [h1,h2]),if_neg h]
theorem bF {w c:World} {r:Option Nat} (h:w.grownBy c r) (o:Obj):w.grownBy (c.alloc o) r:=h.trans (World.grownBy_alloc _ _ _)
theorem aZ {w c:World} {r:Option Nat} (h:w.grownBy c r) {k o:Nat} (hk:w.heap.size≤k) (v:Value):w.grownBy (c.setCell ⟨k,o,none⟩ v) r:=
 ⟨h.os,h.tape,h.output,by simpa using h.size,fun j hj hne=>(heap_setCell_other c ⟨k,o,none⟩ j v (fun e=>by simp at e;omega)).trans (h.block j hj hne)⟩
def TokPost (w:World) (b:Nat) (s:ByteArray) (i:Nat) (e:Ending) (w':World):Prop:=
 (∃x,tokV (s.data.toList.drop i)= .err x∧x≠0∧∃(k1:Int) (k2:ByteArray) (k3:Int),e= .returned (.tuple #[.agg #[.int .i64 k1,.string k2,.int .i64 k3,.int .i64 i],.int .i64 x])∧∃k,k≤s.size∧Went w w' b s k)∨
 ∃(t:Tok) (n:Nat) (T:ByteArray),tokV (s.data.toList.drop i)= .ok t n∧T.data.toList=t.text∧e= .returned (.tuple #[.agg #[.int .i64 t.kind,.string T,.int .i64 t.num,.int .i64 i],.int .i64 0])∧Went w w' b s (i+n)
theorem cX {s:ByteArray} {i:Nat} (h:i<s.size):s.data.toList.drop i=bQ s i :: s.data.toList.drop (i+1):=by
 unfold bQ;rw [dif_pos h,List.drop_eq_getElem_cons Y123];rfl
theorem rL {c:UInt8} {r:Bs} (h:dE c=true):tokV (c :: r)=wrdV (c :: r):=by simp only [tokV];rw [if_pos h]
theorem wrd_long {l:Bs} (h:bA l > 24):wrdV l= .err 12:=by unfold wrdV;rw [if_pos h]
theorem wrd_kw {l:Bs} (h:¬bA l > 24) (hc:cK (l.drop (bA l))=true):wrdV l= .ok ⟨2,l.take (bA l+1),0⟩ (bA l+1):=by unfold wrdV;rw [if_neg h,if_pos hc]
theorem wrd_nm {l:Bs} (h:¬bA l > 24) (hc:cK (l.drop (bA l))=false):wrdV l= .ok ⟨1,l.take (bA l),0⟩ (bA l):=by unfold wrdV;rw [if_neg h,if_neg (by simp [hc])]
theorem sym_errs {l:Bs} {x:Int} (h:symV l= .err x):x=10∨x=12:=by
 unfold symV at h
 split at h
 ·cases h
 ·split at h
  ·split at h
   ·cases h;exact .inr rfl
   ·split at h
    ·cases hk:kws l.length (l.drop (bA l+1)) with
     | none=>rw [hk] at h;cases h;exact .inr rfl
     | some k=>rw [hk] at h;cases h
    ·cases h
  ·cases h;exact .inl rfl



def strB (t:Bs):ByteArray:=⟨t.toArray⟩
theorem strB_of {T:ByteArray} {t:Bs} (h:T.data.toList=t):T=strB t:=by
 apply ByteArray.ext;apply Array.toList_inj.1;rw [h];rfl
def tokCells (t:ATok):List Value:=[.int .i64 t.kind,.string (strB t.text),.int .i64 t.num,.int .i64 (t.at_:Int)]
def rowCells (A:List ATok):List Value:=A.flatMap tokCells
theorem mU (A:List ATok) (t:ATok):rowCells (A++[t])=rowCells A++tokCells t:=by simp [rowCells]
theorem Toks.app_nil (t:Toks):Toks.app [] t=t:=by cases t <;> rfl
theorem Toks.app_cons (A:List ATok) (t:ATok) (B:Toks):Toks.app A (Toks.cons t B)=Toks.app (A++[t]) B:=by
 cases B with
 | err a e=>rfl
 | ok l=>simp [Toks.app,Toks.cons]
end Go.Proofs.YtnojndgmgkgnpaaGreat.Lx
