/- Chapter 10: words and contracts for the law. -/
import Derived.Test.YtnojndgmgkgnpaaGreatQ10
import Derived.Test.YtnojndgmgkgnpaaGreatQ00
import Derived.BigRegion
set_option maxRecDepth 100000
set_option maxHeartbeats 40000000
set_option linter.unusedVariables false
set_option linter.unusedSimpArgs false
namespace Go.Proofs.YtnojndgmgkgnpaaGreat.Lx
open Go.ChangeShapes Go.WideShapes Go.ChangeAt Go.RowKit
theorem bO {s:ByteArray} {i:Nat} (h:i<s.size):bQ s i=s[i]:=by unfold bQ;rw [dif_pos h]
theorem nE {s:ByteArray} {i:Nat} (h:s.size≤i):bQ s i=0:=by unfold bQ;rw [dif_neg I]
theorem Z49 {P:Prop} (h:P:=by
 clear e58 q58 e61 q61;go_enter Tryz.func66,Tryz.ntmps66;go_wp2;go_ret;exact ⟨aY F.out.symm,rfl⟩):P:=h
theorem Z50 {P:Prop} (h:P:=by
 clear e58 q58;go_enter Tryz.func66,Tryz.ntmps66;go_wp2;go_ret;exact ⟨aY F.out.symm,rfl⟩):P:=h
theorem eV (s:ByteArray) (i:Nat) (w:World) (hs:s.size≤100000):Calls Tryz.prog 66 #[.string s,.int .i64 i] w fun e w'=>e= .returned (.bool (cK (s.data.toList.drop i)))∧w'=w:=by
 have E:=J (colon_eq s i);have b0:(0:Int)≤(i:Int):=I;have b0':(0:Int)≤(i:Int)+1:=I
 by_cases h0:i<s.size
 ·have d0:=aD h0;have b1:(i:Int)<(s.size:Int):=I;obtain ⟨x,hx⟩:=aE (s[i]);have HX:Hid (bQ s i=x):=(bO h0).trans hx;have e58:=fF x 58 I
  cases q58:x==UInt8.ofNat 58
  ·rw [q58] at e58;have n58:((x.toNat:Int)==58)=false:=e58;have F:Hid (cK (s.data.toList.drop i)=false):=by show _=_;rw [E.out,HX.out,show (x==58)=false from q58];rfl
   exact Z50
  ·rw [q58] at e58;have n58:((x.toNat:Int)==58)=true:=e58
   by_cases h1:i+1<s.size
   ·have d1:decide (i+1<s.size)=true:=aD h1;have d1':decide ((i:Int)+1<(s.size:Int))=true:=aD I;have b2:(i:Int)+1<(s.size:Int):=I;obtain ⟨y,hy⟩:=aE (s[i+1]);have HY:Hid (bQ s (i+1)=y):=(bO h1).trans hy;have e61:=fF y 61 I
    cases q61:y==UInt8.ofNat 61
    ·rw [q61] at e61;have n61:((y.toNat:Int)==61)=false:=e61;have F:Hid (cK (s.data.toList.drop i)=true):=by show _=_;rw [E.out,HX.out,HY.out,show (x==58)=true from q58,show (y==61)=false from q61];rfl
     exact Z49
    ·rw [q61] at e61;have n61:((y.toNat:Int)==61)=true:=e61;have F:Hid (cK (s.data.toList.drop i)=false):=by show _=_;rw [E.out,HX.out,HY.out,show (x==58)=true from q58,show (y==61)=true from q61];rfl
     exact Z49
   ·have d1:decide (i+1<s.size)=false:=aK h1;have d1':decide ((i:Int)+1<(s.size:Int))=false:=aK I;have F:Hid (cK (s.data.toList.drop i)=true):=by show _=_;rw [E.out,HX.out,nE I,show (x==58)=true from q58];rfl
    exact Z50
 ·have d0:=aK h0;have d0':decide ((i:Int)<(s.size:Int))=false:=aK I;have F:Hid (cK (s.data.toList.drop i)=false):=by show _=_;rw [E.out,nE I];rfl
  go_enter Tryz.func66,Tryz.ntmps66;go_wp2;go_ret;exact ⟨aY F.out.symm,rfl⟩
theorem uS {a b:Int} {p q:Bool} (h:a=b) (h':p=q):Ending.returned (.tuple #[.int .i64 a,.bool p])= .returned (.tuple #[.int .i64 b,.bool q]):=by rw [h,h']
theorem uT (c:UInt8):(dX c==5)=fQ c:=by
 unfold dX
 cases hl:dE c
 ·cases hd:digB c
  ·cases hb:fQ c
   ·cases cF c
    ·cases gD c <;> rfl
    ·rfl
   ·rfl
  ·cases hb:fQ c
   ·rfl
   ·simp [fQ] at hb
    rcases hb with ((rfl | rfl) | rfl) | rfl <;> revert hd <;> decide
 ·cases hb:fQ c
  ·rfl
  ·simp [fQ] at hb
   rcases hb with ((rfl | rfl) | rfl) | rfl <;> revert hl <;> decide
theorem Z48 {P:Prop} (h:P:=by
 obtain ⟨h3,h4⟩:=Prod.mk.inj h2;simp only at h3 h4;subst h4;exact ⟨uS (by show (j:Int)=_;omega) rfl,rfl⟩):P:=h
theorem lP (s:ByteArray) (i:Nat) (w:World) (hs:s.size≤100000) (hi:i≤s.size):
  Calls Tryz.prog 46 #[.string s,.int .i64 i] w fun e w'=>e= .returned (.tuple #[.int .i64 ((i+(skipV (s.data.toList.drop i)).1:Nat):Int),.bool (skipV (s.data.toList.drop i)).2])∧w'=w:=by
 obtain ⟨⟨n,op⟩,hn⟩:=aE (skipV (s.data.toList.drop i));rw [hn];have HN:=J hn;clear hn;go_enter Tryz.func46,Tryz.ntmps46;go_wp2
 go_loop [1] (fun x=>∃j:Nat,j≤s.size∧i≤j∧x= .int .i64 j∧(n,op)=((skipV (s.data.toList.drop j)).1+(j-i),(skipV (s.data.toList.drop j)).2)) (fun x=>s.size-(intOf x).toNat)
 case atStart=>exact ⟨i,hi,Nat.le_refl _,rfl,by rw [HN.out];simp⟩
 case round=>
  obtain ⟨j,hj,hij,rfl,hrel⟩:=hrel;have HR:=J hrel;clear hrel
  by_cases h0:j<s.size
  ·have d0:=aD h0;have b0:(0:Int)≤(j:Int):=I;have b1:(j:Int)<(s.size:Int):=I;have hcons:=cX h0;rw [bO h0] at hcons;obtain ⟨x,hx⟩:=aE (s[j]);rw [hx] at hcons;have HC:=J hcons;have HS:=J (qE x (s.data.toList.drop (j+1)));have kb:=uT x;clear hcons
   cases hb:fQ x
   ·rw [hb] at kb;have e34:=u8_ne x 34 I
    cases q34:x==UInt8.ofNat 34
    ·rw [q34] at e34;have n34:((x.toNat:Int) != 34)=true:=e34;have F:Hid (skipV (s.data.toList.drop j)=(0,false)):=by show _=_;rw [HC.out,HS.out,if_neg (by simp [hb]),if_neg (by rw [show (x==34)=false from q34];simp)]
     clear e34 q34 hb;go_wp2_with (go_at_call 63;(with_reducible refine (nD _ _).mono ?_);rintro e w' ⟨rfl,rfl⟩);go_ret2;have h2:=HR.out;rw [F.out] at h2;exact Z48
    ·rw [q34] at e34;have n34:((x.toNat:Int) != 34)=false:=e34;have hx34:x=34:=by simpa using q34
     have F:Hid (∀k,jM (s.data.toList.drop (j+1))=some k→skipV (s.data.toList.drop j)=((skipV (s.data.toList.drop (j+1+(k+1)))).1+(k+2),(skipV (s.data.toList.drop (j+1+(k+1)))).2)):=fun k hk=>by
      rw [HC.out,HS.out,if_neg (by simp [hb]),if_pos (by rw [hx34];rfl),hk];simp only [List.drop_drop]
     have F0:Hid (jM (s.data.toList.drop (j+1))=none→skipV (s.data.toList.drop j)=(0,true)):=fun hk=>by
      rw [HC.out,HS.out,if_neg (by simp [hb]),if_pos (by rw [hx34];rfl),hk]
     clear e34 q34 hb hx34;go_wp2_with (go_at_call 63;(with_reducible refine (nD _ _).mono ?_);rintro e w' ⟨rfl,rfl⟩)
     go_loop [6] (fun x=>∃e:Nat,j+1≤e∧e≤s.size∧x= .int .i64 e∧jM (s.data.toList.drop (j+1))=(jM (s.data.toList.drop e)).map (· +(e-(j+1)))) (fun x=>s.size-(intOf x).toNat)
     case atStart=>exact ⟨j+1,Nat.le_refl _,by omega,by go_num,by cases jM (s.data.toList.drop (j+1)) <;> simp⟩
     case round=>
      obtain ⟨e,he1,he2,rfl,hre⟩:=hrel;have HRE:=J hre;clear hre;have g0:(0:Int)≤(e:Int):=I
      by_cases h1:e<s.size
      ·have d1:=aD h1;have g1:(e:Int)<(s.size:Int):=I;have hcons:=cX h1;rw [bO h1] at hcons;obtain ⟨y,hy⟩:=aE (s[e]);rw [hy] at hcons;have HCE:=J hcons;clear hcons;have z34:=u8_ne y 34 I;have ne1:((e:Int)==(s.size:Int))=false:=Y4;have ne2:(e==s.size)=false:=Y4
       cases q35:y==UInt8.ofNat 34
       ·rw [q35] at z34;have m34:((y.toNat:Int) != 34)=true:=z34;have hrem:Hid (jM (s.data.toList.drop e)=(jM (s.data.toList.drop (e+1))).map (· +1)):=by show _=_;rw [HCE.out,jM,if_neg (by rw [show (y==34)=false from q35];simp)]
        clear z34 q35;go_wp2
        go_round
        case rel=>
         refine ⟨e+1,by omega,by omega,by go_num,?_⟩;rw [HRE.out,hrem.out]
         cases jM (s.data.toList.drop (e+1)) with
         | none=>rfl
         | some k=>simp;omega
        case measure=>simp [intOf];omega
       ·rw [q35] at z34;have m34:((y.toNat:Int) != 34)=false:=z34;have hrem:Hid (jM (s.data.toList.drop (j+1))=some (e-(j+1))):=by show _=_;rw [HRE.out,HCE.out,jM,if_pos (by simpa using q35)];simp
        clear z34 q35;go_wp2
        go_round
        case rel=>
         refine ⟨e+1,by omega,by omega,by go_num,?_⟩;rw [HR.out,F.out _ hrem.out,show j+1+(e-(j+1)+1)=e+1 by omega];simp only [Prod.mk.injEq,and_true];omega
        case measure=>simp [intOf];omega
      ·have d1:=aK h1;have d1':decide ((e:Int)<(s.size:Int))=false:=aK I;have ne1:((e:Int)==(s.size:Int))=true:=Y4;have ne2:(e==s.size)=true:=Y4;have hrem:Hid (jM (s.data.toList.drop (j+1))=none):=by show _=_;rw [HRE.out,List.drop_eq_nil_of_le (by simpa using h1)];rfl
       go_wp2;go_ret2;have h2:=HR.out;rw [F0.out hrem.out] at h2;exact Z48
   ·rw [hb] at kb;have F:Hid (skipV (s.data.toList.drop j)=((skipV (s.data.toList.drop (j+1))).1+1,(skipV (s.data.toList.drop (j+1))).2)):=by show _=_;rw [HC.out,HS.out,if_pos hb]
    clear hb;go_wp2_with (go_at_call 63;(with_reducible refine (nD _ _).mono ?_);rintro e w' ⟨rfl,rfl⟩)
    go_round
    case rel=>exact ⟨j+1,by omega,by omega,by go_num,by rw [HR.out,F.out];simp;omega⟩
    case measure=>simp [intOf];omega
  ·have d0:=aK h0;have d0':decide ((j:Int)<(s.size:Int))=false:=aK I;have F:Hid (skipV (s.data.toList.drop j)=(0,false)):=by show _=_;rw [List.drop_eq_nil_of_le (by simpa using h0)];rfl
   go_wp2;go_ret2;have h2:=HR.out;rw [F.out] at h2;exact Z48
structure Boxed (w wr:World) (K:Int) (O:ByteArray) (N:Int) (i:Nat):Prop where
 c0:wr.cell? ⟨w.heap.size,0,none⟩=some (.int .i64 K)
 c1:wr.cell? ⟨w.heap.size,1,none⟩=some (.string O)
 c2:wr.cell? ⟨w.heap.size,2,none⟩=some (.int .i64 N)
 c3:wr.cell? ⟨w.heap.size,3,none⟩=some (.int .i64 i)
 r0:wr.cell? ⟨w.heap.size+1,0,none⟩=some (.int .i64 0)
 r1:wr.cell? ⟨w.heap.size+1,1,none⟩=some (.string ⟨#[]⟩)
 r2:wr.cell? ⟨w.heap.size+1,2,none⟩=some (.int .i64 0)
 r3:wr.cell? ⟨w.heap.size+1,3,none⟩=some (.int .i64 0)
 f1:wr.frozen? ⟨w.heap.size,1,none⟩=false
 g0:wr.frozen? ⟨w.heap.size+1,0,none⟩=false
 g1:wr.frozen? ⟨w.heap.size+1,1,none⟩=false
 g2:wr.frozen? ⟨w.heap.size+1,2,none⟩=false
 g3:wr.frozen? ⟨w.heap.size+1,3,none⟩=false
 sz:w.heap.size+2≤wr.heap.size
 grown:w.grownBy wr none
theorem xV {x:UInt8} (h:(x==39)=false) (l:Bs):txt (x :: l)=(txt l).map (fun z=>(x :: z.1,z.2+1)):=by
 cases l with
 | nil=>simp only [txt,h];rfl
 | cons d r=>rw [txt,if_neg (by simp [h])]
theorem txt_two {l:Bs} (h:hd (·==39) l=true):txt (39 :: l)=(txt (l.drop 1)).map (fun z=>(39 :: z.1,z.2+2)):=by
 cases l with
 | nil=>cases h
 | cons d r=>rw [txt,if_pos Y3,if_pos (show (d==39)=true from h)];rfl
theorem wQ {l:Bs} (h:hd (·==39) l=false):txt (39 :: l)=some ([],1):=by
 cases l with
 | nil=>rfl
 | cons d r=>rw [txt,if_pos Y3,if_neg (by simpa [hd] using h)]
theorem tA {s:ByteArray} {j:Nat} (h:j<s.size) {t:ByteArray} (ht:s.extract j (j+1)=t):t.data.toList=[s[j]]:=by
 rw [←ht,fW,cX h,bO h];rfl
theorem Boxed.put {w wr:World} {K:Int} {O:ByteArray} {N:Int} {i:Nat} (h:Boxed w wr K O N i) (O':ByteArray):Boxed w ((wr.setCell ⟨w.heap.size,1,none⟩ (.string O')).drew) K O' N i where
 c0:=(World.cell?_setCell_other _ _ _ _ Y12).trans h.c0
 c1:=World.cell?_setCell_same _ _ _ h.c1
 c2:=(World.cell?_setCell_other _ _ _ _ Y12).trans h.c2
 c3:=(World.cell?_setCell_other _ _ _ _ Y12).trans h.c3
 r0:=(World.cell?_setCell_other _ _ _ _ Y12).trans h.r0
 r1:=(World.cell?_setCell_other _ _ _ _ Y12).trans h.r1
 r2:=(World.cell?_setCell_other _ _ _ _ Y12).trans h.r2
 r3:=(World.cell?_setCell_other _ _ _ _ Y12).trans h.r3
 f1:=(World.frozen?_setCell _ _ _ _).trans h.f1
 g0:=(World.frozen?_setCell _ _ _ _).trans h.g0
 g1:=(World.frozen?_setCell _ _ _ _).trans h.g1
 g2:=(World.frozen?_setCell _ _ _ _).trans h.g2
 g3:=(World.frozen?_setCell _ _ _ _).trans h.g3
 sz:=by have:=h.sz;simpa using this
 grown:=bC (aZ h.grown aR _) 1
theorem Boxed.put' {w wr:World} {K:Int} {O:ByteArray} {N:Int} {i:Nat} (h:Boxed w wr K O N i) (O':ByteArray):Boxed w (wr.setCell ⟨w.heap.size,1,none⟩ (.string O')) K O' N i where
 c0:=(World.cell?_setCell_other _ _ _ _ Y12).trans h.c0
 c1:=World.cell?_setCell_same _ _ _ h.c1
 c2:=(World.cell?_setCell_other _ _ _ _ Y12).trans h.c2
 c3:=(World.cell?_setCell_other _ _ _ _ Y12).trans h.c3
 r0:=(World.cell?_setCell_other _ _ _ _ Y12).trans h.r0
 r1:=(World.cell?_setCell_other _ _ _ _ Y12).trans h.r1
 r2:=(World.cell?_setCell_other _ _ _ _ Y12).trans h.r2
 r3:=(World.cell?_setCell_other _ _ _ _ Y12).trans h.r3
 f1:=(World.frozen?_setCell _ _ _ _).trans h.f1
 g0:=(World.frozen?_setCell _ _ _ _).trans h.g0
 g1:=(World.frozen?_setCell _ _ _ _).trans h.g1
 g2:=(World.frozen?_setCell _ _ _ _).trans h.g2
 g3:=(World.frozen?_setCell _ _ _ _).trans h.g3
 sz:=by have:=h.sz;simpa using this
 grown:=aZ h.grown aR _
def RTextRel (w:World) (s:ByteArray) (K N:Int) (i g:Nat) (o:Value) (wr:World):Prop:=
 ∃(j:Nat) (O:ByteArray),o= .int .i64 j∧g+j=s.size∧i+1≤j∧O.size≤j-(i+1)∧txt (s.data.toList.drop (i+1))=(txt (s.data.toList.drop j)).map (fun x=>(O.data.toList++x.1,x.2+(j-(i+1))))∧Boxed w wr K O N i
def xW (w:World) (s:ByteArray) (K N:Int) (i:Nat) (e:Ending) (w':World):Prop:=w.grownBy w' none∧
 ((txt (s.data.toList.drop (i+1))=none∧∃T,e= .returned (.tuple #[.agg #[.int .i64 K,.string T,.int .i64 N,.int .i64 i],.int .i64 0,.int .i64 11]))∨
   ∃(t:Bs) (n:Nat) (T:ByteArray),txt (s.data.toList.drop (i+1))=some (t,n)∧T.data.toList=t∧e= .returned (.tuple #[.agg #[.int .i64 K,.string T,.int .i64 N,.int .i64 i],.int .i64 ((i+1+n:Nat):Int),.int .i64 0]))
theorem Z52 {P:Prop} (h:P:=by
 repeat' (first | (with_reducible assumption) | (with_reducible refine bC ?_ _) | (with_reducible refine aZ ?_ ?_ _) | omega)):P:=h
theorem Z51 {P:Prop} (h:P:=by
 go_wp2;refine bodyPost_ret (v:=.tuple #[.agg #[.int .i64 K,.string O,.int .i64 N,.int .i64 i],.int .i64 ((j:Int)+1),.int .i64 0]) (by simp [results,Tryz.results67,go_sem, *]) rfl ?_;refine ⟨?_,.inr ⟨O.data.toList,j+1-(i+1),O,?_,rfl,?_⟩⟩
 ·exact Z52
 ·rw [HTX.out,HC.out,HU.out,hx,Q39.out,wQ F.out];simp;omega
 ·rw [show i+1+(j+1-(i+1))=j+1 by omega];rfl):P:=h
theorem rtext_any (s:ByteArray) (i:Nat) (K N:Int) (w:World) (hs:s.size≤100000) (hi:i+1≤s.size):
  Calls Tryz.prog 67 #[.string s,.agg #[.int .i64 K,.string ⟨#[]⟩,.int .i64 N,.int .i64 i]] w (xW w s K N i):=by
 go_enter Tryz.func67,Tryz.ntmps67;go_wp2
 go_loopg [7] (s.size-(i+1)) (fun g o wr=>RTextRel w s K N i g o wr)
 case atStart=>
  refine ⟨i+1,⟨#[]⟩,by go_num,by omega,by omega,Nat.zero_le _,?_,?_⟩
  ·cases txt (s.data.toList.drop (i+1)) with
   | none=>rfl
   | some z=>simp
  ·exact {c0:=by (first | assumption | (simp [go_sem];done) | (simp [go_sem, *];done)),c1:=by (first | assumption | (simp [go_sem];done) | (simp [go_sem, *];done)),c2:=by (first | assumption | (simp [go_sem];done) | (simp [go_sem, *];done)),c3:=by (first | assumption | (simp [go_sem];done) | (simp [go_sem, *];done)),r0:=by (first | assumption | (simp [go_sem];done) | (simp [go_sem, *];done)),r1:=by (first | assumption | (simp [go_sem];done) | (simp [go_sem, *];done)),r2:=by (first | assumption | (simp [go_sem];done) | (simp [go_sem, *];done)),r3:=by (first | assumption | (simp [go_sem];done) | (simp [go_sem, *];done)),f1:=by (first | assumption | (simp [go_sem];done) | (simp [go_sem, *];done)),g0:=by (first | assumption | (simp [go_sem];done) | (simp [go_sem, *];done)),g1:=by (first | assumption | (simp [go_sem];done) | (simp [go_sem, *];done)),g2:=by (first | assumption | (simp [go_sem];done) | (simp [go_sem, *];done)),g3:=by (first | assumption | (simp [go_sem];done) | (simp [go_sem, *];done)),sz:=by go_size,grown:=bF (bF (World.grownBy.refl _ _) _) _}
 case round=>
  obtain ⟨j,O,rfl,hg,hij,hO,htx,hB⟩:=hrel;have HTX:=J htx;have HG:=J hg;have HB:=J hB;clear htx hg hB;have B:=HB.out;obtain ⟨c0,c1,c2,c3,r0,r1,r2,r3,hfr,g0,g1,g2,g3,sz,grown⟩:=B
  by_cases hjs:j<s.size
  ·have d0:=aD hjs;have b0:(0:Int)≤(j:Int):=I;have b1:(j:Int)<(s.size:Int):=I;obtain ⟨x,hx⟩:=aE (s[j]);have e39:=u8_ne x 39 I
   cases q39:x==UInt8.ofNat 39
   ·rw [q39] at e39;have n39:((x.toNat:Int) != 39)=true:=e39;have Q39:Hid ((x==39)=false):=q39;clear e39 q39;have e1:IntKind.i64.wrap ((j:Int)+1)=(j:Int)+1:=IntWalk.i64_in _ I;have b2:(j:Int)+1≤(s.size:Int):=I;have b3:(0:Int)≤(j:Int)+1:=I;have b4:j+1≤s.size:=I;have b5:(j:Int)≤(j:Int)+1:=I;have b6:j≤j+1:=I;have b7:(j:Int)+1=((j+1:Nat):Int):=I;have b8:((j:Int)+1).toNat=j+1:=I;have b9:j≤s.size:=I;have b10:(j:Int)≤(s.size:Int):=I;clear b7;have hcat:O.size+1≤100000:=I;have hz:(s.extract j (j+1)).size=1:=size_ext s j 1 I;obtain ⟨t,ht⟩:=aE (s.extract j (j+1));rw [ht] at hz;have HL:=J (tA hjs ht);have HC:=J (cX hjs);have HU:=J (bO hjs);go_wp2
    go_region
    go_wp2
    go_roundg (gk-1)
    case measure=>have h2:=HG.out;omega
    case rel=>
     have h2:=HG.out;refine ⟨j+1,O++t,rfl,by omega,by omega,by simp;omega,?_,HB.out.put _⟩;rw [HTX.out,HC.out,HU.out,hx,xV Q39.out];have h3:=HL.out
     cases txt (s.data.toList.drop (j+1)) with
     | none=>rfl
     | some z=>simp [h3,hx];omega
   ·rw [q39] at e39;have n39:((x.toNat:Int) != 39)=false:=e39;have Q39:Hid (x=39):=by show _=_;simpa using q39
    clear e39 q39;have HC:=J (cX hjs);have HU:=J (bO hjs);have HH:=J (gJ (p:=(·==39)) rfl s (j+1));have b3:(0:Int)≤(j:Int)+1:=I
    by_cases h1:j+1<s.size
    ·have d1:decide (j+1<s.size)=true:=aD h1;have d1':decide ((j:Int)+1<(s.size:Int))=true:=aD I;have b2:(j:Int)+1<(s.size:Int):=I;obtain ⟨y,hy⟩:=aE (s[j+1]);have HY:Hid (bQ s (j+1)=y):=(bO h1).trans hy;have z39:=fF y 39 I
     cases q40:y==UInt8.ofNat 39
     ·rw [q40] at z39;have m39:((y.toNat:Int)==39)=false:=z39;have F:Hid (hd (·==39) (s.data.toList.drop (j+1))=false):=by show _=_;rw [HH.out,HY.out];exact q40
      clear z39 q40;exact Z51
     ·rw [q40] at z39;have m39:((y.toNat:Int)==39)=true:=z39;have F:Hid (hd (·==39) (s.data.toList.drop (j+1))=true):=by show _=_;rw [HH.out,HY.out];exact q40
      have hcat:O.size+1≤100000:=I;have hcat2:O.size+(⟨#[39]⟩:ByteArray).size≤100000:=hcat;clear z39 q40;go_wp2
      go_roundg (gk-2)
      case measure=>have h2:=HG.out;omega
      case rel=>
       have h2:=HG.out;refine ⟨j+2,_,rfl,by omega,by omega,by have h5:(⟨#[39]⟩:ByteArray).size=1:=rfl;simp;omega,?_,HB.out.put' _⟩;rw [HTX.out,HC.out,HU.out,hx,Q39.out,txt_two F.out,List.drop_drop]
       cases txt (s.data.toList.drop (j+1+1)) with
       | none=>rfl
       | some z=>simp;omega
    ·have d1:decide (j+1<s.size)=false:=aK h1;have d1':decide ((j:Int)+1<(s.size:Int))=false:=aK I;have F:Hid (hd (·==39) (s.data.toList.drop (j+1))=false):=nO I;exact Z51
  ·have d0:=aK hjs;have d0':decide ((j:Int)<(s.size:Int))=false:=aK I;go_wp2;refine bodyPost_ret (v:=.tuple #[.agg #[.int .i64 K,.string O,.int .i64 N,.int .i64 i],.int .i64 0,.int .i64 11]) (by simp [results,Tryz.results67,go_sem, *]) rfl ?_;refine ⟨?_,.inl ⟨?_,O,?_⟩⟩
   ·exact Z52
   ·rw [HTX.out,List.drop_eq_nil_of_le (by simpa using hjs)];rfl
   ·rfl
def gN (r:Bs):Took Tok:=if hd (·==40) r then .ok ⟨7,[],0⟩ 1 else match symV r with | .err e=>.err e | .ok t n=>.ok ⟨6,t,0⟩ n
def RPost (V:Took Tok) (w:World) (i base:Nat) (e:Ending) (w':World):Prop:=w.grownBy w' none∧
 ((∃x,V= .err x∧∃(k1:Int) (k2:ByteArray) (k3:Int),e= .returned (.tuple #[.agg #[.int .i64 k1,.string k2,.int .i64 k3,.int .i64 i],.int .i64 0,.int .i64 x]))∨
   ∃(t:Tok) (n:Nat) (T:ByteArray),V= .ok t n∧T.data.toList=t.text∧e= .returned (.tuple #[.agg #[.int .i64 t.kind,.string T,.int .i64 t.num,.int .i64 i],.int .i64 ((base+n:Nat):Int),.int .i64 0]))
theorem lQ (c:UInt8):(dX c==3)=cF c:=by
 unfold dX
 cases hs:cF c
 ·cases dE c <;> cases digB c <;> cases fQ c <;> cases gD c <;> rfl
 ·simp [cF,signs] at hs
  rcases hs with rfl | rfl | rfl | rfl | rfl | rfl | rfl | rfl | rfl | rfl | rfl | rfl <;> decide
theorem jH (c:UInt8):(dX c==1)=dE c:=by
 unfold dX
 cases dE c <;> cases digB c <;> cases fQ c <;> cases cF c <;> cases gD c <;> rfl
theorem kH (s:ByteArray) (i:Nat):hd cF (s.data.toList.drop i)=(atV s i==3):=by
 unfold atV
 by_cases h:i<s.size
 ·rw [dif_pos h,mS h,lQ]
 ·rw [dif_neg h,nO I];rfl
theorem iZ (s:ByteArray) (i:Nat):hd dE (s.data.toList.drop i)=(atV s i==1):=by
 unfold atV
 by_cases h:i<s.size
 ·rw [dif_pos h,mS h,jH]
 ·rw [dif_neg h,nO I];rfl
theorem lW (s:ByteArray) (i:Nat) (w:World) (hs:s.size≤100000):Calls Tryz.prog 64 #[.string s,.int .i64 ((i:Int)+1)] w fun e w'=>e= .returned (.int .i64 (atV s (i+1)))∧w'=w:=dF s (i+1) w hs
theorem rat2 (s:ByteArray) (i:Nat) (w:World) (hs:s.size≤100000):Calls Tryz.prog 64 #[.string s,.int .i64 ((i:Int)+1+1)] w fun e w'=>e= .returned (.int .i64 (atV s (i+1+1)))∧w'=w:=dF s (i+1+1) w hs
theorem rsym_arr (s:ByteArray) (i:Nat) (w:World) (hs:s.size≤100000) (hi:i+1≤s.size) (h40:hd (·==40) (s.data.toList.drop (i+1))=true):
  Calls Tryz.prog 68 #[.string s,.agg #[.int .i64 0,.string ⟨#[]⟩,.int .i64 0,.int .i64 i]] w (RPost (gN (s.data.toList.drop (i+1))) w i (i+1)):=by
 have F:Hid (gN (s.data.toList.drop (i+1))= .ok ⟨7,[],0⟩ 1):=if_pos h40;rw [gJ (p:=(·==40)) rfl] at h40;have hlt:i+1<s.size:=by
  rcases Nat.lt_or_ge (i+1) s.size with h | h
  ·exact h
  ·rw [nE h] at h40;cases h40
 rw [bO hlt] at h40;have d1:decide (i+1<s.size)=true:=aD hlt;have d1':decide ((i:Int)+1<(s.size:Int))=true:=aD I;have b2:(i:Int)+1<(s.size:Int):=I;have b3:(0:Int)≤(i:Int)+1:=I;obtain ⟨x,hx⟩:=aE (s[i+1]);rw [hx] at h40;have e40:=fF x 40 I;rw [show (x==UInt8.ofNat 40)=true from h40] at e40;have n40:((x.toNat:Int)==40)=true:=e40;clear h40 e40;go_enter Tryz.func68,Tryz.ntmps68;go_wp2;refine bodyPost_ret (v:=.tuple #[.agg #[.int .i64 7,.string ⟨#[]⟩,.int .i64 0,.int .i64 i],.int .i64 ((i:Int)+1+1),.int .i64 0]) Y33 rfl ?_;refine ⟨?_,.inr ⟨_,_,⟨#[]⟩,F.out,rfl,?_⟩⟩
 ·repeat' (first | (with_reducible exact World.grownBy.refl _ _) | (with_reducible assumption) | (with_reducible refine bF ?_ _) | (with_reducible refine bC ?_ _) | (with_reducible refine aZ ?_ ?_ _) | omega)
 ·rfl
theorem Z53 {P:Prop} (h:P:=by
 go_enter Tryz.func68,Tryz.ntmps68;go_wp2_with (go_at_call 64;(with_reducible refine (lW _ _ _ hs).mono ?_);rw [HA.out];rintro e w' ⟨rfl,rfl⟩);refine bodyPost_ret (v:=.tuple #[.agg #[.int .i64 6,.string ⟨#[]⟩,.int .i64 0,.int .i64 i],.int .i64 0,.int .i64 10]) Y33 rfl ?_;refine ⟨?_,.inl ⟨_,F.out,_,_,_,rfl⟩⟩
 repeat' (first | (with_reducible exact World.grownBy.refl _ _) | (with_reducible assumption) | (with_reducible refine bF ?_ _) | (with_reducible refine bC ?_ _) | (with_reducible refine aZ ?_ ?_ _) | omega)):P:=h
theorem xX (s:ByteArray) (i:Nat) (w:World) (hs:s.size≤100000) (hi:i+1≤s.size) (h40:hd (·==40) (s.data.toList.drop (i+1))=false) (hsg:hd cF (s.data.toList.drop (i+1))=false) (hlt:hd dE (s.data.toList.drop (i+1))=false):
  Calls Tryz.prog 68 #[.string s,.agg #[.int .i64 0,.string ⟨#[]⟩,.int .i64 0,.int .i64 i]] w (RPost (gN (s.data.toList.drop (i+1))) w i (i+1)):=by
 have F:Hid (gN (s.data.toList.drop (i+1))= .err 10):=by show _=_;unfold gN;rw [if_neg (by simp [h40]),sym_none hsg hlt]
 rw [gJ (p:=(·==40)) rfl] at h40;rw [kH] at hsg;rw [iZ] at hlt;obtain ⟨a,ha⟩:=aE (atV s (i+1));have HA:=J ha;rw [ha] at hsg hlt;have nlt:(a != 1)=true:=by unfold bne;rw [hlt];rfl
 clear ha;have b3:(0:Int)≤(i:Int)+1:=I
 by_cases hlt':i+1<s.size
 ·rw [bO hlt'] at h40;have d1:decide (i+1<s.size)=true:=aD hlt';have d1':decide ((i:Int)+1<(s.size:Int))=true:=aD I;have b2:(i:Int)+1<(s.size:Int):=I;obtain ⟨x,hx⟩:=aE (s[i+1]);rw [hx] at h40;have e40:=fF x 40 I;rw [show (x==UInt8.ofNat 40)=false from h40] at e40;have n40:((x.toNat:Int)==40)=false:=e40;clear h40 e40;exact Z53
 ·have d1:decide (i+1<s.size)=false:=aK hlt';have d1':decide ((i:Int)+1<(s.size:Int))=false:=aK I;clear h40;exact Z53
theorem mK (s:ByteArray) (i:Nat) (w:World) (hs:s.size≤100000) (hi:i+1≤s.size):Calls Tryz.prog 65 #[.string s,.int .i64 ((i:Int)+1)] w fun e w'=>e= .returned (.int .i64 ((i+1+bA (s.data.toList.drop (i+1)):Nat):Int))∧w'=w:=lO s (i+1) w hs hi
theorem sg_one {l:Bs} (h:hd cF l=true) (h2:hd cF (l.drop 1)=false):hZ l=1:=by
 cases l with
 | nil=>cases h
 | cons c r=>
  cases r with
  | nil=>simp [hZ,hd] at h ⊢;simp [h]
  | cons d q=>
   simp [hd] at h h2;simp [hZ,h,h2]
theorem sg_two {l:Bs} (h:hd cF l=true) (h2:hd cF (l.drop 1)=true):hZ l=2:=by
 cases l with
 | nil=>cases h
 | cons c r=>
  cases r with
  | nil=>cases h2
  | cons d q=>
   simp [hd] at h h2;simp [hZ,h,h2]
theorem pK {s:ByteArray} {i:Nat} {k:Int} (h:atV s i=k) (hk:k≠ -1):i<s.size:=by
 unfold atV at h
 split at h
 ·assumption
 ·exact absurd h.symm hk
theorem jA {l:Bs} (h:hd (·==40) l=false):gN l=match symV l with | .err e=>.err e | .ok t n=>.ok ⟨6,t,0⟩ n:=if_neg (by simp [h])
theorem xY (s:ByteArray) (i:Nat) (w:World) (hs:s.size≤100000) (hi:i+1≤s.size) (h40:hd (·==40) (s.data.toList.drop (i+1))=false) (hsg:hd cF (s.data.toList.drop (i+1))=false) (hlt:hd dE (s.data.toList.drop (i+1))=true) (h24:bA (s.data.toList.drop (i+1)) > 24):
  Calls Tryz.prog 68 #[.string s,.agg #[.int .i64 0,.string ⟨#[]⟩,.int .i64 0,.int .i64 i]] w (RPost (gN (s.data.toList.drop (i+1))) w i (i+1)):=by
 have F:Hid (gN (s.data.toList.drop (i+1))= .err 12):=by show _=_;rw [jA h40,sym_long hsg hlt h24]
 rw [gJ (p:=(·==40)) rfl] at h40;rw [kH] at hsg;rw [iZ] at hlt;have hlt':i+1<s.size:=pK (by simpa using hlt) Y3;obtain ⟨a,ha⟩:=aE (atV s (i+1));have HA:=J ha;rw [ha] at hsg hlt;have nlt:(a != 1)=false:=by unfold bne;rw [hlt];rfl
 clear ha;have hbn:=mT s (i+1) hi;obtain ⟨n,hn⟩:=aE (bA (s.data.toList.drop (i+1)));have HN:=J hn;rw [hn] at h24 hbn;clear hn;obtain ⟨q,hq⟩:∃q,q=i+1+n:=⟨_,rfl⟩;have HQ:=J hq;have t24:decide (24<(q:Int)-((i:Int)+1))=true:=aD I;rw [←hq] at hbn;clear hq;have b3:(0:Int)≤(i:Int)+1:=I;rw [bO hlt'] at h40;have d1:decide (i+1<s.size)=true:=aD hlt';have d1':decide ((i:Int)+1<(s.size:Int))=true:=aD I;have b2:(i:Int)+1<(s.size:Int):=I;obtain ⟨x,hx⟩:=aE (s[i+1]);rw [hx] at h40;have e40:=fF x 40 I;rw [show (x==UInt8.ofNat 40)=false from h40] at e40;have n40:((x.toNat:Int)==40)=false:=e40;clear h40 e40;go_enter Tryz.func68,Tryz.ntmps68;go_wp2_with (first | (go_at_call 64;(with_reducible refine (lW _ _ _ hs).mono ?_);rw [HA.out];rintro e w' ⟨rfl,rfl⟩) | (go_at_call 65;(with_reducible refine (mK _ _ _ hs hi).mono ?_);rw [HN.out,←HQ.out];rintro e w' ⟨rfl,rfl⟩));refine bodyPost_ret (v:=.tuple #[.agg #[.int .i64 6,.string ⟨#[]⟩,.int .i64 0,.int .i64 i],.int .i64 0,.int .i64 12]) Y33 rfl ?_;refine ⟨?_,.inl ⟨_,F.out,_,_,_,rfl⟩⟩
 repeat' (first | (with_reducible exact World.grownBy.refl _ _) | (with_reducible assumption) | (with_reducible refine bF ?_ _) | (with_reducible refine bC ?_ _) | (with_reducible refine aZ ?_ ?_ _) | omega)
theorem Z54 {P:Prop} (h:P:=by
 refine ⟨?_,.inr ⟨_,_,t,F.out,by rw [←HT.out];exact HX.out,rfl⟩⟩
 repeat' (first | (with_reducible exact World.grownBy.refl _ _) | (with_reducible assumption) | (with_reducible refine bF ?_ _) | (with_reducible refine bC ?_ _) | (with_reducible refine aZ ?_ ?_ _) | omega)):P:=h
theorem uU (s:ByteArray) (i:Nat) (w:World) (hs:s.size≤100000) (hi:i+1≤s.size) (h40:hd (·==40) (s.data.toList.drop (i+1))=false) (hsg:hd cF (s.data.toList.drop (i+1))=true) (hsg2:hd cF (s.data.toList.drop (i+1+1))=true):
  Calls Tryz.prog 68 #[.string s,.agg #[.int .i64 0,.string ⟨#[]⟩,.int .i64 0,.int .i64 i]] w (RPost (gN (s.data.toList.drop (i+1))) w i (i+1)):=by
 have F:Hid (gN (s.data.toList.drop (i+1))= .ok ⟨6,(s.data.toList.drop (i+1)).take 2,0⟩ 2):=by show _=_;rw [jA h40,sF hsg,sg_two hsg Y121]
 rw [gJ (p:=(·==40)) rfl] at h40;rw [kH] at hsg hsg2;have hlt':i+1<s.size:=pK (by simpa using hsg) Y3;have hlt2:i+1+1<s.size:=pK (by simpa using hsg2) Y3;obtain ⟨a,ha⟩:=aE (atV s (i+1));have HA:=J ha;obtain ⟨a2,ha2⟩:=aE (atV s (i+1+1));have HA2:=J ha2;rw [ha] at hsg;rw [ha2] at hsg2;clear ha ha2;have b3:(0:Int)≤(i:Int)+1:=I;rw [bO hlt'] at h40;have d1:decide (i+1<s.size)=true:=aD hlt';have d1':decide ((i:Int)+1<(s.size:Int))=true:=aD I;have b2:(i:Int)+1<(s.size:Int):=I;have b4:(i:Int)+1+1+1≤(s.size:Int):=I;have b5:(i:Int)+1≤(i:Int)+1+1+1:=I;have b6:(0:Int)≤(i:Int)+1+1+1:=I;have b7:((i:Int)+1+1+1).toNat=i+1+2:=I;have b8:((i:Int)+1).toNat=i+1:=I;have b9:i+1≤i+1+2:=I;have b10:i+1+2≤s.size:=I;have HX:=J (fW s (i+1) 2);obtain ⟨t,ht⟩:=aE (s.extract (i+1) (i+1+2));have HT:=J ht;obtain ⟨x,hx⟩:=aE (s[i+1]);rw [hx] at h40;have e40:=fF x 40 I;rw [show (x==UInt8.ofNat 40)=false from h40] at e40;have n40:((x.toNat:Int)==40)=false:=e40;clear h40 e40;go_enter Tryz.func68,Tryz.ntmps68;go_wp2_with (first | (go_at_call 64;(with_reducible refine (lW _ _ _ hs).mono ?_);rw [HA.out];rintro e w' ⟨rfl,rfl⟩) | (go_at_call 64;(with_reducible refine (rat2 _ _ _ hs).mono ?_);rw [HA2.out];rintro e w' ⟨rfl,rfl⟩));refine bodyPost_ret (v:=.tuple #[.agg #[.int .i64 6,.string t,.int .i64 0,.int .i64 i],.int .i64 ((i:Int)+1+1+1),.int .i64 0]) Y33 rfl ?_;exact Z54
theorem uV (s:ByteArray) (i:Nat) (w:World) (hs:s.size≤100000) (hi:i+1≤s.size) (h40:hd (·==40) (s.data.toList.drop (i+1))=false) (hsg:hd cF (s.data.toList.drop (i+1))=true) (hsg2:hd cF (s.data.toList.drop (i+1+1))=false):
  Calls Tryz.prog 68 #[.string s,.agg #[.int .i64 0,.string ⟨#[]⟩,.int .i64 0,.int .i64 i]] w (RPost (gN (s.data.toList.drop (i+1))) w i (i+1)):=by
 have F:Hid (gN (s.data.toList.drop (i+1))= .ok ⟨6,(s.data.toList.drop (i+1)).take 1,0⟩ 1):=by show _=_;rw [jA h40,sF hsg,sg_one hsg Y121]
 rw [gJ (p:=(·==40)) rfl] at h40;rw [kH] at hsg hsg2;have hlt':i+1<s.size:=pK (by simpa using hsg) Y3;obtain ⟨a,ha⟩:=aE (atV s (i+1));have HA:=J ha;obtain ⟨a2,ha2⟩:=aE (atV s (i+1+1));have HA2:=J ha2;rw [ha] at hsg;rw [ha2] at hsg2;clear ha ha2;have b3:(0:Int)≤(i:Int)+1:=I;rw [bO hlt'] at h40;have d1:decide (i+1<s.size)=true:=aD hlt';have d1':decide ((i:Int)+1<(s.size:Int))=true:=aD I;have b2:(i:Int)+1<(s.size:Int):=I;have b4:(i:Int)+1+1≤(s.size:Int):=I;have b5:(i:Int)+1≤(i:Int)+1+1:=I;have b6:(0:Int)≤(i:Int)+1+1:=I;have b7:((i:Int)+1+1).toNat=i+1+1:=I;have b8:((i:Int)+1).toNat=i+1:=I;have b9:i+1≤i+1+1:=I;have b10:i+1+1≤s.size:=I;have HX:=J (fW s (i+1) 1);obtain ⟨t,ht⟩:=aE (s.extract (i+1) (i+1+1));have HT:=J ht;obtain ⟨x,hx⟩:=aE (s[i+1]);rw [hx] at h40;have e40:=fF x 40 I;rw [show (x==UInt8.ofNat 40)=false from h40] at e40;have n40:((x.toNat:Int)==40)=false:=e40;clear h40 e40;go_enter Tryz.func68,Tryz.ntmps68;go_wp2_with (first | (go_at_call 64;(with_reducible refine (lW _ _ _ hs).mono ?_);rw [HA.out];rintro e w' ⟨rfl,rfl⟩) | (go_at_call 64;(with_reducible refine (rat2 _ _ _ hs).mono ?_);rw [HA2.out];rintro e w' ⟨rfl,rfl⟩));refine bodyPost_ret (v:=.tuple #[.agg #[.int .i64 6,.string t,.int .i64 0,.int .i64 i],.int .i64 ((i:Int)+1+1),.int .i64 0]) Y33 rfl ?_;exact Z54
theorem kI (c:UInt8):(dX c==4)=gD c:=by
 unfold dX
 cases hs:gD c
 ·cases dE c <;> cases digB c <;> cases fQ c <;> cases cF c <;> rfl
 ·simp [gD,marks] at hs
  rcases hs with rfl | rfl | rfl | rfl | rfl | rfl | rfl | rfl <;> decide
theorem xZ (s:ByteArray) (i:Nat) (w:World) (hs:s.size≤100000) (hi:i<s.size) (hm:gD (bQ s i)=true):
  Calls Tryz.prog 47 #[.string s,.int .i64 i] w (RPost (tokV (s.data.toList.drop i)) w i i):=by
 have F:Hid (tokV (s.data.toList.drop i)= .ok ⟨10,[bQ s i],0⟩ 1):=by
  show _=_
  rw [cX hi]
  generalize bQ s i=c at hm ⊢
  generalize s.data.toList.drop (i+1)=r
  simp [gD,marks] at hm
  rcases hm with rfl | rfl | rfl | rfl | rfl | rfl | rfl | rfl <;> rfl
 have HA:Hid (atV s i=4):=by show _=_;unfold atV;rw [dif_pos hi,←bO hi];have:=(kI (bQ s i)).trans hm;simpa using this
 clear hm;obtain ⟨a,ha⟩:∃a,a=(4:Int):=⟨_,rfl⟩;rw [←ha] at HA;have a1:(a==1)=false:=Y17;have a2:(a==2)=false:=Y17;have a3:(a==3)=false:=Y17;have a4:(a==4)=true:=Y17;clear ha;have b1:(i:Int)+1≤(s.size:Int):=I;have b2:(i:Int)≤(i:Int)+1:=I;have b3:(0:Int)≤(i:Int)+1:=I;have b4:((i:Int)+1).toNat=i+1:=I;have b5:i≤i+1:=I;have b6:i+1≤s.size:=I;obtain ⟨t,ht⟩:=aE (s.extract i (i+1));have HT:Hid (t.data.toList=[bQ s i]):=by show _=_;rw [bO hi];exact tA hi ht
 go_enter Tryz.func47,Tryz.ntmps47;go_wp2_with (first | (go_at_call 64;(with_reducible refine (dF _ _ _ hs).mono ?_);rw [HA.out];rintro e w' ⟨rfl,rfl⟩));refine bodyPost_ret (v:=.tuple #[.agg #[.int .i64 10,.string t,.int .i64 0,.int .i64 i],.int .i64 ((i:Int)+1),.int .i64 0]) Y13 rfl ?_;refine ⟨?_,.inr ⟨_,_,t,F.out,HT.out,rfl⟩⟩
 repeat' (first | (with_reducible exact World.grownBy.refl _ _) | (with_reducible assumption) | (with_reducible refine bF ?_ _) | (with_reducible refine bC ?_ _) | (with_reducible refine aZ ?_ ?_ _) | omega)
theorem qS {l:Bs} (h:hd cF l=true):tokV l= .ok ⟨3,l.take (hZ l),0⟩ (hZ l):=by
 cases l with
 | nil=>cases h
 | cons c r=>
  have h':cF c=true:=h;simp [hd,cF,signs] at h;unfold tokV
  rcases h with rfl | rfl | rfl | rfl | rfl | rfl | rfl | rfl | rfl | rfl | rfl | rfl <;> rfl
theorem Z55 {P:Prop} (h:P:=by
 refine ⟨?_,.inr ⟨_,_,t,F.out,by rw [←HT.out];exact HX.out,rfl⟩⟩
 repeat' (first | (with_reducible exact World.grownBy.refl _ _) | (with_reducible assumption) | (with_reducible refine bF ?_ _) | (with_reducible refine bC ?_ _) | (with_reducible refine aZ ?_ ?_ _) | omega)):P:=h
theorem uW (s:ByteArray) (i:Nat) (w:World) (hs:s.size≤100000) (hi:i<s.size) (hsg:hd cF (s.data.toList.drop i)=true) (hsg2:hd cF (s.data.toList.drop (i+1))=true):
  Calls Tryz.prog 47 #[.string s,.int .i64 i] w (RPost (tokV (s.data.toList.drop i)) w i i):=by
 have F:Hid (tokV (s.data.toList.drop i)= .ok ⟨3,(s.data.toList.drop i).take 2,0⟩ 2):=by
  show _=_
  rw [qS hsg,sg_two hsg Y121]
 rw [kH] at hsg hsg2;have hi2:i+1<s.size:=pK (by simpa using hsg2) Y3;have h3:atV s i=3:=by simpa using hsg
 clear hsg;obtain ⟨a,ha⟩:∃a,a=(3:Int):=⟨_,rfl⟩;rw [←ha] at h3;have HA:=J h3;have a1:(a==1)=false:=Y17;have a2:(a==2)=false:=Y17;have a3:(a==3)=true:=Y17;obtain ⟨q,hq⟩:=aE (atV s (i+1));have HA2:=J hq;rw [hq] at hsg2;clear ha h3 hq;have b1:(i:Int)+1+1≤(s.size:Int):=I;have b2:(i:Int)≤(i:Int)+1+1:=I;have b3:(0:Int)≤(i:Int)+1+1:=I;have b4:((i:Int)+1+1).toNat=i+2:=I;have b5:i≤i+2:=I;have b6:i+2≤s.size:=I;have HX:=J (fW s i 2);obtain ⟨t,ht⟩:=aE (s.extract i (i+2));have HT:=J ht;go_enter Tryz.func47,Tryz.ntmps47;go_wp2_with (first | (go_at_call 64;(with_reducible refine (dF _ _ _ hs).mono ?_);rw [HA.out];rintro e w' ⟨rfl,rfl⟩) | (go_at_call 64;(with_reducible refine (lW _ _ _ hs).mono ?_);rw [HA2.out];rintro e w' ⟨rfl,rfl⟩));refine bodyPost_ret (v:=.tuple #[.agg #[.int .i64 3,.string t,.int .i64 0,.int .i64 i],.int .i64 ((i:Int)+1+1),.int .i64 0]) Y13 rfl ?_;exact Z55
theorem uX (s:ByteArray) (i:Nat) (w:World) (hs:s.size≤100000) (hi:i<s.size) (hsg:hd cF (s.data.toList.drop i)=true) (hsg2:hd cF (s.data.toList.drop (i+1))=false):
  Calls Tryz.prog 47 #[.string s,.int .i64 i] w (RPost (tokV (s.data.toList.drop i)) w i i):=by
 have F:Hid (tokV (s.data.toList.drop i)= .ok ⟨3,(s.data.toList.drop i).take 1,0⟩ 1):=by
  show _=_
  rw [qS hsg,sg_one hsg Y121]
 rw [kH] at hsg hsg2;have hi2:i<s.size:=hi;have h3:atV s i=3:=by simpa using hsg
 clear hsg;obtain ⟨a,ha⟩:∃a,a=(3:Int):=⟨_,rfl⟩;rw [←ha] at h3;have HA:=J h3;have a1:(a==1)=false:=Y17;have a2:(a==2)=false:=Y17;have a3:(a==3)=true:=Y17;obtain ⟨q,hq⟩:=aE (atV s (i+1));have HA2:=J hq;rw [hq] at hsg2;clear ha h3 hq;have b1:(i:Int)+1≤(s.size:Int):=I;have b2:(i:Int)≤(i:Int)+1:=I;have b3:(0:Int)≤(i:Int)+1:=I;have b4:((i:Int)+1).toNat=i+1:=I;have b5:i≤i+1:=I;have b6:i+1≤s.size:=I;have HX:=J (fW s i 1);obtain ⟨t,ht⟩:=aE (s.extract i (i+1));have HT:=J ht;go_enter Tryz.func47,Tryz.ntmps47;go_wp2_with (first | (go_at_call 64;(with_reducible refine (dF _ _ _ hs).mono ?_);rw [HA.out];rintro e w' ⟨rfl,rfl⟩) | (go_at_call 64;(with_reducible refine (lW _ _ _ hs).mono ?_);rw [HA2.out];rintro e w' ⟨rfl,rfl⟩));refine bodyPost_ret (v:=.tuple #[.agg #[.int .i64 3,.string t,.int .i64 0,.int .i64 i],.int .i64 ((i:Int)+1),.int .i64 0]) Y13 rfl ?_;exact Z55
theorem rtextR (s:ByteArray) (i:Nat) (w:World) (hs:s.size≤100000) (hi:i+1≤s.size) (h39:bQ s i=39):
  Calls Tryz.prog 67 #[.string s,.agg #[.int .i64 5,.string ⟨#[]⟩,.int .i64 0,.int .i64 i]] w (RPost (tokV (s.data.toList.drop i)) w i i):=by
 refine (rtext_any s i 5 0 w hs hi).mono ?_;have hc:s.data.toList.drop i=39 :: s.data.toList.drop (i+1):=by rw [cX hi,h39]
 rintro e w' ⟨hg,⟨hn,T,rfl⟩ | ⟨t,n,T,ht,hT,rfl⟩⟩
 ·exact ⟨hg,.inl ⟨11,by rw [hc];show (match txt (s.data.toList.drop (i+1)) with | none=>Took.err 11 | some (t,n)=>Took.ok (Tok.mk 5 t 0) (n+1))=_;rw [hn],_,_,_,rfl⟩⟩
 ·refine ⟨hg,.inr ⟨⟨5,t,0⟩,n+1,T,by rw [hc];show (match txt (s.data.toList.drop (i+1)) with | none=>Took.err 11 | some (t,n)=>Took.ok (Tok.mk 5 t 0) (n+1))=_;rw [ht],hT,?_⟩⟩;rw [show i+1+n=i+(n+1) by omega]
theorem RPost.shape {V:Took Tok} {w:World} {i base:Nat} {e:Ending} {w':World} (h:RPost V w i base e w'):∃(k1:Int) (k2:ByteArray) (k3 m x:Int),e= .returned (.tuple #[.agg #[.int .i64 k1,.string k2,.int .i64 k3,.int .i64 i],.int .i64 m,.int .i64 x]):=by
 obtain ⟨_,⟨x,_,k1,k2,k3,rfl⟩ | ⟨t,n,T,_,_,rfl⟩⟩:=h
 ·exact ⟨_,_,_,_,_,rfl⟩
 ·exact ⟨_,_,_,_,_,rfl⟩
theorem yA (s:ByteArray) (i:Nat) (w:World) (hs:s.size≤100000) (hi:i<s.size) (h39:bQ s i=39):
  Calls Tryz.prog 47 #[.string s,.int .i64 i] w (RPost (tokV (s.data.toList.drop i)) w i i):=by
 have R:=fun w'=>rtextR s i w' hs hi h39
 have h0:atV s i=0:=by unfold atV;rw [dif_pos hi,←bO hi,h39];rfl
 obtain ⟨V,hV⟩:=aE (tokV (s.data.toList.drop i));rw [hV];rw [hV] at R;obtain ⟨a,ha⟩:∃a,a=(0:Int):=⟨_,rfl⟩;rw [←ha] at h0;have HA:=J h0;have a1:(a==1)=false:=Y17;have a2:(a==2)=false:=Y17;have a3:(a==3)=false:=Y17;have a4:(a==4)=false:=Y17;have hx:s[i]=39:=by rw [←bO hi,h39]
 have b0:(0:Int)≤(i:Int):=I;have b1:(i:Int)<(s.size:Int):=I;clear ha h0 hV h39;have v0:∀o:Obj,((w.alloc (.cells #[.int .i64 0,.string ⟨#[]⟩,.int .i64 0,.int .i64 0] 72)).alloc o).cell? ⟨w.heap.size,0,none⟩=some (.int .i64 0):=fun o=>by simp [go_sem]
 have v1:∀o:Obj,((w.alloc (.cells #[.int .i64 0,.string ⟨#[]⟩,.int .i64 0,.int .i64 0] 72)).alloc o).cell? ⟨w.heap.size,1,none⟩=some (.string ⟨#[]⟩):=fun o=>by simp [go_sem]
 have v2:∀o:Obj,((w.alloc (.cells #[.int .i64 0,.string ⟨#[]⟩,.int .i64 0,.int .i64 0] 72)).alloc o).cell? ⟨w.heap.size,2,none⟩=some (.int .i64 0):=fun o=>by simp [go_sem]
 have v3:∀o:Obj,((w.alloc (.cells #[.int .i64 0,.string ⟨#[]⟩,.int .i64 0,.int .i64 0] 72)).alloc o).cell? ⟨w.heap.size,3,none⟩=some (.int .i64 0):=fun o=>by simp [go_sem]
 have z0:∀(o:Obj) (k:Nat),((w.alloc (.cells #[.int .i64 0,.string ⟨#[]⟩,.int .i64 0,.int .i64 0] 72)).alloc o).frozen? ⟨w.heap.size,k,none⟩=false:=fun o k=>by simp [go_sem]
 go_enter Tryz.func47,Tryz.ntmps47;go_wp2_with (first | (go_at_call 64;(with_reducible refine (dF _ _ _ hs).mono ?_);rw [HA.out];rintro e w' ⟨rfl,rfl⟩))
 (with_reducible refine (R _).mono ?_)
 rintro e w2 hR;obtain ⟨k1,k2,k3,m,x,rfl⟩:=hR.shape;have hbk:=hR.1.block w.heap.size (by simp only [World.alloc,Array.size_push];omega) Y12;have cf:=fun (o:Nat)=>World.cell?_of_block (a:=⟨w.heap.size,o,none⟩) hbk
 have ff:=fun (o:Nat)=>World.frozen?_of_block (a:=⟨w.heap.size,o,none⟩) hbk
 have c0:=(cf 0).trans (v0 _);have c1:=(cf 1).trans (v1 _);have c2:=(cf 2).trans (v2 _);have c3:=(cf 3).trans (v3 _);have f0:=(ff 0).trans (z0 _ 0);have f1:=(ff 1).trans (z0 _ 1);have f2:=(ff 2).trans (z0 _ 2);have f3:=(ff 3).trans (z0 _ 3);go_wp2;refine bodyPost_ret (v:=.tuple #[.agg #[.int .i64 k1,.string k2,.int .i64 k3,.int .i64 i],.int .i64 m,.int .i64 x]) Y13 rfl ?_;refine ⟨?_,hR.2⟩;have g0:w.grownBy w2 none:=((World.grownBy_alloc _ _ _).trans (World.grownBy_alloc _ _ _)).trans hR.1
 repeat' (first | (with_reducible assumption) | (with_reducible refine bC ?_ _) | (with_reducible refine aZ ?_ ?_ _) | omega)
theorem tB (s:ByteArray) (i:Nat) (w:World) (hs:s.size≤100000) (hi:i<s.size) (h58:bQ s i=58) (h61:bQ s (i+1)=61):
  Calls Tryz.prog 47 #[.string s,.int .i64 i] w (RPost (tokV (s.data.toList.drop i)) w i i):=by
 have hi1:i+1<s.size:=by
  rcases Nat.lt_or_ge (i+1) s.size with h | h
  ·exact h
  ·rw [nE h] at h61;cases h61
 have F:Hid (tokV (s.data.toList.drop i)= .ok ⟨9,[],0⟩ 2):=by show _=_;rw [cX hi,h58,cX hi1,h61];rfl
 have h0:atV s i=0:=Y122;obtain ⟨a,ha⟩:∃a,a=(0:Int):=⟨_,rfl⟩;rw [←ha] at h0;have HA:=J h0;have a1:(a==1)=false:=Y17;have a2:(a==2)=false:=Y17;have a3:(a==3)=false:=Y17;have a4:(a==4)=false:=Y17;have hx:s[i]=58:=by rw [←bO hi,h58]
 have hy:s[i+1]=61:=by rw [←bO hi1,h61]
 have b0:(0:Int)≤(i:Int):=I;have b1:(i:Int)<(s.size:Int):=I;have b2:(i:Int)+1<(s.size:Int):=I;have b3:(0:Int)≤(i:Int)+1:=I;have d1:decide (i+1<s.size)=true:=aD hi1;have d1':decide ((i:Int)+1<(s.size:Int))=true:=aD b2;clear ha h0 h58 h61;go_enter Tryz.func47,Tryz.ntmps47;go_wp2_with (go_at_call 64;(with_reducible refine (dF _ _ _ hs).mono ?_);rw [HA.out];rintro e w' ⟨rfl,rfl⟩);refine bodyPost_ret (v:=.tuple #[.agg #[.int .i64 9,.string ⟨#[]⟩,.int .i64 0,.int .i64 i],.int .i64 ((i:Int)+2),.int .i64 0]) Y13 rfl ?_;refine ⟨?_,.inr ⟨_,_,⟨#[]⟩,F.out,rfl,rfl⟩⟩
 repeat' (first | (with_reducible exact World.grownBy.refl _ _) | (with_reducible assumption) | (with_reducible refine bF ?_ _) | (with_reducible refine bC ?_ _) | (with_reducible refine aZ ?_ ?_ _) | omega)
theorem yB (s:ByteArray) (i:Nat) (w:World) (hs:s.size≤100000) (hi:i<s.size) (hlt:hd dE (s.data.toList.drop i)=true) (n:Nat) (hn:bA (s.data.toList.drop i)=n) (h24:n > 24):
  Calls Tryz.prog 47 #[.string s,.int .i64 i] w (RPost (tokV (s.data.toList.drop i)) w i i):=by
 have F:Hid (tokV (s.data.toList.drop i)= .err 12):=by
  show _=_
  obtain ⟨c,r,hcr,hl⟩:=oK hlt;rw [hcr] at hn ⊢;rw [rL hl,wrd_long (by rw [hn];exact h24)]
 obtain ⟨a,ha⟩:∃a,a=(1:Int):=⟨_,rfl⟩;have HA:Hid (atV s i=a):=Y60;have a1:(a==1)=true:=Y17;clear ha;have hbn:=mT s i (Nat.le_of_lt hi);rw [hn] at hbn;have HN:=J hn;obtain ⟨q,hq⟩:∃q,q=i+n:=⟨_,rfl⟩;have HQ:=J hq;rw [←hq] at hbn;have t24:decide (24<(q:Int)-(i:Int))=true:=aD I;have hi':i≤s.size:=I;clear hq hn hlt;go_enter Tryz.func47,Tryz.ntmps47;go_wp2_with (first | (go_at_call 64;(with_reducible refine (dF _ _ _ hs).mono ?_);rw [HA.out];rintro e w' ⟨rfl,rfl⟩) | (go_at_call 65;(with_reducible refine (lO _ _ _ hs hi').mono ?_);rw [HN.out,←HQ.out];rintro e w' ⟨rfl,rfl⟩));refine bodyPost_ret (v:=.tuple #[.agg #[.int .i64 0,.string ⟨#[]⟩,.int .i64 0,.int .i64 i],.int .i64 (0),.int .i64 12]) Y13 rfl ?_;refine ⟨?_,.inl ⟨_,F.out,_,_,_,rfl⟩⟩
 (repeat' (first | (with_reducible exact World.grownBy.refl _ _) | (with_reducible assumption) | (with_reducible refine bF ?_ _) | (with_reducible refine bC ?_ _) | (with_reducible refine aZ ?_ ?_ _) | omega))
theorem yC (s:ByteArray) (i:Nat) (w:World) (hs:s.size≤100000) (hi:i<s.size) (hlt:hd dE (s.data.toList.drop i)=true) (n:Nat) (hn:bA (s.data.toList.drop i)=n) (h24:¬n > 24) (hc:cK (s.data.toList.drop (i+n))=false):
  Calls Tryz.prog 47 #[.string s,.int .i64 i] w (RPost (tokV (s.data.toList.drop i)) w i i):=by
 have F:Hid (tokV (s.data.toList.drop i)= .ok ⟨1,(s.data.toList.drop i).take (n),0⟩ (n)):=by
  show _=_
  obtain ⟨c,r,hcr,hl⟩:=oK hlt;rw [←List.drop_drop] at hc;rw [hcr] at hn hc ⊢;rw [rL hl,wrd_nm (by rw [hn];exact h24) (by rw [hn];exact hc),hn]
 obtain ⟨a,ha⟩:∃a,a=(1:Int):=⟨_,rfl⟩;have HA:Hid (atV s i=a):=Y60;have a1:(a==1)=true:=Y17;clear ha;have hbn:=mT s i (Nat.le_of_lt hi);rw [hn] at hbn;have HN:=J hn;obtain ⟨q,hq⟩:∃q,q=i+n:=⟨_,rfl⟩;have HQ:=J hq;rw [←hq] at hbn;have HC:Hid (cK (s.data.toList.drop q)=false):=by show _=_;rw [hq];exact hc
 have t24:decide (24<(q:Int)-(i:Int))=false:=aK I;have hi':i≤s.size:=I;have b1:(q:Int)≤(s.size:Int):=I;have b2:(i:Int)≤(q:Int):=I;have b3:(0:Int)≤(q:Int):=I;have b4:((q:Int)).toNat=q:=I;have b4':((i:Int)).toNat=i:=I;have b5:i≤q:=I;have b6:q≤s.size:=I;have b7:(0:Int)≤(i:Int):=I;have hx:=fW s (i) (n);rw [show i+(n)=q by omega] at hx;have HX:=J hx;obtain ⟨t,ht⟩:=aE (s.extract (i) (q));have HT:=J ht;clear hx;clear hq hn hc hlt;go_enter Tryz.func47,Tryz.ntmps47;go_wp2_with (first | (go_at_call 64;(with_reducible refine (dF _ _ _ hs).mono ?_);rw [HA.out];rintro e w' ⟨rfl,rfl⟩) | (go_at_call 65;(with_reducible refine (lO _ _ _ hs hi').mono ?_);rw [HN.out,←HQ.out];rintro e w' ⟨rfl,rfl⟩) | (go_at_call 66;(with_reducible refine (eV s q _ hs).mono ?_);rw [HC.out];rintro e w' ⟨rfl,rfl⟩));refine bodyPost_ret (v:=.tuple #[.agg #[.int .i64 1,.string t,.int .i64 0,.int .i64 i],.int .i64 ((q:Int)),.int .i64 0]) Y13 rfl ?_;refine ⟨?_,.inr ⟨_,_,t,F.out,by rw [←HT.out];exact HX.out,by have:=HQ.out;rw [show i+(n)=q by omega] <;> rfl⟩⟩
 (repeat' (first | (with_reducible exact World.grownBy.refl _ _) | (with_reducible assumption) | (with_reducible refine bF ?_ _) | (with_reducible refine bC ?_ _) | (with_reducible refine aZ ?_ ?_ _) | omega))
theorem rtok_kw (s:ByteArray) (i:Nat) (w:World) (hs:s.size≤100000) (hi:i<s.size) (hlt:hd dE (s.data.toList.drop i)=true) (n:Nat) (hn:bA (s.data.toList.drop i)=n) (h24:¬n > 24) (hc:cK (s.data.toList.drop (i+n))=true):
  Calls Tryz.prog 47 #[.string s,.int .i64 i] w (RPost (tokV (s.data.toList.drop i)) w i i):=by
 have F:Hid (tokV (s.data.toList.drop i)= .ok ⟨2,(s.data.toList.drop i).take (n+1),0⟩ (n+1)):=by
  show _=_
  obtain ⟨c,r,hcr,hl⟩:=oK hlt;rw [←List.drop_drop] at hc;rw [hcr] at hn hc ⊢;rw [rL hl,wrd_kw (by rw [hn];exact h24) (by rw [hn];exact hc),hn]
 obtain ⟨a,ha⟩:∃a,a=(1:Int):=⟨_,rfl⟩;have HA:Hid (atV s i=a):=Y60;have a1:(a==1)=true:=Y17;clear ha;have hbn:=mT s i (Nat.le_of_lt hi);rw [hn] at hbn;have HN:=J hn;obtain ⟨q,hq⟩:∃q,q=i+n:=⟨_,rfl⟩;have HQ:=J hq;rw [←hq] at hbn;have HC:Hid (cK (s.data.toList.drop q)=true):=by show _=_;rw [hq];exact hc
 have hq1:q+1≤s.size:=by
  have:=iO HC.out;simp at this;have:s.data.size=s.size:=rfl;omega
 have t24:decide (24<(q:Int)-(i:Int))=false:=aK I;have hi':i≤s.size:=I;have b1:(q:Int)+1≤(s.size:Int):=I;have b2:(i:Int)≤(q:Int)+1:=I;have b3:(0:Int)≤(q:Int)+1:=I;have b4:((q:Int)+1).toNat=q+1:=I;have b4':((i:Int)).toNat=i:=I;have b5:i≤q+1:=I;have b6:q+1≤s.size:=I;have b7:(0:Int)≤(i:Int):=I;have hx:=fW s (i) (n+1);rw [show i+(n+1)=q+1 by omega] at hx;have HX:=J hx;obtain ⟨t,ht⟩:=aE (s.extract (i) (q+1));have HT:=J ht;clear hx;clear hq hn hc hlt;go_enter Tryz.func47,Tryz.ntmps47;go_wp2_with (first | (go_at_call 64;(with_reducible refine (dF _ _ _ hs).mono ?_);rw [HA.out];rintro e w' ⟨rfl,rfl⟩) | (go_at_call 65;(with_reducible refine (lO _ _ _ hs hi').mono ?_);rw [HN.out,←HQ.out];rintro e w' ⟨rfl,rfl⟩) | (go_at_call 66;(with_reducible refine (eV s q _ hs).mono ?_);rw [HC.out];rintro e w' ⟨rfl,rfl⟩));refine bodyPost_ret (v:=.tuple #[.agg #[.int .i64 2,.string t,.int .i64 0,.int .i64 i],.int .i64 ((q:Int)+1),.int .i64 0]) Y13 rfl ?_;refine ⟨?_,.inr ⟨_,_,t,F.out,by rw [←HT.out];exact HX.out,by have:=HQ.out;rw [show i+(n+1)=q+1 by omega] <;> rfl⟩⟩
 (repeat' (first | (with_reducible exact World.grownBy.refl _ _) | (with_reducible assumption) | (with_reducible refine bF ?_ _) | (with_reducible refine bC ?_ _) | (with_reducible refine aZ ?_ ?_ _) | omega))
theorem qC (s:ByteArray) (i:Nat) (w:World) (hs:s.size≤100000) (hi:i<s.size) (h58:bQ s i=58) (h61:(bQ s (i+1)==61)=false) (hlt:hd dE (s.data.toList.drop (i+1))=true) (n:Nat) (hn:bA (s.data.toList.drop (i+1))=n) (h24:n > 24):
  Calls Tryz.prog 47 #[.string s,.int .i64 i] w (RPost (tokV (s.data.toList.drop i)) w i i):=by
 have hi1:i+1<s.size:=by
  have:=rJ hlt;simp at this;have:s.data.size=s.size:=rfl;omega
 have F:Hid (tokV (s.data.toList.drop i)= .err 12):=by
  show _=_
  rw [cX hi,h58]
  show (if hd (·==61) (s.data.toList.drop (i+1)) then Took.ok (Tok.mk 9 [] 0) 2 else if hd dE (s.data.toList.drop (i+1)) then (if bA (s.data.toList.drop (i+1)) > 24 then .err 12 else .ok ⟨8,(s.data.toList.drop (i+1)).take (bA (s.data.toList.drop (i+1))),0⟩ (bA (s.data.toList.drop (i+1))+1)) else .err 10)=_
  rw [gJ (p:=(·==61)) rfl,if_neg (by rw [h61];simp),if_pos hlt,hn,if_pos h24]
 have h0:atV s i=0:=Y122;obtain ⟨a,ha⟩:∃a,a=(0:Int):=⟨_,rfl⟩;rw [←ha] at h0;have HA:=J h0;have a1:(a==1)=false:=Y17;have a2:(a==2)=false:=Y17;have a3:(a==3)=false:=Y17;have a4:(a==4)=false:=Y17;have hx:s[i]=58:=by rw [←bO hi,h58]
 have b0:(0:Int)≤(i:Int):=I;have b01:(i:Int)<(s.size:Int):=I;have b02:(i:Int)+1<(s.size:Int):=I;have b03:(0:Int)≤(i:Int)+1:=I;have d1:decide (i+1<s.size)=true:=aD hi1;have d1':decide ((i:Int)+1<(s.size:Int))=true:=aD b02;obtain ⟨y,hy⟩:=aE (s[i+1]);have hyb:bQ s (i+1)=y:=by rw [bO hi1,hy]
 have e61:=fF y 61 I;rw [show (y==UInt8.ofNat 61)=false from by rw [←hyb];exact h61] at e61;have n61:((y.toNat:Int)==61)=false:=e61;obtain ⟨a',ha'⟩:∃a',a'=(1:Int):=⟨_,rfl⟩;have HA':Hid (atV s (i+1)=a'):=Y105;have a1':(a'==1)=true:=by rw [ha'];rfl
 have hbn:=mT s (i+1) (Nat.le_of_lt hi1);rw [hn] at hbn;have HN:=J hn;obtain ⟨q,hq⟩:∃q,q=i+1+n:=⟨_,rfl⟩;have HQ:=J hq;rw [←hq] at hbn;have hi1':i+1≤s.size:=I;have t24:decide (24<(q:Int)-(i:Int)-1)=true:=by exact aD I
 clear hq hn hlt h61 e61 ha ha' h0 h58 hyb;go_enter Tryz.func47,Tryz.ntmps47;go_wp2_with (first | (go_at_call 64;(with_reducible refine (dF _ _ _ hs).mono ?_);rw [HA.out];rintro e w' ⟨rfl,rfl⟩) | (go_at_call 64;(with_reducible refine (lW s i _ hs).mono ?_);rw [HA'.out];rintro e w' ⟨rfl,rfl⟩) | (go_at_call 65;(with_reducible refine (mK s i _ hs hi1').mono ?_);rw [HN.out,←HQ.out];rintro e w' ⟨rfl,rfl⟩));refine bodyPost_ret (v:=.tuple #[.agg #[.int .i64 0,.string ⟨#[]⟩,.int .i64 0,.int .i64 i],.int .i64 (0),.int .i64 12]) Y13 rfl ?_;refine ⟨?_,.inl ⟨_,F.out,_,_,_,rfl⟩⟩
 (repeat' (first | (with_reducible exact World.grownBy.refl _ _) | (with_reducible assumption) | (with_reducible refine bF ?_ _) | (with_reducible refine bC ?_ _) | (with_reducible refine aZ ?_ ?_ _) | omega))
theorem rtok_par (s:ByteArray) (i:Nat) (w:World) (hs:s.size≤100000) (hi:i<s.size) (h58:bQ s i=58) (h61:(bQ s (i+1)==61)=false) (hlt:hd dE (s.data.toList.drop (i+1))=true) (n:Nat) (hn:bA (s.data.toList.drop (i+1))=n) (h24:¬n > 24):
  Calls Tryz.prog 47 #[.string s,.int .i64 i] w (RPost (tokV (s.data.toList.drop i)) w i i):=by
 have hi1:i+1<s.size:=by
  have:=rJ hlt;simp at this;have:s.data.size=s.size:=rfl;omega
 have F:Hid (tokV (s.data.toList.drop i)= .ok ⟨8,(s.data.toList.drop (i+1)).take n,0⟩ (n+1)):=by
  show _=_
  rw [cX hi,h58]
  show (if hd (·==61) (s.data.toList.drop (i+1)) then Took.ok (Tok.mk 9 [] 0) 2 else if hd dE (s.data.toList.drop (i+1)) then (if bA (s.data.toList.drop (i+1)) > 24 then .err 12 else .ok ⟨8,(s.data.toList.drop (i+1)).take (bA (s.data.toList.drop (i+1))),0⟩ (bA (s.data.toList.drop (i+1))+1)) else .err 10)=_
  rw [gJ (p:=(·==61)) rfl,if_neg (by rw [h61];simp),if_pos hlt,hn,if_neg h24]
 have h0:atV s i=0:=Y122;obtain ⟨a,ha⟩:∃a,a=(0:Int):=⟨_,rfl⟩;rw [←ha] at h0;have HA:=J h0;have a1:(a==1)=false:=Y17;have a2:(a==2)=false:=Y17;have a3:(a==3)=false:=Y17;have a4:(a==4)=false:=Y17;have hx:s[i]=58:=by rw [←bO hi,h58]
 have b0:(0:Int)≤(i:Int):=I;have b01:(i:Int)<(s.size:Int):=I;have b02:(i:Int)+1<(s.size:Int):=I;have b03:(0:Int)≤(i:Int)+1:=I;have d1:decide (i+1<s.size)=true:=aD hi1;have d1':decide ((i:Int)+1<(s.size:Int))=true:=aD b02;obtain ⟨y,hy⟩:=aE (s[i+1]);have hyb:bQ s (i+1)=y:=by rw [bO hi1,hy]
 have e61:=fF y 61 I;rw [show (y==UInt8.ofNat 61)=false from by rw [←hyb];exact h61] at e61;have n61:((y.toNat:Int)==61)=false:=e61;obtain ⟨a',ha'⟩:∃a',a'=(1:Int):=⟨_,rfl⟩;have HA':Hid (atV s (i+1)=a'):=Y105;have a1':(a'==1)=true:=by rw [ha'];rfl
 have hbn:=mT s (i+1) (Nat.le_of_lt hi1);rw [hn] at hbn;have HN:=J hn;obtain ⟨q,hq⟩:∃q,q=i+1+n:=⟨_,rfl⟩;have HQ:=J hq;rw [←hq] at hbn;have hi1':i+1≤s.size:=I;have t24:decide (24<(q:Int)-(i:Int)-1)=false:=by exact aK I
 have b1:(q:Int)≤(s.size:Int):=I;have b2:(i:Int)+1≤(q:Int):=I;have b3:(0:Int)≤(q:Int):=I;have b4:((q:Int)).toNat=q:=I;have b4':((i:Int)+1).toNat=i+1:=I;have b5:i+1≤q:=I;have b6:q≤s.size:=I;have b7:(0:Int)≤(i:Int)+1:=I;have hx:=fW s (i+1) (n);rw [show i+1+(n)=q by omega] at hx;have HX:=J hx;obtain ⟨t,ht⟩:=aE (s.extract (i+1) (q));have HT:=J ht;clear hx;clear hq hn hlt h61 e61 ha ha' h0 h58 hyb;go_enter Tryz.func47,Tryz.ntmps47;go_wp2_with (first | (go_at_call 64;(with_reducible refine (dF _ _ _ hs).mono ?_);rw [HA.out];rintro e w' ⟨rfl,rfl⟩) | (go_at_call 64;(with_reducible refine (lW s i _ hs).mono ?_);rw [HA'.out];rintro e w' ⟨rfl,rfl⟩) | (go_at_call 65;(with_reducible refine (mK s i _ hs hi1').mono ?_);rw [HN.out,←HQ.out];rintro e w' ⟨rfl,rfl⟩));refine bodyPost_ret (v:=.tuple #[.agg #[.int .i64 8,.string t,.int .i64 0,.int .i64 i],.int .i64 ((q:Int)),.int .i64 0]) Y13 rfl ?_;refine ⟨?_,.inr ⟨_,_,t,F.out,by rw [←HT.out];exact HX.out,by have:=HQ.out;rw [show i+(n+1)=q by omega] <;> rfl⟩⟩
 (repeat' (first | (with_reducible exact World.grownBy.refl _ _) | (with_reducible assumption) | (with_reducible refine bF ?_ _) | (with_reducible refine bC ?_ _) | (with_reducible refine aZ ?_ ?_ _) | omega))
end Go.Proofs.YtnojndgmgkgnpaaGreat.Lx
