/- Chapter 10: words and contracts for the law. -/
import Derived.Test.YtnojndgmgkgnpaaGreatQ20
import Derived.Test.YtnojndgmgkgnpaaGreatQ10
import Derived.Test.YtnojndgmgkgnpaaGreatQ09
import Derived.Laws.BytesArg
import Derived.Lib.ItoaLen
import Derived.Laws.Concat
set_option maxRecDepth 100000
set_option maxHeartbeats 40000000
set_option linter.unusedVariables false
set_option linter.unusedSimpArgs false
namespace Go.Proofs.YtnojndgmgkgnpaaGreat
open Go.ChangeShapes Go.WideShapes Go.ChangeAt Go.RowKit Go.Deep Go.Joins Go.Maps
theorem Bw.six {w W:World} {rb ob pb:Nat} {v:Value} {T:Tks} {s:PSt} {kd nu:Int} {tv:ByteArray} {vn vt vk:Value} {ns ts:List ByteArray} (h:Bw w W rb ob pb v T s kd tv nu vn vt vk ns ts) {kd' nu':Int} {tv':ByteArray} {vn':Value} {ns':List ByteArray} {base:Nat} (hr:SRow W base vn' ns') (hb:ob+1≤base):Bw w ((((((W.setCell ⟨ob,0,none⟩ (.int .i64 kd')).setCell ⟨ob,1,none⟩ (.string tv')).setCell ⟨ob,2,none⟩ (.int .i64 nu')).setCell ⟨ob,3,none⟩ (vn')).setCell ⟨ob,4,none⟩ (.slice none 0 0)).setCell ⟨ob,5,none⟩ (.slice none 0 0)) rb ob pb v T s kd' tv' nu' vn' (.slice none 0 0) (.slice none 0 0) ns' []:=by
 have ht:Turns (fun k=>k=ob) W ((((((W.setCell ⟨ob,0,none⟩ (.int .i64 kd')).setCell ⟨ob,1,none⟩ (.string tv')).setCell ⟨ob,2,none⟩ (.int .i64 nu')).setCell ⟨ob,3,none⟩ (vn')).setCell ⟨ob,4,none⟩ (.slice none 0 0)).setCell ⟨ob,5,none⟩ (.slice none 0 0)):=aU (T:=fun k=>k=ob) (Turns.refl _ _) ob rfl;refine ⟨h.pt.turned ht (fun k e=>by have e9:k=ob:=e;exact ⟨by have:=h.ol;omega,by have:=h.pl;omega,fun q=>by have:=h.vl k q;omega⟩),h.ol,h.rl,h.pl,h.rp,h.vl,(ht.block _ (aA h.res) (fun e=>by have e9:rb=ob:=e;have:=h.rl;omega)).trans h.res,aV h.out,SRow.turned (bR hr hb) ht (fun b e=>by have e9:b=ob:=e;omega),SRow.nil _ _⟩
theorem six_zero {w W:World} (h:Below w.heap.size w W) (hz:W.heap[w.heap.size]? =some (.cells #[.int .i64 0,.string eB,.int .i64 0,.slice none 0 0,.slice none 0 0,.slice none 0 0] 25 (0,0))):Below w.heap.size w ((((((W.setCell ⟨w.heap.size,0,none⟩ (.int .i64 0)).setCell ⟨w.heap.size,1,none⟩ (.string eB)).setCell ⟨w.heap.size,2,none⟩ (.int .i64 0)).setCell ⟨w.heap.size,3,none⟩ (.slice none 0 0)).setCell ⟨w.heap.size,4,none⟩ (.slice none 0 0)).setCell ⟨w.heap.size,5,none⟩ (.slice none 0 0)).drew∧((((((W.setCell ⟨w.heap.size,0,none⟩ (.int .i64 0)).setCell ⟨w.heap.size,1,none⟩ (.string eB)).setCell ⟨w.heap.size,2,none⟩ (.int .i64 0)).setCell ⟨w.heap.size,3,none⟩ (.slice none 0 0)).setCell ⟨w.heap.size,4,none⟩ (.slice none 0 0)).setCell ⟨w.heap.size,5,none⟩ (.slice none 0 0)).drew.heap[w.heap.size]? =some (.cells #[.int .i64 0,.string eB,.int .i64 0,.slice none 0 0,.slice none 0 0,.slice none 0 0] 25 (0,0)):=by
 have ht:Turns (fun k=>k=w.heap.size) W ((((((W.setCell ⟨w.heap.size,0,none⟩ (.int .i64 0)).setCell ⟨w.heap.size,1,none⟩ (.string eB)).setCell ⟨w.heap.size,2,none⟩ (.int .i64 0)).setCell ⟨w.heap.size,3,none⟩ (.slice none 0 0)).setCell ⟨w.heap.size,4,none⟩ (.slice none 0 0)).setCell ⟨w.heap.size,5,none⟩ (.slice none 0 0)):=aU (T:=fun k=>k=w.heap.size) (Turns.refl _ _) w.heap.size rfl;have hb:((((((W.setCell ⟨w.heap.size,0,none⟩ (.int .i64 0)).setCell ⟨w.heap.size,1,none⟩ (.string eB)).setCell ⟨w.heap.size,2,none⟩ (.int .i64 0)).setCell ⟨w.heap.size,3,none⟩ (.slice none 0 0)).setCell ⟨w.heap.size,4,none⟩ (.slice none 0 0)).setCell ⟨w.heap.size,5,none⟩ (.slice none 0 0)).heap[w.heap.size]? =some (.cells #[.int .i64 0,.string eB,.int .i64 0,.slice none 0 0,.slice none 0 0,.slice none 0 0] 25 (0,0)):=aV hz;obtain ⟨W9,hW9⟩:∃W9,((((((W.setCell ⟨w.heap.size,0,none⟩ (.int .i64 0)).setCell ⟨w.heap.size,1,none⟩ (.string eB)).setCell ⟨w.heap.size,2,none⟩ (.int .i64 0)).setCell ⟨w.heap.size,3,none⟩ (.slice none 0 0)).setCell ⟨w.heap.size,4,none⟩ (.slice none 0 0)).setCell ⟨w.heap.size,5,none⟩ (.slice none 0 0))=W9:=⟨_,rfl⟩;rw [hW9] at ht hb ⊢;exact ⟨(h.trans (ht.below (fun k e=>by have e9:k=w.heap.size:=e;omega) h.size)).drew,hb⟩
def Read7P (r:NodT×Int×Int) (w:World) (e:Ending) (w':World):Prop:=∃q,e= .returned (.tuple #[ndV r.1 q,.int .i64 r.2.1,.int .i64 r.2.2])∧Below w.heap.size w w'∧IsNd w' (fun b=>w.heap.size≤b) r.1 q
theorem tok_post {s:ByteArray} {T:Tks} {w w':World} {e:Ending} (hs:s.size≤2000) (hT:Lx.toksV s.data.toList= .ok T) (h:Lx.TokensPost w s e w'):∃At ct,e= .returned (.tuple #[.slice At T.length ct,.int .i64 0,.int .i64 0])∧Below w.heap.size w w'∧w'.ownsRow w.heap.size 72 4 (.slice At T.length ct) T.length (Lx.rowCells T):=by
 obtain ⟨hb,⟨h2,_⟩ | ⟨_,⟨a,x,h3,_⟩ | ⟨A',v,h3,he,ho⟩⟩⟩:=h
 ·omega
 ·rw [hT] at h3;cases h3
 ·rw [hT] at h3
  cases h3
  obtain ⟨At,ct,hv,_⟩:=aX ho;subst hv;exact ⟨At,ct,he,hb,ho⟩
theorem need_num {T:Tks} (hok:TokOk T) (s:PSt) (k:Int) (text:ByteArray):InI (bT T s k text).1.num:=by
 unfold bT
 split
 ·exact hok.num _ (gK hok)
 ·exact (⟨by decide,by decide⟩:InI 0)
theorem wW {T:Tks} (hok:TokOk T) (s:PSt) (m:Bool) {ht:ByteArray} {hn:List ByteArray} {hu:Int} {hs:PSt} (hh:(if m=true then kQ T s else (mV,[],0,s))=(ht,hn,hu,hs)) (hi:s.i≤T.length):ht.size≤bL∧(∀x,x∈hn→x.size≤100000)∧InI hu∧hs.i≤T.length:=by
 have h1:=pat_tx hok s;have hg:=pat_go hok.at0 s;have hb:bL=9223372036854775807:=rfl;have hl:=hok.len
 cases m with
 | false=>
  cases hh
  exact ⟨by decide,fun x hx=>absurd hx Y12,⟨by decide,by decide⟩,hi⟩
 | true=>
  rw [if_pos rfl] at hh;unfold kQ at hh;dsimp only at hh
  split at hh
  ·rename_i hb5;have hlt:(kB T s).2.2.i<T.length:=eT hb5 hok.at0 Y3;have g1:=fU hok.at0 (aI (kB T s).2.2) 2 kT Y3;have g2:=fU hok.at0 (bT T (aI (kB T s).2.2) 2 kT).2 4 eB Y3;have hn:InI (bT T (bT T (aI (kB T s).2.2) 2 kT).2 4 eB).1.num:=need_num hok _ _ _;have g3:=fU hok.at0 (if 255<(bT T (bT T (aI (kB T s).2.2) 2 kT).2 4 eB).1.num then cH (bT T (bT T (aI (kB T s).2.2) 2 kT).2 4 eB).2 (bT T (bT T (aI (kB T s).2.2) 2 kT).2 4 eB).1 2 else (bT T (bT T (aI (kB T s).2.2) 2 kT).2 4 eB).2) 3 sG Y3;have i2:=g2.top (g1.top (show (aI (kB T s).2.2).i≤T.length from hlt))
   cases hh
   exact ⟨by rw [hb];omega,h1.1,hn,g3.top (by split;rw [kK];exact i2;exact i2)⟩
  ·cases hh
   exact ⟨by rw [hb];omega,h1.1,⟨by decide,by decide⟩,hg.top hi⟩
theorem Z77 {P:Prop} (h:P:=by
 rw [HPO.out,HE.out];exact ⟨⟨none,0,none,0,none,0⟩,rfl,HB2.out.trans (HT9.out.below (fun k e=>by have e9:k=w.heap.size:=e;omega) HB2.out.size),IsNd.leaf _ _ ⟨by decide,by decide⟩ ⟨by decide,by decide⟩ Y3⟩):P:=h
theorem qZ (s:ByteArray) (method:Bool) (w:World) (hs:s.size≤9223372036854775807):Calls Tryz.prog 11 #[.string s,.bool method] w (Read7P (eC s method) w):=by
 obtain ⟨PO,hPO⟩:∃PO,PO=Read7P (eC s method) w:=⟨_,rfl⟩;rw [←hPO];have HPO:=J hPO;clear hPO
 by_cases h2000:2000<s.size
 ·have HE:Hid (eC s method=(nd0,0,12)):=J (by unfold eC;rw [if_pos h2000]);have HTK:Hid (∀W,Calls Tryz.prog 23 #[.string s] W fun e w'=>e= .returned (.tuple #[.slice none 0 0,.int .i64 0,.int .i64 12])∧Below W.heap.size W w'∧(12:Int)≠0):=J (fun W=>(Lx.rtokens_any s W hs).mono fun e w' h=>by
   obtain ⟨hb,⟨h2,he⟩ | ⟨h2,_⟩⟩:=h
   ·exact ⟨he,hb,by decide⟩
   ·omega)
  clear h2000 hs;have HB1:Hid (Below w.heap.size w (w.alloc (.cells #[.int .i64 0,.string eB,.int .i64 0,.slice none 0 0,.slice none 0 0,.slice none 0 0] 25))):=J bel;have HZ1:=J (heap_alloc_new w (.cells #[.int .i64 0,.string eB,.int .i64 0,.slice none 0 0,.slice none 0 0,.slice none 0 0] 25));go_enter Tryz.func11,Tryz.ntmps11
  go_upto_region 2 with (first | (go_at_call 23;(with_reducible refine (HTK.out _).mono ?_);rintro e w2 ⟨rfl,hb2,hx0⟩;have x1:(12 != 0)=true:=Y114;have x2:(12==0)=false:=Y114;clear hx0;have HB2:Hid (Below w.heap.size w w2):=J (HB1.out.trans (hb2.mono HB1.out.size));have HZ:=J ((hb2.block _ (aA HZ1.out)).trans HZ1.out);clear hb2))
  have hz9:=HZ.out;obtain ⟨n0,n1,n2,n3,n4,n5,nr0,nr1,nr2,nr3,nr4,nr5⟩:=cf6 (hz9);clear hz9 HB1 HZ1;go_wp2_with fail;obtain ⟨W9,hW9⟩:∃W9,W9=((((((w2.setCell ⟨w.heap.size,0,none⟩ (.int .i64 0)).setCell ⟨w.heap.size,1,none⟩ (.string eB)).setCell ⟨w.heap.size,2,none⟩ (.int .i64 0)).setCell ⟨w.heap.size,3,none⟩ (.slice none 0 0)).setCell ⟨w.heap.size,4,none⟩ (.slice none 0 0)).setCell ⟨w.heap.size,5,none⟩ (.slice none 0 0)):=⟨_,rfl⟩;have h9:W9.heap[w.heap.size]? =some (.cells #[.int .i64 0,.string eB,.int .i64 0,.slice none 0 0,.slice none 0 0,.slice none 0 0] 25 (0,0)):=Y38;obtain ⟨z0,z1,z2,z3,z4,z5⟩:=cc6 h9;have HT9:Hid (Turns (fun k=>k=w.heap.size) w2 W9):=J Y2;rw [←hW9];clear hW9 h9;refine bodyPost_ret (v:=.tuple #[.agg #[.int .i64 0,.string eB,.int .i64 0,.slice none 0 0,.slice none 0 0,.slice none 0 0],.int .i64 0,.int .i64 12]) Y85 rfl ?_;exact Z77
 ·have h2:s.size≤2000:=I
  cases hT:Lx.toksV s.data.toList with
  | err a x=>
   have HE:Hid (eC s method=(nd0,(a:Int),x)):=J (by unfold eC;rw [if_neg h2000,hT]);have HTK:Hid (∀W,Calls Tryz.prog 23 #[.string s] W fun e w'=>e= .returned (.tuple #[.slice none 0 0,.int .i64 (a:Int),.int .i64 x])∧Below W.heap.size W w'∧x≠0):=J (fun W=>(Lx.rtokens_any s W hs).mono fun e w' h=>by
    obtain ⟨hb,⟨h2',_⟩ | ⟨_,⟨a',x',h3,h4,he⟩ | ⟨A',v,h3,_⟩⟩⟩:=h
    ·omega
    ·rw [hT] at h3;cases h3;exact ⟨he,hb,h4⟩
    ·rw [hT] at h3;cases h3)
   clear h2000 h2 hs hT;have HB1:Hid (Below w.heap.size w (w.alloc (.cells #[.int .i64 0,.string eB,.int .i64 0,.slice none 0 0,.slice none 0 0,.slice none 0 0] 25))):=J bel;have HZ1:=J (heap_alloc_new w (.cells #[.int .i64 0,.string eB,.int .i64 0,.slice none 0 0,.slice none 0 0,.slice none 0 0] 25));go_enter Tryz.func11,Tryz.ntmps11
   go_upto_region 2 with (first | (go_at_call 23;(with_reducible refine (HTK.out _).mono ?_);rintro e w2 ⟨rfl,hb2,hx0⟩;have x1:(x != 0)=true:=Y114;have x2:(x==0)=false:=Y114;clear hx0;have HB2:Hid (Below w.heap.size w w2):=J (HB1.out.trans (hb2.mono HB1.out.size));have HZ:=J ((hb2.block _ (aA HZ1.out)).trans HZ1.out);clear hb2))
   have hz9:=HZ.out;obtain ⟨n0,n1,n2,n3,n4,n5,nr0,nr1,nr2,nr3,nr4,nr5⟩:=cf6 (hz9);clear hz9 HB1 HZ1;go_wp2_with fail;obtain ⟨W9,hW9⟩:∃W9,W9=((((((w2.setCell ⟨w.heap.size,0,none⟩ (.int .i64 0)).setCell ⟨w.heap.size,1,none⟩ (.string eB)).setCell ⟨w.heap.size,2,none⟩ (.int .i64 0)).setCell ⟨w.heap.size,3,none⟩ (.slice none 0 0)).setCell ⟨w.heap.size,4,none⟩ (.slice none 0 0)).setCell ⟨w.heap.size,5,none⟩ (.slice none 0 0)):=⟨_,rfl⟩;have h9:W9.heap[w.heap.size]? =some (.cells #[.int .i64 0,.string eB,.int .i64 0,.slice none 0 0,.slice none 0 0,.slice none 0 0] 25 (0,0)):=Y38;obtain ⟨z0,z1,z2,z3,z4,z5⟩:=cc6 h9;have HT9:Hid (Turns (fun k=>k=w.heap.size) w2 W9):=J Y2;rw [←hW9];clear hW9 h9;refine bodyPost_ret (v:=.tuple #[.agg #[.int .i64 0,.string eB,.int .i64 0,.slice none 0 0,.slice none 0 0,.slice none 0 0],.int .i64 (a:Int),.int .i64 x]) Y85 rfl ?_;exact Z77
  | ok T=>
   have hok:=(TokOk.of h2 hT).1;have HOK:=J hok;obtain ⟨nt,hnt⟩:=aE T.length;have HNT:=J hnt;have HTK:Hid (∀W,Calls Tryz.prog 23 #[.string s] W fun e w'=>∃At ct,e= .returned (.tuple #[.slice At nt ct,.int .i64 0,.int .i64 0])∧Below W.heap.size W w'∧w'.ownsRow W.heap.size 72 4 (.slice At nt ct) nt (Lx.rowCells T)):=J (fun W=>(Lx.rtokens_any s W hs).mono fun e w' h=>by
    have h9:=tok_post h2 hT h;rw [hnt] at h9;exact h9)
   have HI0:Hid ((⟨0,0,0,0⟩:PSt).i≤T.length):=J (Nat.zero_le _);have hE0:eC s method=kW T method:=by unfold eC;rw [if_neg h2000,hT]
   rw [hE0] at HPO;clear h2000 h2 hs hT hE0;obtain ⟨⟨ht,hn,hu,hs⟩,hh⟩:=aE ((if method=true then kQ T ⟨0,0,0,0⟩ else (mV,[],0,⟨0,0,0,0⟩)));have HH:=J hh;have HHT:=J (wW hok _ method hh (Nat.zero_le _));obtain ⟨⟨ts,s2⟩,htm⟩:=aE (fB T hs);have HTM:=J htm;have hg2:=nG hok.at0 hs;rw [htm] at hg2;have HI2:Hid (hs.i≤T.length):=J HHT.out.2.2.2;have HI3:Hid (s2.i≤T.length):=J (hg2.top HI2.out);have HTY:Hid (∀x,x∈ts→x.size≤100000):=J (by have h9:=tJ hok hs;rw [htm] at h9;exact h9);have HF5:Hid (8*(T.length-s2.i)+6<oA T):=J (by unfold oA;omega);obtain ⟨⟨ks,s4⟩,hr0⟩:=aE ((rcF T (oA T)).stmts s2);have HR0:=J hr0;have hg4:=((fY hok.at0 (oA T)).stmts s2).1;rw [hr0] at hg4;have HI4:Hid (s4.i≤T.length):=J (hg4.top HI3.out);obtain ⟨⟨t9,s5⟩,hn5⟩:=aE (bT T s4 0 eB);have HN5:=J hn5;have HE0:Hid (kW T method=if s5.e≠0 then (nd0,s5.at_,s5.e) else (.node 11 ht hu hn ts ks,0,0)):=J (by
    unfold kW;dsimp only;rw [hh];dsimp only;rw [htm];dsimp only;rw [hr0];dsimp only;rw [hn5])
   clear hok hh htm hg2 hr0 hg4 hn5 hnt;have HB1:Hid (Below w.heap.size w (w.alloc (.cells #[.int .i64 0,.string eB,.int .i64 0,.slice none 0 0,.slice none 0 0,.slice none 0 0] 25))):=J bel;have HZ1:=J (heap_alloc_new w (.cells #[.int .i64 0,.string eB,.int .i64 0,.slice none 0 0,.slice none 0 0,.slice none 0 0] 25));go_enter Tryz.func11,Tryz.ntmps11
   go_upto_region 2 with (first | (go_at_call 23;(with_reducible refine (HTK.out _).mono ?_);rintro e w2 ⟨At,ct,rfl,hb2,hrow⟩;have HB2:Hid (Below w.heap.size w w2):=J (HB1.out.trans (hb2.mono HB1.out.size));have HZ:=J ((hb2.block _ (aA HZ1.out)).trans HZ1.out);have HRW:Hid (w2.ownsRow 0 72 4 (.slice At nt ct) nt (Lx.rowCells T)):=J (bR hrow (Nat.zero_le _));clear hb2 hrow))
   clear HB1 HZ1
   go_upto_region 5 with fail
   obtain ⟨pb,hpb⟩:=aE w2.heap.size;have hal:=(Below.refl w2.heap.size w2).alloc aR (.cells #[.slice At nt ct,.int .i64 0,.int .i64 0,.int .i64 0,.int .i64 0] 67);have hbx:=heap_alloc_new w2 (.cells #[.slice At nt ct,.int .i64 0,.int .i64 0,.int .i64 0,.int .i64 0] 67);have hsz:=World.size_alloc w2 (.cells #[.slice At nt ct,.int .i64 0,.int .i64 0,.int .i64 0,.int .i64 0] 67);have hzb:=(hal.block _ (aA HZ.out)).trans HZ.out;have hrb:=aJ HRW.out hal.size (fun k hk=>hal.block k (World.ownsRow.lt HRW.out k hk).2);have hvl:∀k,Value.ownBlock (.slice At nt ct)=some k→k<pb:=fun k hk=>by rw [←hpb];exact (World.ownsRow.lt HRW.out k hk).2
   have hwb:=HB2.out.trans (hal.mono HB2.out.size);have hrp:w.heap.size<pb:=by rw [←hpb];exact aA HZ.out
   rw [hpb] at hbx hsz ⊢;obtain ⟨wb,hwbe⟩:∃wb,w2.alloc (.cells #[.slice At nt ct,.int .i64 0,.int .i64 0,.int .i64 0,.int .i64 0] 67)=wb:=⟨_,rfl⟩;rw [hwbe] at hbx hsz hzb hrb hwb ⊢;have hpw:PW wb pb (.slice At nt ct) T ⟨0,0,0,0⟩:=⟨hbx,by rw [HNT.out];exact hrb,Nat.zero_le _⟩;have HRP:=J hrp;have HWB:Hid (Below w.heap.size w wb):=J hwb;have H0:Hid (Bw wb (wb.alloc (.cells #[.int .i64 11,.string mV,.int .i64 0,.slice none 0 0,.slice none 0 0,.slice none 0 0] 25)) (w.heap.size) (wb.heap.size) pb (.slice At nt ct) T ⟨0,0,0,0⟩ 11 mV 0 (.slice none 0 0) (.slice none 0 0) (.slice none 0 0) [] []):=J (by
    have hb:Below wb.heap.size wb (wb.alloc (.cells #[.int .i64 11,.string mV,.int .i64 0,.slice none 0 0,.slice none 0 0,.slice none 0 0] 25)):=bel;exact ⟨⟨hpw.below hb,Turns.of_below hb⟩,Nat.le_refl _,by omega,by omega,by omega,fun k e=>by have:=hvl k e;omega,(hb.block _ (aA hzb)).trans hzb,heap_alloc_new wb _,SRow.nil _ _,SRow.nil _ _⟩)
   clear hal hbx hsz hzb hrb hvl hwb hrp hpw hpb hwbe HZ HRW HB2
   go_upto_region 6 with fail
   have hm9:=H0.out;obtain ⟨w1,hw1⟩:∃w1,wb.alloc (.cells #[.int .i64 11,.string mV,.int .i64 0,.slice none 0 0,.slice none 0 0,.slice none 0 0] 25)=w1:=⟨_,rfl⟩;rw [hw1] at hm9 ⊢;have HM:=J hm9;obtain ⟨n0,n1,n2,n3,n4,n5,nr0,nr1,nr2,nr3,nr4,nr5⟩:=cf6 (hm9.res);obtain ⟨o0,o1,o2,o3,o4,o5,or0,or1,or2,or3,or4,or5⟩:=cf6 (hm9.out);clear hw1 H0 hm9
   go_upto_if 27 with fail
   go_cut [] (fun wx=>∃A n c,Bw wb wx (w.heap.size) (wb.heap.size) pb (.slice At nt ct) T hs 11 ht hu (.slice A n c) (.slice none 0 0) (.slice none 0 0) hn [])
   case first=>
    cases method with
    | true=>
     have HH9:Hid (kQ T ⟨0,0,0,0⟩=(ht,hn,hu,hs)):=J HH.out;go_wp2_with (first | (go_at_call 24;(with_reducible refine (head_any (HM.out.pt.1.below bel) HOK.out HI0.out).mono ?_);rw [HH9.out];rintro e w6 ⟨A,c,rfl,hx,hr9⟩;have HSR:=J (bR hr9 (HM.out.base bel));clear hr9;have hm9:=HM.out.go bel hx;clear HM;have HM:=J hm9;(try clear n0 nr0 n1 nr1 n2 nr2 n3 nr3 n4 nr4 n5 nr5);(try clear o0 or0 o1 or1 o2 or2 o3 or3 o4 or4 o5 or5);obtain ⟨n0,n1,n2,n3,n4,n5,nr0,nr1,nr2,nr3,nr4,nr5⟩:=cf6 (hm9.res);obtain ⟨o0,o1,o2,o3,o4,o5,or0,or1,or2,or3,or4,or5⟩:=cf6 (hm9.out);clear hm9 hx));go_meet;exact ⟨A,hn.length,c,HM.out.six HSR.out aR⟩
    | false=>
     have e9:ht=mV∧hn=[]∧hu=0∧hs=⟨0,0,0,0⟩:=by
      have h9:=HH.out;exact ⟨(congrArg Prod.fst h9).symm,(congrArg (fun r=>r.2.1) h9).symm,(congrArg (fun r=>r.2.2.1) h9).symm,(congrArg (fun r=>r.2.2.2) h9).symm⟩
     go_wp2_with fail;go_meet;rw [e9.1,e9.2.1,e9.2.2.1,e9.2.2.2];exact ⟨none,0,0,HM.out⟩
   case rest=>
    obtain ⟨A,n,c,hm9⟩:=hcut;clear HM
    (try clear n0 nr0 n1 nr1 n2 nr2 n3 nr3 n4 nr4 n5 nr5)
    (try clear o0 or0 o1 or1 o2 or2 o3 or3 o4 or4 o5 or5)
    have HM:=J hm9
    rename World=>w5
    obtain ⟨n0,n1,n2,n3,n4,n5,nr0,nr1,nr2,nr3,nr4,nr5⟩:=cf6 (hm9.res);obtain ⟨o0,o1,o2,o3,o4,o5,or0,or1,or2,or3,or4,or5⟩:=cf6 (hm9.out);clear hm9
    go_upto_region 9 with (first | (go_at_call 25;(with_reducible refine (pP (HM.out.pt.1.below bel) HOK.out HI2.out).mono ?_);rw [HTM.out];rintro e w6 ⟨vr9,rfl,hx,hr9⟩;obtain ⟨A2,c2,hvr,_⟩:=SRow.slice hr9;subst hvr;have HSR2:=J (bR hr9 (HM.out.base bel));clear hr9;have hm9:=HM.out.go bel hx;clear HM;have HM:=J hm9;(try clear n0 nr0 n1 nr1 n2 nr2 n3 nr3 n4 nr4 n5 nr5);(try clear o0 or0 o1 or1 o2 or2 o3 or3 o4 or4 o5 or5);obtain ⟨n0,n1,n2,n3,n4,n5,nr0,nr1,nr2,nr3,nr4,nr5⟩:=cf6 (hm9.res);obtain ⟨o0,o1,o2,o3,o4,o5,or0,or1,or2,or3,or4,or5⟩:=cf6 (hm9.out);clear hm9 hx))
    have hm9:=HM.out.setT HSR2.out aR;obtain ⟨w7,hw9⟩:=aE (w6.setCell ⟨wb.heap.size,4,none⟩ (.slice A2 ts.length c2));rw [hw9] at hm9 ⊢;clear HM hw9;have HM:=J hm9
    (try clear n0 nr0 n1 nr1 n2 nr2 n3 nr3 n4 nr4 n5 nr5)
    (try clear o0 or0 o1 or1 o2 or2 o3 or3 o4 or4 o5 or5)
    obtain ⟨n0,n1,n2,n3,n4,n5,nr0,nr1,nr2,nr3,nr4,nr5⟩:=cf6 (hm9.res);obtain ⟨o0,o1,o2,o3,o4,o5,or0,or1,or2,or3,or4,or5⟩:=cf6 (hm9.out);clear hm9
    go_upto_region 10 with (first | (go_at_call 26;(with_reducible refine ((pspec HOK.out (oA T)).stmts (HM.out.pt.1.below bel) HI3.out HF5.out).mono ?_);rw [HR0.out];rintro e w8 hrow;obtain ⟨p3,c3,hee,hx,hny⟩:=RowP.node hrow 11 hu ht ⟨by decide,by decide⟩ HHT.out.2.2.1 HHT.out.1;subst hee;have HNY:=J (hny.more (D':=fun b=>wb.heap.size+1≤b) (fun b z _=>Nat.le_trans (HM.out.base bel) z));clear hny hrow;have hm9:=HM.out.go bel hx;clear HM;have HM:=J hm9;(try clear n0 nr0 n1 nr1 n2 nr2 n3 nr3 n4 nr4 n5 nr5);(try clear o0 or0 o1 or1 o2 or2 o3 or3 o4 or4 o5 or5);obtain ⟨n0,n1,n2,n3,n4,n5,nr0,nr1,nr2,nr3,nr4,nr5⟩:=cf6 (hm9.res);obtain ⟨o0,o1,o2,o3,o4,o5,or0,or1,or2,or3,or4,or5⟩:=cf6 (hm9.out);clear hm9 hx))
    have hm9:=HM.out.setK (.slice p3 ks.length c3);have hny:=HNY.out.turns (w':=w8.setCell ⟨wb.heap.size,5,none⟩ (.slice p3 ks.length c3)) ((Turns.refl (fun k=>k=wb.heap.size) _).setCell ⟨wb.heap.size,5,none⟩ _ (.inl rfl)) (fun b z _ e=>by have e9:b=wb.heap.size:=e;omega) (fun _ z=>z);obtain ⟨w9,hw9⟩:=aE (w8.setCell ⟨wb.heap.size,5,none⟩ (.slice p3 ks.length c3));rw [hw9] at hm9 hny ⊢;clear HM hw9;have HM:=J hm9
    (try clear n0 nr0 n1 nr1 n2 nr2 n3 nr3 n4 nr4 n5 nr5)
    (try clear o0 or0 o1 or1 o2 or2 o3 or3 o4 or4 o5 or5)
    obtain ⟨n0,n1,n2,n3,n4,n5,nr0,nr1,nr2,nr3,nr4,nr5⟩:=cf6 (hm9.res);obtain ⟨o0,o1,o2,o3,o4,o5,or0,or1,or2,or3,or4,or5⟩:=cf6 (hm9.out);clear HNY;have HNY:=J hny;clear hm9 hny
    go_upto_region 11 with (first | (go_at_call 27;(with_reducible refine (gI (HM.out.pt.1.below bel) HOK.out HI4.out 0 eB HN5.out).mono ?_);rintro e w10 ⟨rfl,hx⟩;have hn9:=PT.keepN bel hx HNY.out (fun b z e=>by have:=HM.out.pl;omega);clear HNY;have HNY:=J hn9;clear hn9;have hm9:=HM.out.go bel hx;clear HM;have HM:=J hm9;(try clear n0 nr0 n1 nr1 n2 nr2 n3 nr3 n4 nr4 n5 nr5);(try clear o0 or0 o1 or1 o2 or2 o3 or3 o4 or4 o5 or5);obtain ⟨n0,n1,n2,n3,n4,n5,nr0,nr1,nr2,nr3,nr4,nr5⟩:=cf6 (hm9.res);obtain ⟨o0,o1,o2,o3,o4,o5,or0,or1,or2,or3,or4,or5⟩:=cf6 (hm9.out);clear hm9 hx))
    have k3:w10.cell? ⟨pb,3,none⟩=some (.int .i64 s5.e):=HM.out.pt.1.cell rfl;have k4:w10.cell? ⟨pb,4,none⟩=some (.int .i64 s5.at_):=HM.out.pt.1.cell rfl;have HB10:Hid (Below w.heap.size w w10):=J (HWB.out.trans (HM.out.pt.2.below (fun k e=>by have e9:k=pb:=e;have:=HRP.out;omega) HWB.out.size))
    by_cases he:s5.e=0
    ·rw [he] at k3;have HE:Hid (kW T method=(.node 11 ht hu hn ts ks,0,0)):=J (by rw [HE0.out,if_neg (by simp [he])]);clear he k4;go_wp2_with fail;obtain ⟨W9,hW9⟩:∃W9,W9=((((((w10.setCell ⟨w.heap.size,0,none⟩ (.int .i64 11)).setCell ⟨w.heap.size,1,none⟩ (.string ht)).setCell ⟨w.heap.size,2,none⟩ (.int .i64 hu)).setCell ⟨w.heap.size,3,none⟩ (.slice A n c)).setCell ⟨w.heap.size,4,none⟩ (.slice A2 ts.length c2)).setCell ⟨w.heap.size,5,none⟩ (.slice p3 ks.length c3)):=⟨_,rfl⟩;have h9:W9.heap[w.heap.size]? =some (.cells #[.int .i64 11,.string ht,.int .i64 hu,.slice A n c,.slice A2 ts.length c2,.slice p3 ks.length c3] 25 (0,0)):=Y19;obtain ⟨z0,z1,z2,z3,z4,z5⟩:=cc6 h9;have HT9:Hid (Turns (fun k=>k=w.heap.size) w10 W9):=J Y2;rw [←hW9];clear hW9 h9;refine bodyPost_ret (v:=.tuple #[.agg #[.int .i64 11,.string ht,.int .i64 hu,.slice A n c,.slice A2 ts.length c2,.slice p3 ks.length c3],.int .i64 0,.int .i64 0]) Y85 rfl ?_;rw [HPO.out,HE.out];have hl9:=HM.out.len.1;refine ⟨⟨A,c,A2,c2,p3,c3⟩,?_,HB10.out.trans (HT9.out.below (fun k e=>by have e9:k=w.heap.size:=e;omega) HB10.out.size),HM.out.node HNY.out HHT.out.2.1 HTY.out HT9.out (fun b z=>by have:=HWB.out.size;omega)⟩
     show Ending.returned (.tuple #[.agg #[.int .i64 11,.string ht,.int .i64 hu,.slice A n c,.slice A2 ts.length c2,.slice p3 ks.length c3],.int .i64 0,.int .i64 0])=Ending.returned (.tuple #[.agg #[.int .i64 11,.string ht,.int .i64 hu,.slice A hn.length c,.slice A2 ts.length c2,.slice p3 ks.length c3],.int .i64 0,.int .i64 0])
     rw [hl9]
    ·have y1:(s5.e != 0)=true:=Y20;have y2:(s5.e==0)=false:=Y20;have HE:Hid (kW T method=(nd0,s5.at_,s5.e)):=J (by rw [HE0.out,if_pos he]);have HZ:=J HM.out.res;obtain ⟨ee,hee⟩:=aE s5.e;obtain ⟨aa,haa⟩:=aE s5.at_;rw [hee] at k3 y1 y2 HE;rw [haa] at k4 HE;have hne:pb≠w.heap.size:=by have:=HRP.out;omega
     have hne2:¬w.heap.size=pb:=by have:=HRP.out;omega
     have hne3:¬pb=w.heap.size:=hne;clear he hee haa
     (try clear o0 or0 o1 or1 o2 or2 o3 or3 o4 or4 o5 or5)
     go_upto_region 12 with fail
     go_cut [5,6] (fun v5 v6 wx=>v5= .int .i64 aa∧v6= .int .i64 ee∧Below w.heap.size w wx∧wx.heap[w.heap.size]? =some (.cells #[.int .i64 0,.string eB,.int .i64 0,.slice none 0 0,.slice none 0 0,.slice none 0 0] 25 (0,0)))
     case first=>
      go_region_law (fail)
      all_goals
       go_wp2_with fail;go_meet;exact ⟨rfl,rfl,six_zero HB10.out HZ.out⟩
     case rest=>
      obtain ⟨rfl,rfl,hbz,hz9⟩:=hcut
      rename World=>wz
      clear HM HNY k3 k4
      (try clear n0 nr0 n1 nr1 n2 nr2 n3 nr3 n4 nr4 n5 nr5)
      obtain ⟨n0,n1,n2,n3,n4,n5,nr0,nr1,nr2,nr3,nr4,nr5⟩:=cf6 (hz9);go_wp2_with fail;refine bodyPost_ret (v:=.tuple #[.agg #[.int .i64 0,.string eB,.int .i64 0,.slice none 0 0,.slice none 0 0,.slice none 0 0],.int .i64 aa,.int .i64 ee]) (by simp [results,Tryz.results11,go_sem,n0,n1,n2,n3,n4,n5]) rfl ?_;rw [HPO.out,HE.out];exact ⟨⟨none,0,none,0,none,0⟩,rfl,hbz,IsNd.leaf _ _ ⟨by decide,by decide⟩ ⟨by decide,by decide⟩ Y3⟩
end Go.Proofs.YtnojndgmgkgnpaaGreat
namespace Go.Proofs.YtnojndgmgkgnpaaGreat.Tx
open Lv
open Go.ChangeShapes Go.WideShapes Go.ChangeAt Go.RowKit Go.Deep Go.Joins
def namesL:List (List UInt8):=[[],[115,101,108,102],[110,105,108],[116,114,117,101],[102,97,108,115,101],[99,111,110,116,101,120,116],[108,105,116],[116,101,109,112],[105,118,97,114],[103,108,111,98,97,108],[116,111,116,101,109,112],[116,111,105,118,97,114],[112,111,112],[100,117,112],[115,101,110,100],[115,117,112,101,114],[106,117,109,112],[105,102,110,111,116],[98,108,111,99,107],[101,110,100],[114,101,116,117,114,110]]
def rX (l:List UInt8):Value:=.string ⟨l.toArray⟩
def rA (op:Int):List UInt8:=if 1≤op∧op≤20 then namesL.getD op.toNat [] else []
def tN (n:Int) (u:Bool):List UInt8:=if u then 32 :: Lib.itoa n else []
def jY (i:Ins):List UInt8:=rA i.op++tN i.a (decide (0<aQ i.op))++tN i.b (decide (1<aQ i.op))++[10]
def textV (C:Nat→Ins) (k:Nat):List UInt8:=(List.range k).flatMap (fun i=>jY (C i))
theorem rB (C:Nat→Ins) (k:Nat):textV C (k+1)=textV C k++jY (C k):=by unfold textV;rw [List.range_succ,List.flatMap_append];simp
def InIns (i:Ins):Prop:=(-9223372036854775808≤i.op∧i.op≤9223372036854775807)∧(-9223372036854775808≤i.a∧i.a≤9223372036854775807)∧(-9223372036854775808≤i.b∧i.b≤9223372036854775807)
theorem tO (op:Int):(rA op).length≤7:=by
 unfold rA
 split
 ·rename_i h;obtain ⟨q,hq⟩:∃q:Nat,op=q:=⟨op.toNat,by omega⟩;subst hq;have hq:q<21:=I;have:∀p:Fin 21,(namesL.getD p.val []).length≤7:=Y3;exact this ⟨q,hq⟩
 ·simp
theorem wX {n:Int} (h: -9223372036854775808≤n∧n≤9223372036854775807) (u:Bool):(tN n u).length≤22:=by
 unfold tN
 split
 ·have:=Lib.itoa_length_le n h.1 h.2;simp;omega
 ·simp
theorem line_len {i:Ins} (h:InIns i):(jY i).length≤52:=by
 unfold jY;have h1:=tO i.op;have h2:=wX h.2.1 (decide (0<aQ i.op));have h3:=wX h.2.2 (decide (1<aQ i.op));simp only [List.length_append,List.length_singleton];omega
theorem tP {C:Nat→Ins} {n:Nat} (h:∀i,i<n→InIns (C i)):∀k,k≤n→(textV C k).length≤52*k
 | 0,_=>by simp [textV]
 | k+1,hk=>by
  have h1:=tP h k I;have h2:=line_len (h k I);rw [rB,List.length_append];omega
theorem str_app (a b:List UInt8):(⟨a.toArray⟩:ByteArray)++⟨b.toArray⟩=⟨(a++b).toArray⟩:=by
 apply ByteArray.ext
 simp [ByteArray.data_append]
theorem tQ (a:List UInt8):(⟨a.toArray⟩:ByteArray).size=a.length:=by simp [ByteArray.size]
theorem fL (a b:List UInt8) (h:a.length+b.length≤1000000000) (w:World):(Op.stringOp .add ⟨a.toArray⟩ ⟨b.toArray⟩).run Tryz.prog w= .ok (.string ⟨(a++b).toArray⟩) w:=by
 rw [run_string_add_sum w _ _ (by rw [tQ,tQ];omega),str_app]
theorem u8_in {x:Int} (h0:0≤x) (h1:x≤255):IntKind.u8.wrap x=x:=by rw [IntKind.wrap_u8];omega
theorem code_kept {W W':World} {q:Option Addr} {n:Nat} {C:Nat→Ins} (h:IsCode W q n C) (hb:Below W.heap.size W W'):IsCode W' q n C:=Row.below h hb
theorem u8_one {w:World} (x:Int):(Go.convert 102 9 (.slice (some ⟨w.heap.size,0,none⟩) 1 1)).run Tryz.prog (w.alloc (.cells #[.int .u8 x] 5))= .ok (.string (strOfNums [x])) (w.alloc (.cells #[.int .u8 x] 5)):=
 run_convert_bytes_arg _ 102 5 Tryz.underlying102 Tryz.underlying5 w.heap.size 0 1 1 [x] rfl (fun i hi=>by
  obtain rfl:i=0:=I;simp [go_sem]) 9 Tryz.underlying9
theorem wY (u:Nat):strOfNums [48+(u:Int)]=⟨[UInt8.ofNat (48+u)].toArray⟩:=by
 unfold strOfNums;have:(48+(u:Int)).toNat=48+u:=I;simp [this]
def dz (m:Nat):List UInt8:=if m=0 then [] else Lib.decDigits m
theorem dz_step {m:Nat} (h:0<m):dz m=dz (m / 10)++[UInt8.ofNat (48+m % 10)]:=by
 unfold dz;rw [if_neg I,Lib.decDigits]
 split
 ·rename_i h1;rw [if_pos I,List.nil_append,Nat.mod_eq_of_lt h1]
 ·rename_i h1;rw [if_neg I]
theorem rY (u:Nat) (h:u≤9223372036854775808):(Lib.decDigits u).length≤22:=by
 rcases Nat.lt_or_ge u 9223372036854775808 with h1 | h1
 ·have:=Lib.itoa_length_le (u:Int) I I;rw [Lib.itoa_nonneg] at this;omega
 ·obtain rfl:u=9223372036854775808:=I;have:=Lib.itoa_length_le (-((9223372036854775808:Nat):Int)) I I;rw [Lib.itoa_neg _ I] at this;simp at this;omega
theorem dz_some {m:Nat} (h:0<m):dz m=Lib.decDigits m:=if_neg I
theorem vH (u:Nat):u≤9223372036854775807→∀w:World,Calls Tryz.prog 30 #[.int .i64 u] w fun e w'=>e= .returned (rX (Lib.decDigits u))∧Below w.heap.size w w':=by
 induction u using Nat.strongRecOn with
 | ind u ih=>
  intro hu w;have p0:decide ((0:Int)≤(u:Int))=true:=aD I
  by_cases h:u<10
  ·have p1:decide ((u:Int)<10)=true:=aD I;have p2:decide (u<10)=true:=aD I;have k1:IntKind.u8.wrap (48+(u:Int))=48+(u:Int):=u8_in I I;have cv:=u8_one (w:=w) (48+(u:Int));rw [wY] at cv;obtain ⟨dd,hdd⟩:=aE ([UInt8.ofNat (48+u)]);have HE:Hid (Lib.decDigits u=dd):=J ((Lib.decDigits_one h).trans hdd);rw [hdd] at cv;clear ih hdd;go_enter Tryz.func30,Tryz.ntmps30;go_wp2_with fail;go_ret;exact ⟨by rw [HE.out];rfl,bel⟩
  ·have p1:decide ((u:Int)<10)=false:=aK I;have p2:decide (u<10)=false:=aK I;have p3:decide ((0:Int)<(u:Int))=true:=aD I;have p4:decide (0<u)=true:=aD I;obtain ⟨da,hda⟩:=aE (Lib.decDigits (u / 10));obtain ⟨db,hdb⟩:=aE (Lib.decDigits (u % 10));have l1:=rY (u / 10) I;have l2:=rY (u % 10) I;have i1:=ih (u / 10) I I;have i2:=ih (u % 10) I I;rw [hda,show ((u / 10:Nat):Int)=(u:Int) / 10 by omega] at i1;rw [hdb,show ((u % 10:Nat):Int)=(u:Int) % 10 by omega] at i2;rw [hda] at l1;rw [hdb] at l2;have s1:=fL da db I;have HE:Hid (Lib.decDigits u=da++db):=J (by rw [Lib.decDigits,dif_neg h,←hda,←hdb,Lib.decDigits_one (Nat.mod_lt u Y3)]);have I1:=J i1;have I2:=J i2;clear ih hda hdb i1 i2;go_enter Tryz.func30,Tryz.ntmps30;go_wp2_with fail
   (with_reducible refine (I1.out _).mono ?_)
   rintro e w1 ⟨rfl,hb1⟩;dsimp only [rX];go_wp2_with fail
   (with_reducible refine (I2.out _).mono ?_)
   rintro e w2 ⟨rfl,hb2⟩;dsimp only [rX];go_wp2_with fail;go_ret;exact ⟨by rw [HE.out];rfl,Below.trans' hb1 hb2⟩
theorem vI (u:Nat) (h0:0<u) (hu:u≤9223372036854775808) (w:World):Calls Tryz.prog 30 #[.int .i64 (-(u:Int))] w fun e w'=>e= .returned (rX (45 :: Lib.decDigits u))∧Below w.heap.size w w':=by
 have hlen:=rY u hu;obtain ⟨n0,hn0⟩:∃n:Int, -(u:Int)=n:=⟨_,rfl⟩;rw [hn0];have HN0:=J hn0;have p0:decide ((0:Int)≤n0)=false:=aK I;have p1:decide ((0:Int)<n0)=false:=aK I;obtain ⟨ds,hds⟩:=aE (Lib.decDigits u);rw [hds] at hlen ⊢;have HDS:=J hds;clear hds hn0;go_enter Tryz.func30,Tryz.ntmps30;go_wp2_with fail
 go_loopw [3,0] (fun s n wr=>∃(m:Nat) (s':List UInt8),n= .int .i64 (-(m:Int))∧s= .string ⟨s'.toArray⟩∧ds=dz m++s'∧m≤u∧Below w.heap.size w wr) (fun _ n _=>(intOf n).natAbs)
 case atStart=>exact ⟨u,[],by rw [HN0.out],rfl,by rw [dz_some h0,HDS.out,List.append_nil],Nat.le_refl _,Below.refl _ _⟩
 case round=>
  obtain ⟨m,s',rfl,rfl,hcat,hmu,hbw⟩:=hrel;have HBW:=J hbw;have HCAT:=J hcat;obtain ⟨nn,hnn⟩:∃n:Int, -(m:Int)=n:=⟨_,rfl⟩;have HNN:=J hnn;rw [hnn]
  by_cases hm:0<m
  ·have d0:decide (nn<0)=true:=aD I;obtain ⟨d,hd⟩:∃d:Nat,m % 10=d:=⟨_,rfl⟩;obtain ⟨q,hq⟩:∃q:Nat,m / 10=q:=⟨_,rfl⟩;have hd9:d≤9:=I;have e1:nn.tmod 10= -(d:Int):=by rw [←hnn,Int.neg_tmod,←hd];rfl
   have e2:nn.tdiv 10= -(q:Int):=by rw [←hnn,Int.neg_tdiv,←hq];rfl
   have k1:IntKind.u8.wrap (48+(d:Int))=48+(d:Int):=u8_in I I;have k2:IntKind.u8.wrap (48 - -(d:Int))=48+(d:Int):=by rw [Int.sub_neg];exact k1
   have hst:=dz_step hm;rw [hd,hq] at hst;have cv:=u8_one (w:=wr) (48+(d:Int));rw [wY] at cv;obtain ⟨dd,hdd⟩:=aE (UInt8.ofNat (48+d));rw [hdd] at cv hst;have hl':s'.length≤22:=by have:=congrArg List.length hcat;simp at this;omega
   have s1:=fL [dd] s' Y4;have HC2:Hid (ds=dz q++([dd]++s')):=J (by rw [hcat,hst,List.append_assoc]);have hqm:q<m:=I;clear hdd hst hcat hbw hnn hd hq HCAT;go_wp2_with fail;go_roundw
   case rel=>exact ⟨q,[dd]++s',rfl,rfl,HC2.out,by omega,HBW.out.trans (((Below.refl wr.heap.size wr).alloc aR _).mono HBW.out.size)⟩
   case measure=>simp [intOf];have:=HNN.out;omega
  ·have hm0:m=0:=I;have d0:decide (nn<0)=false:=aK I;have hs:s'=ds:=by rw [hcat,hm0];rfl
   have s1:=fL [45] s' (by rw [hs];simp;omega);have HS:=J hs;clear hs hm hm0 hcat hbw hnn HCAT;go_wp2_with fail;go_ret;exact ⟨by rw [←HS.out];rfl,HBW.out⟩
theorem vJ (n:Int) (h: -9223372036854775808≤n∧n≤9223372036854775807) (w:World):Calls Tryz.prog 30 #[.int .i64 n] w fun e w'=>e= .returned (rX (Lib.itoa n))∧Below w.heap.size w w':=by
 by_cases h0:n<0
 ·obtain ⟨u,rfl⟩:∃u:Nat,n= -(u:Int):=⟨n.natAbs,by omega⟩;rw [Lib.itoa_neg _ I];exact vI u I I w
 ·obtain ⟨u,rfl⟩:∃u:Nat,n=(u:Int):=⟨n.toNat,by omega⟩;rw [Lib.itoa_nonneg];exact vH u I w
theorem mO (n:Int) (h: -9223372036854775808≤n∧n≤9223372036854775807) (w:World):Calls Tryz.prog 30 #[.int .i64 n] w fun e w'=>e= .returned (.string ⟨(Lib.itoa n).toArray⟩)∧Below w.heap.size w w':=vJ n h w
theorem yO (w:World) (q:Nat) (hq:q<21):(w.alloc (.cells #[.string ⟨#[]⟩,.string ⟨#[115,101,108,102]⟩,.string ⟨#[110,105,108]⟩,.string ⟨#[116,114,117,101]⟩,.string ⟨#[102,97,108,115,101]⟩,.string ⟨#[99,111,110,116,101,120,116]⟩,.string ⟨#[108,105,116]⟩,.string ⟨#[116,101,109,112]⟩,.string ⟨#[105,118,97,114]⟩,.string ⟨#[103,108,111,98,97,108]⟩,.string ⟨#[116,111,116,101,109,112]⟩,.string ⟨#[116,111,105,118,97,114]⟩,.string ⟨#[112,111,112]⟩,.string ⟨#[100,117,112]⟩,.string ⟨#[115,101,110,100]⟩,.string ⟨#[115,117,112,101,114]⟩,.string ⟨#[106,117,109,112]⟩,.string ⟨#[105,102,110,111,116]⟩,.string ⟨#[98,108,111,99,107]⟩,.string ⟨#[101,110,100]⟩,.string ⟨#[114,101,116,117,114,110]⟩] 9)).cell? ⟨w.heap.size,q,none⟩=some (rX (namesL.getD q [])):=by
 have h1:=heap_alloc_new w (.cells #[.string ⟨#[]⟩,.string ⟨#[115,101,108,102]⟩,.string ⟨#[110,105,108]⟩,.string ⟨#[116,114,117,101]⟩,.string ⟨#[102,97,108,115,101]⟩,.string ⟨#[99,111,110,116,101,120,116]⟩,.string ⟨#[108,105,116]⟩,.string ⟨#[116,101,109,112]⟩,.string ⟨#[105,118,97,114]⟩,.string ⟨#[103,108,111,98,97,108]⟩,.string ⟨#[116,111,116,101,109,112]⟩,.string ⟨#[116,111,105,118,97,114]⟩,.string ⟨#[112,111,112]⟩,.string ⟨#[100,117,112]⟩,.string ⟨#[115,101,110,100]⟩,.string ⟨#[115,117,112,101,114]⟩,.string ⟨#[106,117,109,112]⟩,.string ⟨#[105,102,110,111,116]⟩,.string ⟨#[98,108,111,99,107]⟩,.string ⟨#[101,110,100]⟩,.string ⟨#[114,101,116,117,114,110]⟩] 9);unfold World.cell?;rw [h1]
 show (namesL.map rX).toArray[q]? =_
 have hl:q<namesL.length:=hq;rw [List.getElem?_toArray,List.getElem?_map,List.getElem?_eq_getElem hl,List.getD_eq_getElem?_getD,List.getElem?_eq_getElem hl]
 rfl
theorem Z78 {P:Prop} (h:P:=by
 have n1:=fL t1 [10] Y4;go_wp2_with (first | (go_at_call 29;(with_reducible refine (dA _ _).mono ?_);rw [HU.out];rintro e w2 ⟨rfl,hw2⟩;replace hw2:=hw2.symm;subst hw2));go_roundw
 case rel=>
  refine ⟨k+1,by omega,by go_num,?_,HBA.out⟩;have HE:textV C (k+1)=t1++[10]:=by rw [HNX.out,HLV.out,←HT1.out] <;> simp
  rw [HE]
 case measure=>simp [intOf];omega):P:=h
theorem rtext_any {w:World} {p:Option Addr} {n c:Nat} {C:Nat→Ins} (hC:IsCode w p n C) (hn:n≤100000) (hI:∀i,i<n→InIns (C i)):Calls Tryz.prog 15 #[.slice p n c] w fun e w'=>e= .returned (rX (textV C n))∧Below w.heap.size w w':=by
 have HC:=J hC;have HI:=J hI;clear hC hI;go_enter Tryz.func15,Tryz.ntmps15
 go_upto_region 2 with fail
 obtain ⟨W,hW⟩:∃W,W=w.alloc (.cells #[.string ⟨#[]⟩,.string ⟨#[115,101,108,102]⟩,.string ⟨#[110,105,108]⟩,.string ⟨#[116,114,117,101]⟩,.string ⟨#[102,97,108,115,101]⟩,.string ⟨#[99,111,110,116,101,120,116]⟩,.string ⟨#[108,105,116]⟩,.string ⟨#[116,101,109,112]⟩,.string ⟨#[105,118,97,114]⟩,.string ⟨#[103,108,111,98,97,108]⟩,.string ⟨#[116,111,116,101,109,112]⟩,.string ⟨#[116,111,105,118,97,114]⟩,.string ⟨#[112,111,112]⟩,.string ⟨#[100,117,112]⟩,.string ⟨#[115,101,110,100]⟩,.string ⟨#[115,117,112,101,114]⟩,.string ⟨#[106,117,109,112]⟩,.string ⟨#[105,102,110,111,116]⟩,.string ⟨#[98,108,111,99,107]⟩,.string ⟨#[101,110,100]⟩,.string ⟨#[114,101,116,117,114,110]⟩] 9):=⟨_,rfl⟩;have hBW:Below w.heap.size w W:=by rw [hW];(repeat' first | (with_reducible first | exact bl0 _ _ | assumption | apply bl1 | apply bl2 | apply bl3 | apply bl4) | go_size)
 have HNMS:Hid (∀q,q<21→W.cell? ⟨w.heap.size,q,none⟩=some (rX (namesL.getD q []))):=J (by rw [hW];exact yO w);rw [←hW];have hzW:w.heap.size<W.heap.size:=by rw [hW];go_size
 have HBW0:=J hBW;have HC:=J (code_kept HC.out hBW);clear hW hBW;go_wp2_with fail
 go_loopw [4,5] (fun v i wr=>∃k:Nat,k≤n∧i= .int .i64 k∧v= .string ⟨(textV C k).toArray⟩∧Below W.heap.size W wr) (fun _ i _=>n-(intOf i).toNat)
 case atStart=>exact ⟨0,Nat.zero_le _,rfl,rfl,Below.refl _ _⟩
 case round=>
  obtain ⟨k,hk,rfl,hv,hbw⟩:=hrel;have hlen:=tP HI.out k hk;obtain ⟨tx,htx⟩:=aE (textV C k);have HTX:=J htx;rw [htx] at hv hlen;subst hv;have HBW:=J hbw
  by_cases hlt:k<n
  ·have d1:=aD hlt;obtain ⟨bb,off,rfl,hlt0,c0,c1,c2⟩:=HC.out.at_ hbw hlt;have hin:=HI.out k hlt;obtain ⟨ii,hii⟩:=aE (C k);have HII:=J hii;rw [hii] at c0 c1 c2 hin;have HNX:Hid (textV C (k+1)=tx++jY ii):=J (by rw [rB,htx,hii]);obtain ⟨op,a,b⟩:=ii;have HIA:Hid (-9223372036854775808≤a∧a≤9223372036854775807):=J hin.2.1;have HIB:Hid (-9223372036854775808≤b∧b≤9223372036854775807):=J hin.2.2;dsimp only at c0 c1 c2;have g0:(0:Int)≤(k:Int):=I;have g1:(k:Int)<(n:Int):=I;have HBA:Hid (Below W.heap.size W wr):=J hbw;have hlt1:bb<wr.heap.size:=aN hlt0 hbw.size;clear hii hbw htx hin
   by_cases hr:op<1∨20<op
   ·have hu:=aP hr;have HU:=J hu;have HLV:Hid (jY ⟨op,a,b⟩=[10]):=J (by unfold jY rA;rw [hu,if_neg (show ¬(1≤op∧op≤20) by omega)];simp [tN]);obtain ⟨t1,ht1⟩:=aE tx;have HT1:=J ht1;rw [ht1] at hlen ⊢;clear hu
    rcases hr with hr | hr
    ·have q0:decide ((1:Int)≤op)=false:=aK I;clear hr;exact Z78
    ·have q0:decide ((1:Int)≤op)=true:=aD I;have q1:decide (op≤(20:Int))=false:=aK I;clear hr;exact Z78
   ·obtain ⟨q,rfl⟩:∃q:Nat,op=q:=⟨op.toNat,by omega⟩;obtain ⟨nm,hnm⟩:=aE (namesL.getD q []);have HNM:Hid (rA (q:Int)=nm):=J (by unfold rA;rw [if_pos I,Int.toNat_natCast];exact hnm);have hnl:nm.length≤7:=by have:=tO (q:Int);rw [HNM.out] at this;exact this
    have cn:wr.cell? ⟨w.heap.size,q,none⟩=some (.string ⟨nm.toArray⟩):=by have:=(HBW.out.cell (p:=⟨w.heap.size,q,none⟩) hzW).trans (HNMS.out q I);rw [hnm] at this;exact this
    have s1:=fL tx nm I;clear hnm;have q0:decide ((1:Int)≤(q:Int))=true:=aD I;have q1:decide ((q:Int)≤20)=true:=aD I;have q2:(0:Int)≤(q:Int):=I;have q3:(q:Int)<21:=I;clear hr
    go_upto_region 8 with fail
    obtain ⟨t1,ht1⟩:=aE (tx++nm);have HT1:=J ht1;have hl1:t1.length≤52*k+7:=by rw [←ht1,List.length_append];omega
    rw [ht1];clear ht1 s1 cn;obtain ⟨ia,hia⟩:=aE (Lib.itoa a);obtain ⟨ib,hib⟩:=aE (Lib.itoa b);have hla:ia.length≤21:=by rw [←hia];exact Lib.itoa_length_le a HIA.out.1 HIA.out.2
    have hlb:ib.length≤21:=by rw [←hib];exact Lib.itoa_length_le b HIB.out.1 HIB.out.2
    have HIT:=J hia;have HJT:=J hib;have hu3:aQ (q:Int)=0∨aQ (q:Int)=1∨aQ (q:Int)=2:=by
     unfold aQ
     split
     ·exact .inr (.inr rfl)
     ·split
      ·exact .inr (.inl rfl)
      ·exact .inl rfl
    clear hia hib
    rcases hu3 with hu | hu | hu
    ·have HU:=J hu;have HLV:Hid (jY ⟨(q:Int),a,b⟩=nm++[10]):=J (by unfold jY;rw [hu,HNM.out];simp [tN]);clear hu;exact Z78
    ·have HU:=J hu;have HLV:Hid (jY ⟨(q:Int),a,b⟩=nm++(32 :: ia)++[10]):=J (by unfold jY;rw [hu,HNM.out];simp [tN,HIT.out]);clear hu;have a1:=fL t1 [32] Y4;have a2:=fL (t1++[32]) ia Y4;obtain ⟨t2,ht2⟩:=aE (t1++[32]++ia);have HT2:=J ht2;have hl2:t2.length≤52*k+30:=by rw [←ht2];simp;omega
     rw [ht2] at a2;clear ht2;have n1:=fL t2 [10] Y4;go_wp2_with (first | (go_at_call 29;(with_reducible refine (dA _ _).mono ?_);rw [HU.out];rintro e w2 ⟨rfl,hw2⟩;replace hw2:=hw2.symm;subst hw2) | (go_at_call_of 30 (Value.int .i64 a);(with_reducible refine (mO a HIA.out _).mono ?_);rw [HIT.out];rintro e w2 ⟨rfl,hb2⟩;have e2:w2.cell? ⟨bb,off+k*3+2,none⟩=some (.int .i64 b):=(hb2.cell (p:=⟨bb,off+k*3+2,none⟩) hlt1).trans c2;have HBN:Hid (Below W.heap.size W w2):=J (HBA.out.trans (hb2.mono HBA.out.size));clear HBA hb2;have HBA:=HBN;clear HBN));go_roundw
     case rel=>
      refine ⟨k+1,by omega,by go_num,?_,HBA.out⟩;have HE:textV C (k+1)=t2++[10]:=by rw [HNX.out,HLV.out,←HT2.out,←HT1.out] <;> simp
      rw [HE]
     case measure=>simp [intOf];omega
    ·have HU:=J hu;have HLV:Hid (jY ⟨(q:Int),a,b⟩=nm++(32 :: ia)++(32 :: ib)++[10]):=J (by unfold jY;rw [hu,HNM.out];simp [tN,HIT.out,HJT.out]);clear hu;have a1:=fL t1 [32] Y4;have a2:=fL (t1++[32]) ia Y4;obtain ⟨t2,ht2⟩:=aE (t1++[32]++ia);have HT2:=J ht2;have hl2:t2.length≤52*k+30:=by rw [←ht2];simp;omega
     rw [ht2] at a2;clear ht2;have b1:=fL t2 [32] Y4;have b2:=fL (t2++[32]) ib Y4;obtain ⟨t3,ht3⟩:=aE (t2++[32]++ib);have HT3:=J ht3;have hl3:t3.length≤52*k+60:=by rw [←ht3];simp;omega
     rw [ht3] at b2;clear ht3;have n1:=fL t3 [10] Y4;go_wp2_with (first | (go_at_call 29;(with_reducible refine (dA _ _).mono ?_);rw [HU.out];rintro e w2 ⟨rfl,hw2⟩;replace hw2:=hw2.symm;subst hw2) | (go_at_call_of 30 (Value.int .i64 a);(with_reducible refine (mO a HIA.out _).mono ?_);rw [HIT.out];rintro e w2 ⟨rfl,hb2⟩;have e2:w2.cell? ⟨bb,off+k*3+2,none⟩=some (.int .i64 b):=(hb2.cell (p:=⟨bb,off+k*3+2,none⟩) hlt1).trans c2;have HBN:Hid (Below W.heap.size W w2):=J (HBA.out.trans (hb2.mono HBA.out.size));clear HBA hb2;have HBA:=HBN;clear HBN) | (go_at_call_of 30 (Value.int .i64 b);(with_reducible refine (mO b HIB.out _).mono ?_);rw [HJT.out];rintro e w2 ⟨rfl,hb2⟩;have HBN:Hid (Below W.heap.size W w2):=J (HBA.out.trans (hb2.mono HBA.out.size));clear HBA hb2;have HBA:=HBN;clear HBN));go_roundw
     case rel=>
      refine ⟨k+1,by omega,by go_num,?_,HBA.out⟩;have HE:textV C (k+1)=t3++[10]:=by rw [HNX.out,HLV.out,←HT3.out,←HT2.out,←HT1.out] <;> simp
      rw [HE]
     case measure=>simp [intOf];omega
  ·have hkn:k=n:=I;have d1:=aK hlt;clear hlt;subst hkn;go_wp2_with fail;go_ret;exact ⟨by rw [HTX.out];rfl,HBW0.out.trans (HBW.out.mono HBW0.out.size)⟩
end Go.Proofs.YtnojndgmgkgnpaaGreat.Tx
namespace Go.Proofs.YtnojndgmgkgnpaaGreat
open Go.ChangeShapes Go.WideShapes Go.ChangeAt Go.RowKit Go.Deep Go.Joins Go.Maps
def jK (L:List Ins):Nat→Ins:=fun i=>L.getD i ⟨0,0,0⟩
theorem tR {w:World} {base:Nat} {A:Option Addr} {n c:Nat} {L:List Ins} (h:w.ownsRow base 42 3 (.slice A n c) n (L.flatMap gF)) (hl:L.length=n):IsCode w A n (jK L):=fun h0=>by
 rcases h.2 with ⟨_,h1⟩ | ⟨g,cap,cur,hv,hg,hh,h1,h2,_⟩
 ·omega
 ·cases hv
  refine ⟨g,0,rfl,aA hh,fun i hi j hj=>?_⟩;have hi2:i<L.length:=I;have e:jK L i=L[i]:=by unfold jK;rw [List.getD_eq_getElem?_getD,List.getElem?_eq_getElem hi2];rfl
  rw [Nat.zero_add,World.ownsRow.cellAt h (i*3+j) I,eY jQ L i j hi2 hj]
  show _=some (vY (jK L i) j)
  rw [e]
  rcases (show j=0∨j=1∨j=2 by omega) with rfl | rfl | rfl <;> rfl
def yP (m:MetT) (nm:ByteArray) (er:Int) (w:World) (e:Ending) (w':World):Prop:=∃Al nl cl Ac nc cc D ps,e= .returned (.tuple #[.agg #[.string m.sel,.int .i64 (m.args:Int),.int .i64 (m.temps:Int),.int .i64 m.prim,.slice Al nl cl,.slice Ac nc cc],.string nm,.int .i64 er])∧m.lits.length=nl∧m.code.length=nc∧nl≤cl∧cl≤maxLen∧nc≤cc∧cc≤maxLen∧Told (m,nm,er) w.heap.size w' (.slice Al nl cl) (.slice Ac nc cc) D ps∧Below w.heap.size w w'
theorem ReadP.met {m:MetT} {nm:ByteArray} {er:Int} {w w':World} {e:Ending} (h:ReadP (m,nm,er) w e w'):yP m nm er w e w':=by
 obtain ⟨lv,cv,D,ps,he,ht,hb⟩:=h.told;obtain ⟨Al,cl,hlv,h1,h2⟩:=aX ht.lits.own;obtain ⟨Ac,cc,hcv,h3,h4⟩:=aX ht.code;have hl:ps.length=m.lits.length:=by
  have:=congrArg List.length ht.lps;rw [List.length_map] at this;exact this
 subst hlv;subst hcv;exact ⟨Al,_,cl,Ac,_,cc,D,ps,he,hl.symm,rfl,h1,h2,h3,h4,ht,hb⟩
theorem Told.codeOf {m:MetT} {nm:ByteArray} {er:Int} {B:Nat} {w:World} {lv:Value} {Ac:Option Addr} {nc cc:Nat} {D:Nat→Prop} {ps:List LP} (h:Told (m,nm,er) B w lv (.slice Ac nc cc) D ps) (hl:m.code.length=nc):IsCode w Ac nc (jK m.code):=by
 have h9:=h.code;dsimp only at h9;rw [hl] at h9;exact tR h9 hl
def NodP (x:NodT) (w:World) (e:Ending) (w':World):Prop:=∃q,e= .returned (.tuple #[ndV x q,.int .i64 0,.int .i64 0])∧Below w.heap.size w w'∧IsNd w' (fun _=>True) x q
theorem rZ {s:ByteArray} {m:Bool} {x:NodT} (h:eC s m=(x,0,0)) (hs:s.size≤9223372036854775807) (W:World):Calls Tryz.prog 11 #[.string s,.bool m] W (NodP x W):=
 (qZ s m W hs).mono fun e w' ⟨q,he,hb,hn⟩=>by
  rw [h] at he hn;exact ⟨q,he,hb,hn.more (fun _ _ _=>trivial)⟩
theorem read_no {s:ByteArray} {m:Bool} {x:NodT} {a er:Int} (h:eC s m=(x,a,er)) (hs:s.size≤9223372036854775807) (W:World):Calls Tryz.prog 11 #[.string s,.bool m] W fun e w'=>∃q,e= .returned (.tuple #[ndV x q,.int .i64 a,.int .i64 er])∧Below W.heap.size W w'∧IsNd w' (fun _=>True) x q:=
 (qZ s m W hs).mono fun e w' ⟨q,he,hb,hn⟩=>by
  rw [h] at he hn;exact ⟨q,he,hb,hn.more (fun _ _ _=>trivial)⟩
theorem strs_one {W:World} {b:Nat} {t:ByteArray} (h:W.heap[b]? =some (.cells #[.string t] 9 (0,0))) (ht:t.size≤bL):Strs W (fun _=>True) (some ⟨b,0,none⟩) [t]:=fun i hi=>by
 have e:i=0:=Y156;subst e;exact ⟨b,0,rfl,aA h,trivial,aC h rfl,ht⟩
def ex1:ByteArray:=⟨#[102,111,111,32,94,120,32,43,32,49]⟩
def ex2:ByteArray:=⟨#[51,32,62,32,50,32,105,102,84,114,117,101,58,32,91,39,97,39,93]⟩
abbrev ex3:ByteArray:=⟨#[113]⟩
abbrev bX:ByteArray:=⟨#[120]⟩
def exc1:List Ins:=[⟨8,0,0⟩,⟨6,0,0⟩,⟨14,1,1⟩,⟨20,0,0⟩]
def exc2:List Ins:=[⟨6,0,0⟩,⟨6,1,0⟩,⟨14,2,1⟩,⟨17,6,0⟩,⟨6,3,0⟩,⟨16,7,0⟩,⟨2,0,0⟩,⟨20,0,0⟩]
theorem ex1_x:(eC ex1 true).2=(0,0):=Y40
theorem ex1_s:(eC ex1 true).1.size=5:=Y40
theorem ex1_m:(eW (eC ex1 true).1.size (eC ex1 true).1 [bX] false).2=(eB,0):=Y40
theorem ex1_c:(eW (eC ex1 true).1.size (eC ex1 true).1 [bX] false).1.code=exc1:=Y40
theorem ex2_x:(eC ex2 false).2=(0,0):=Y40
theorem ex2_s:(eC ex2 false).1.size=7:=Y40
theorem ex2_m:(eW (eC ex2 false).1.size (eC ex2 false).1 [] true).2=(eB,0):=Y40
theorem ex2_c:(eW (eC ex2 false).1.size (eC ex2 false).1 [] true).1.code=exc2:=Y40
theorem ex3_x:(eC ex3 false).2=(0,0):=Y40
theorem ex3_s:(eC ex3 false).1.size=2:=Y40
theorem ex3_m:(eW (eC ex3 false).1.size (eC ex3 false).1 [] true).2=(ex3,15):=Y40
def ext1:ByteArray:=⟨#[105,118,97,114,32,48,10,108,105,116,32,48,10,115,101,110,100,32,49,32,49,10,114,101,116,117,114,110,10]⟩
def ext2:ByteArray:=⟨#[108,105,116,32,48,10,108,105,116,32,49,10,115,101,110,100,32,50,32,49,10,105,102,110,111,116,32,54,32,48,10,108,105,116,32,51,10,106,117,109,112,32,55,32,48,10,110,105,108,10,114,101,116,117,114,110,10]⟩
theorem ext1_t:Tx.textV (jK exc1) 4=ext1.data.toList:=by decide+kernel
theorem ext2_t:Tx.textV (jK exc2) 8=ext2.data.toList:=by decide+kernel
theorem lt_list {L:List Ins} (h:∀i,i∈L→Tx.InIns i):∀i,i<L.length→Tx.InIns (jK L i):=fun i hi=>by
 unfold jK;rw [List.getD_eq_getElem?_getD,List.getElem?_eq_getElem hi];exact h _ (List.getElem_mem hi)
theorem wZ {L:List Ins} {n c:Nat} {A:Option Addr} {t:ByteArray} {w0:World} (hC:IsCode w0 A n (jK L)) (hn:L.length=n) (hb:n≤100000) (hI:∀i,i∈L→Tx.InIns i) (ht:Tx.textV (jK L) n=t.data.toList) (W:World) (hW:Below w0.heap.size w0 W):Calls Tryz.prog 15 #[.slice A n c] W fun e w'=>e= .returned (.string t)∧Below W.heap.size W w':=
 (Tx.rtext_any (Tx.code_kept hC hW) hb (fun i hi=>lt_list hI i I)).mono fun e w' ⟨he,hb⟩=>⟨by rw [he,ht];rfl,hb⟩
end Go.Proofs.YtnojndgmgkgnpaaGreat
