/- Chapter 10: a method, as told; its code. -/
import Derived.Test.YtnojndgmgkgnpaaPQ
import Derived.Test.YtnojndgmgkgnpaaT1
namespace Go.Proofs.Ytnojndgmgkgnpaa
open Go.ChangeShapes Go.WideShapes Go.ChangeAt Go.RowKit Go.Deep Go.Joins Go.Maps
set_option linter.unusedVariables false
set_option linter.unusedSimpArgs false
def codeF (L : List Ins) : Nat → Ins := fun i => L.getD i ⟨0, 0, 0⟩
theorem own_code {w : World} {base : Nat} {A : Option Addr} {n c : Nat} {L : List Ins} (h : w.ownsRow base 37 3 (.slice A n c) n (L.flatMap insC)) (hl : L.length = n) : IsCode w A n (codeF L) := fun h0 => by
 rcases h.2 with ⟨_, h1⟩ | ⟨g, cap, cur, hv, hg, hh, h1, h2, _⟩
 ·omega
 ·cases hv
  refine ⟨g, 0, rfl, lt_of_block hh, fun i hi j hj => ?_⟩
  have hi2 : i < L.length := by omega
  have e : codeF L i = L[i] := by unfold codeF; rw [List.getD_eq_getElem?_getD, List.getElem?_eq_getElem hi2]; rfl
  rw [Nat.zero_add, World.ownsRow.cellAt h (i * 3 + j) (by omega), flat_at insC_len L i j hi2 hj]
  show _ = some (insCell (codeF L i) j)
  rw [e]
  rcases (show j = 0 ∨ j = 1 ∨ j = 2 by omega) with rfl | rfl | rfl <;> rfl
/-- what is told of a node, read as a method -/
def MetP (m : MetT) (nm : ByteArray) (er : Int) (w : World) (e : Ending) (w' : World) : Prop := ∃ Al nl cl Ac nc cc D ps, e = .returned (.tuple #[.agg #[.string m.sel, .int .i64 (m.args : Int), .int .i64 (m.temps : Int), .int .i64 m.prim, .slice Al nl cl, .slice Ac nc cc], .string nm, .int .i64 er]) ∧ m.lits.length = nl ∧ m.code.length = nc ∧ nl ≤ cl ∧ cl ≤ maxLen ∧ nc ≤ cc ∧ cc ≤ maxLen ∧ Told (m, nm, er) w.heap.size w' (.slice Al nl cl) (.slice Ac nc cc) D ps ∧ Below w.heap.size w w'
theorem ReadP.met {m : MetT} {nm : ByteArray} {er : Int} {w w' : World} {e : Ending} (h : ReadP (m, nm, er) w e w') : MetP m nm er w e w' := by
 obtain ⟨lv, cv, D, ps, he, ht, hb⟩ := h.told
 obtain ⟨Al, cl, hlv, h1, h2⟩ := own_slice ht.lits.own
 obtain ⟨Ac, cc, hcv, h3, h4⟩ := own_slice ht.code
 have hl : ps.length = m.lits.length := by
  have := congrArg List.length ht.lps
  rw [List.length_map] at this
  exact this
 subst hlv
 subst hcv
 exact ⟨Al, _, cl, Ac, _, cc, D, ps, he, hl.symm, rfl, h1, h2, h3, h4, ht, hb⟩
theorem Told.codeOf {m : MetT} {nm : ByteArray} {er : Int} {B : Nat} {w : World} {lv : Value} {Ac : Option Addr} {nc cc : Nat} {D : Nat → Prop} {ps : List LP} (h : Told (m, nm, er) B w lv (.slice Ac nc cc) D ps) (hl : m.code.length = nc) : IsCode w Ac nc (codeF m.code) := by
 have h9 := h.code
 dsimp only at h9
 rw [hl] at h9
 exact own_code h9 hl
/-- a source that is read: its node -/
def NodP (x : NodT) (w : World) (e : Ending) (w' : World) : Prop := ∃ q, e = .returned (.tuple #[ndV x q, .int .i64 0, .int .i64 0]) ∧ Below w.heap.size w w' ∧ IsNd w' (fun _ => True) x q
theorem read_ok {s : ByteArray} {m : Bool} {x : NodT} (h : read7 s m = (x, 0, 0)) (hs : s.size ≤ 9223372036854775807) (W : World) : Calls Try.prog 6 #[.string s, .bool m] W (NodP x W) :=
 (read7_any s m W hs).mono fun e w' ⟨q, he, hb, hn⟩ => by
  rw [h] at he hn
  exact ⟨q, he, hb, hn.more (fun _ _ _ => trivial)⟩
theorem read_no {s : ByteArray} {m : Bool} {x : NodT} {a er : Int} (h : read7 s m = (x, a, er)) (hs : s.size ≤ 9223372036854775807) (W : World) : Calls Try.prog 6 #[.string s, .bool m] W fun e w' => ∃ q, e = .returned (.tuple #[ndV x q, .int .i64 a, .int .i64 er]) ∧ Below W.heap.size W w' ∧ IsNd w' (fun _ => True) x q :=
 (read7_any s m W hs).mono fun e w' ⟨q, he, hb, hn⟩ => by
  rw [h] at he hn
  exact ⟨q, he, hb, hn.more (fun _ _ _ => trivial)⟩
theorem strs_one {W : World} {b : Nat} {t : ByteArray} (h : W.heap[b]? = some (.cells #[.string t] 9 (0, 0))) (ht : t.size ≤ big63) : Strs W (fun _ => True) (some ⟨b, 0, none⟩) [t] := fun i hi => by
 have e : i = 0 := by simp at hi; omega
 subst e
 exact ⟨b, 0, rfl, lt_of_block h, trivial, cell_in h rfl, ht⟩
/-! ### the examples, in plain Lean -/
def ex1 : ByteArray := ⟨#[102, 111, 111, 32, 94, 120, 32, 43, 32, 49]⟩
def ex2 : ByteArray := ⟨#[51, 32, 62, 32, 50, 32, 105, 102, 84, 114, 117, 101, 58, 32, 91, 39, 97, 39, 93]⟩
abbrev ex3 : ByteArray := ⟨#[113]⟩
abbrev bX : ByteArray := ⟨#[120]⟩
def exc1 : List Ins := [⟨8, 0, 0⟩, ⟨6, 0, 0⟩, ⟨14, 1, 1⟩, ⟨20, 0, 0⟩]
def exc2 : List Ins := [⟨6, 0, 0⟩, ⟨6, 1, 0⟩, ⟨14, 2, 1⟩, ⟨17, 6, 0⟩, ⟨6, 3, 0⟩, ⟨16, 7, 0⟩, ⟨2, 0, 0⟩, ⟨20, 0, 0⟩]
theorem ex1_x : (read7 ex1 true).2 = (0, 0) := by kernel_rfl
theorem ex1_s : (read7 ex1 true).1.size = 5 := by kernel_rfl
theorem ex1_m : (readC (read7 ex1 true).1.size (read7 ex1 true).1 [bX] false).2 = (eB, 0) := by kernel_rfl
theorem ex1_c : (readC (read7 ex1 true).1.size (read7 ex1 true).1 [bX] false).1.code = exc1 := by kernel_rfl
theorem ex2_x : (read7 ex2 false).2 = (0, 0) := by kernel_rfl
theorem ex2_s : (read7 ex2 false).1.size = 7 := by kernel_rfl
theorem ex2_m : (readC (read7 ex2 false).1.size (read7 ex2 false).1 [] true).2 = (eB, 0) := by kernel_rfl
theorem ex2_c : (readC (read7 ex2 false).1.size (read7 ex2 false).1 [] true).1.code = exc2 := by kernel_rfl
theorem ex3_x : (read7 ex3 false).2 = (0, 0) := by kernel_rfl
theorem ex3_s : (read7 ex3 false).1.size = 2 := by kernel_rfl
theorem ex3_m : (readC (read7 ex3 false).1.size (read7 ex3 false).1 [] true).2 = (ex3, 15) := by kernel_rfl
def ext1 : ByteArray := ⟨#[105, 118, 97, 114, 32, 48, 10, 108, 105, 116, 32, 48, 10, 115, 101, 110, 100, 32, 49, 32, 49, 10, 114, 101, 116, 117, 114, 110, 10]⟩
def ext2 : ByteArray := ⟨#[108, 105, 116, 32, 48, 10, 108, 105, 116, 32, 49, 10, 115, 101, 110, 100, 32, 50, 32, 49, 10, 105, 102, 110, 111, 116, 32, 54, 32, 48, 10, 108, 105, 116, 32, 51, 10, 106, 117, 109, 112, 32, 55, 32, 48, 10, 110, 105, 108, 10, 114, 101, 116, 117, 114, 110, 10]⟩
theorem ext1_t : Tx.textV (codeF exc1) 4 = ext1.data.toList := by decide +kernel
theorem ext2_t : Tx.textV (codeF exc2) 8 = ext2.data.toList := by decide +kernel
theorem lt_list {L : List Ins} (h : ∀ i, i ∈ L → Tx.InIns i) : ∀ i, i < L.length → Tx.InIns (codeF L i) := fun i hi => by
 unfold codeF
 rw [List.getD_eq_getElem?_getD, List.getElem?_eq_getElem hi]
 exact h _ (List.getElem_mem hi)
/-- code that is told as lines -/
theorem text_of {L : List Ins} {n c : Nat} {A : Option Addr} {t : ByteArray} {w0 : World} (hC : IsCode w0 A n (codeF L)) (hn : L.length = n) (hb : n ≤ 100000) (hI : ∀ i, i ∈ L → Tx.InIns i) (ht : Tx.textV (codeF L) n = t.data.toList) (W : World) (hW : Below w0.heap.size w0 W) : Calls Try.prog 18 #[.slice A n c] W fun e w' => e = .returned (.string t) ∧ Below W.heap.size W w' :=
 (Tx.rtext_any (Tx.code_kept hC hW) hb (fun i hi => lt_list hI i (by omega))).mono fun e w' ⟨he, hb⟩ => ⟨by rw [he, ht]; rfl, hb⟩
end Go.Proofs.Ytnojndgmgkgnpaa
/- Chapter 10: the document's examples. -/
namespace Go.Proofs.Ytnojndgmgkgnpaa
open Go.ChangeShapes Go.WideShapes Go.ChangeAt Go.RowKit Go.Deep Go.Joins Go.Maps
set_option linter.unusedVariables false
set_option linter.unusedSimpArgs false
set_option maxRecDepth 100000 in
set_option maxHeartbeats 16000000 in
theorem lives_any (w : World) : Calls Try.prog 7 #[] w fun e w' => e = .returned (.bool true) ∧ Below w.heap.size w w' := by
 obtain ⟨x1, hx1⟩ : ∃ x, (read7 ex1 true).1 = x := ⟨_, rfl⟩
 obtain ⟨x2, hx2⟩ : ∃ x, (read7 ex2 false).1 = x := ⟨_, rfl⟩
 obtain ⟨x3, hx3⟩ : ∃ x, (read7 ex3 false).1 = x := ⟨_, rfl⟩
 have R1 : Hid (∀ W, Calls Try.prog 6 #[.string ⟨#[102, 111, 111, 32, 94, 120, 32, 43, 32, 49]⟩, .bool true] W (NodP x1 W)) := Lib.hid (fun W => read_ok (s := ex1) (Prod.ext hx1 ex1_x) (by decide) W)
 have R2 : Hid (∀ W, Calls Try.prog 6 #[.string ⟨#[51, 32, 62, 32, 50, 32, 105, 102, 84, 114, 117, 101, 58, 32, 91, 39, 97, 39, 93]⟩, .bool false] W (NodP x2 W)) := Lib.hid (fun W => read_ok (s := ex2) (Prod.ext hx2 ex2_x) (by decide) W)
 have R3 : Hid (∀ W, Calls Try.prog 6 #[.string ⟨#[113]⟩, .bool false] W (NodP x3 W)) := Lib.hid (fun W => read_ok (s := ex3) (Prod.ext hx3 ex3_x) (by decide) W)
 have s1 := ex1_s
 have s2 := ex2_s
 have s3 := ex3_s
 have c1 := ex1_m
 have c2 := ex2_m
 have c3 := ex3_m
 have d1 := ex1_c
 have d2 := ex2_c
 rw [hx1] at s1 c1 d1
 rw [hx2] at s2 c2 d2
 rw [hx3] at s3 c3
 have HS1 : Hid (x1.size ≤ 100000) := Lib.hid (by omega)
 have HS2 : Hid (x2.size ≤ 100000) := Lib.hid (by omega)
 have HS3 : Hid (x3.size ≤ 100000) := Lib.hid (by omega)
 obtain ⟨m1, hm1⟩ : ∃ m, (readC x1.size x1 [bX] false).1 = m := ⟨_, rfl⟩
 obtain ⟨m2, hm2⟩ : ∃ m, (readC x2.size x2 [] true).1 = m := ⟨_, rfl⟩
 obtain ⟨m3, hm3⟩ : ∃ m, (readC x3.size x3 [] true).1 = m := ⟨_, rfl⟩
 have HC1M : Hid (readC x1.size x1 [bX] false = (m1, eB, 0)) := Lib.hid (Prod.ext hm1 c1)
 have HC2M : Hid (readC x2.size x2 [] true = (m2, eB, 0)) := Lib.hid (Prod.ext hm2 c2)
 have HC3M : Hid (readC x3.size x3 [] true = (m3, ex3, 15)) := Lib.hid (Prod.ext hm3 c3)
 rw [hm1] at d1
 rw [hm2] at d2
 have HD1 := Lib.hid d1
 have HD2 := Lib.hid d2
 have HB : Hid (Below w.heap.size w w) := Lib.hid (Below.refl _ _)
 clear hx1 hx2 hx3 s1 s2 s3 c1 c2 c3 d1 d2 hm1 hm2 hm3
 go_enter Try.func7, Try.ntmps7
 go_upto_region 2 with (first | (go_at_call 6; (with_reducible refine (R1.out _).mono ?_); rintro e w1a ⟨q1, rfl, hb9, hn9⟩; unfold ndV; have HBn := Lib.hid (HB.out.trans ((hb9).mono HB.out.size)); clear HB; have HB := HBn; clear HBn; have HN1 := Lib.hid hn9; clear hb9 hn9))
 have hal := (Below.refl w1a.heap.size w1a).alloc (Nat.le_refl _) (.cells #[.int .i64 x1.kind, .string x1.text, .int .i64 x1.num, .slice q1.pn x1.names.length q1.cn, .slice q1.pt x1.temps.length q1.ct, .slice q1.pk x1.kids.length q1.ck] 25)
 have hbx := heap_alloc_new w1a (.cells #[.int .i64 x1.kind, .string x1.text, .int .i64 x1.num, .slice q1.pn x1.names.length q1.cn, .slice q1.pt x1.temps.length q1.ct, .slice q1.pk x1.kids.length q1.ck] 25)
 obtain ⟨w1b, hwe⟩ : ∃ z, w1a.alloc (.cells #[.int .i64 x1.kind, .string x1.text, .int .i64 x1.num, .slice q1.pn x1.names.length q1.cn, .slice q1.pt x1.temps.length q1.ct, .slice q1.pk x1.kids.length q1.ck] 25) = z := ⟨_, rfl⟩
 rw [hwe] at hal hbx ⊢
 have hn9 := HN1.out.under hal
 have HBn := Lib.hid (HB.out.trans ((hal).mono HB.out.size))
 clear HB
 have HB := HBn
 clear HBn
 clear HN1 hwe hal
 have HN := Lib.hid hn9
 obtain ⟨a0, a1, a2, a3, a4, a5⟩ := cc6 (hbx)
 clear hn9
 have HM : Hid (∀ W, Below w1b.heap.size w1b W → ∀ b, W.heap[b]? = some (.cells #[.string bX] 9 (0, 0)) → Calls Try.prog 11 #[.agg #[.int .i64 x1.kind, .string x1.text, .int .i64 x1.num, .slice q1.pn x1.names.length q1.cn, .slice q1.pt x1.temps.length q1.ct, .slice q1.pk x1.kids.length q1.ck], .slice (some ⟨b, 0, none⟩) 1 1] W (MetP m1 eB 0 W)) := Lib.hid (fun W hW b hb => (method_any (HN.out.under hW) (strs_one hb (by decide)) rfl (by decide) HS1.out).mono (fun e w' h => by rw [HC1M.out] at h; exact h.met))
 go_upto_region 3 with (first | (go_at_call 11; (with_reducible refine (HM.out _ bel _ (heap_alloc_new _ _)).mono ?_); rintro e w1c ⟨Al1, nl1, cl1, Ac1, nc1, cc1, D1, ps1, rfl, hl1, hl2, hl3, hl4, hl5, hl6, htd, hb9⟩; have hs9 := ((show Below w1b.heap.size w1b _ from bel).trans (hb9.mono (show Below w1b.heap.size w1b _ from bel).size)); have HBn := Lib.hid (HB.out.trans ((hs9).mono HB.out.size)); clear HB; have HB := HBn; clear HBn; have HC1 := Lib.hid (htd.codeOf hl2); have HL1 := Lib.hid hl2; clear hl1 hl2 hl3 hl4 hl5 hl6 htd hb9 hs9))
 clear HM HN hbx a0 a1 a2 a3 a4 a5
 have hal := (Below.refl w1c.heap.size w1c).alloc (Nat.le_refl _) (.cells #[.string m1.sel, .int .i64 (m1.args : Int), .int .i64 (m1.temps : Int), .int .i64 m1.prim, .slice Al1 nl1 cl1, .slice Ac1 nc1 cc1] 33)
 have hbx1 := heap_alloc_new w1c (.cells #[.string m1.sel, .int .i64 (m1.args : Int), .int .i64 (m1.temps : Int), .int .i64 m1.prim, .slice Al1 nl1 cl1, .slice Ac1 nc1 cc1] 33)
 obtain ⟨w1, hwe⟩ : ∃ z, w1c.alloc (.cells #[.string m1.sel, .int .i64 (m1.args : Int), .int .i64 (m1.temps : Int), .int .i64 m1.prim, .slice Al1 nl1 cl1, .slice Ac1 nc1 cc1] 33) = z := ⟨_, rfl⟩
 rw [hwe] at hal hbx1 ⊢
 have HBn := Lib.hid (HB.out.trans ((hal).mono HB.out.size))
 clear HB
 have HB := HBn
 clear HBn
 clear hwe
 have HK1 := Lib.hid hbx1
 clear hbx1
 have HP1 := Lib.hid (Below.refl w1.heap.size w1)
 have HCn : Hid (IsCode w1 Ac1 nc1 (codeF m1.code)) := Lib.hid (Tx.code_kept HC1.out hal)
 clear HC1
 have HC1 := HCn
 clear HCn
 clear hal
 go_upto_region 4 with (first | (go_at_call 6; (with_reducible refine (R2.out _).mono ?_); rintro e w2a ⟨q2, rfl, hb9, hn9⟩; unfold ndV; have HBn := Lib.hid (HB.out.trans ((hb9).mono HB.out.size)); clear HB; have HB := HBn; clear HBn; have HP1n := Lib.hid (HP1.out.trans ((hb9).mono HP1.out.size)); clear HP1; have HP1 := HP1n; clear HP1n; have HN2 := Lib.hid hn9; clear hb9 hn9))
 have hal := (Below.refl w2a.heap.size w2a).alloc (Nat.le_refl _) (.cells #[.int .i64 x2.kind, .string x2.text, .int .i64 x2.num, .slice q2.pn x2.names.length q2.cn, .slice q2.pt x2.temps.length q2.ct, .slice q2.pk x2.kids.length q2.ck] 25)
 have hbx := heap_alloc_new w2a (.cells #[.int .i64 x2.kind, .string x2.text, .int .i64 x2.num, .slice q2.pn x2.names.length q2.cn, .slice q2.pt x2.temps.length q2.ct, .slice q2.pk x2.kids.length q2.ck] 25)
 obtain ⟨w2b, hwe⟩ : ∃ z, w2a.alloc (.cells #[.int .i64 x2.kind, .string x2.text, .int .i64 x2.num, .slice q2.pn x2.names.length q2.cn, .slice q2.pt x2.temps.length q2.ct, .slice q2.pk x2.kids.length q2.ck] 25) = z := ⟨_, rfl⟩
 rw [hwe] at hal hbx ⊢
 have hn9 := HN2.out.under hal
 have HBn := Lib.hid (HB.out.trans ((hal).mono HB.out.size))
 clear HB
 have HB := HBn
 clear HBn
 have HP1n := Lib.hid (HP1.out.trans ((hal).mono HP1.out.size))
 clear HP1
 have HP1 := HP1n
 clear HP1n
 clear HN2 hwe hal
 have HN := Lib.hid hn9
 obtain ⟨a0, a1, a2, a3, a4, a5⟩ := cc6 (hbx)
 clear hn9
 have HM : Hid (∀ W, Below w2b.heap.size w2b W →  Calls Try.prog 8 #[.agg #[.int .i64 x2.kind, .string x2.text, .int .i64 x2.num, .slice q2.pn x2.names.length q2.cn, .slice q2.pt x2.temps.length q2.ct, .slice q2.pk x2.kids.length q2.ck]] W (MetP m2 eB 0 W)) := Lib.hid (fun W hW  => (doit_any (HN.out.under hW) HS2.out).mono (fun e w' h => by rw [HC2M.out] at h; exact h.met))
 go_upto_region 5 with (first | (go_at_call 8; (with_reducible refine (HM.out _ bel).mono ?_); rintro e w2c ⟨Al2, nl2, cl2, Ac2, nc2, cc2, D2, ps2, rfl, hl1, hl2, hl3, hl4, hl5, hl6, htd, hb9⟩; have hs9 := ((show Below w2b.heap.size w2b _ from bel).trans (hb9.mono (show Below w2b.heap.size w2b _ from bel).size)); have HBn := Lib.hid (HB.out.trans ((hs9).mono HB.out.size)); clear HB; have HB := HBn; clear HBn; have HP1n := Lib.hid (HP1.out.trans ((hs9).mono HP1.out.size)); clear HP1; have HP1 := HP1n; clear HP1n; have HC2 := Lib.hid (htd.codeOf hl2); have HL2 := Lib.hid hl2; clear hl1 hl2 hl3 hl4 hl5 hl6 htd hb9 hs9))
 clear HM HN hbx a0 a1 a2 a3 a4 a5
 have hal := (Below.refl w2c.heap.size w2c).alloc (Nat.le_refl _) (.cells #[.string m2.sel, .int .i64 (m2.args : Int), .int .i64 (m2.temps : Int), .int .i64 m2.prim, .slice Al2 nl2 cl2, .slice Ac2 nc2 cc2] 33)
 have hbx2 := heap_alloc_new w2c (.cells #[.string m2.sel, .int .i64 (m2.args : Int), .int .i64 (m2.temps : Int), .int .i64 m2.prim, .slice Al2 nl2 cl2, .slice Ac2 nc2 cc2] 33)
 obtain ⟨w2, hwe⟩ : ∃ z, w2c.alloc (.cells #[.string m2.sel, .int .i64 (m2.args : Int), .int .i64 (m2.temps : Int), .int .i64 m2.prim, .slice Al2 nl2 cl2, .slice Ac2 nc2 cc2] 33) = z := ⟨_, rfl⟩
 rw [hwe] at hal hbx2 ⊢
 have HBn := Lib.hid (HB.out.trans ((hal).mono HB.out.size))
 clear HB
 have HB := HBn
 clear HBn
 have HP1n := Lib.hid (HP1.out.trans ((hal).mono HP1.out.size))
 clear HP1
 have HP1 := HP1n
 clear HP1n
 clear hwe
 have HK2 := Lib.hid hbx2
 clear hbx2
 have HP2 := Lib.hid (Below.refl w2.heap.size w2)
 have HCn : Hid (IsCode w2 Ac2 nc2 (codeF m2.code)) := Lib.hid (Tx.code_kept HC2.out hal)
 clear HC2
 have HC2 := HCn
 clear HCn
 clear hal
 go_upto_region 6 with (first | (go_at_call 6; (with_reducible refine (R3.out _).mono ?_); rintro e w3a ⟨q3, rfl, hb9, hn9⟩; unfold ndV; have HBn := Lib.hid (HB.out.trans ((hb9).mono HB.out.size)); clear HB; have HB := HBn; clear HBn; have HP1n := Lib.hid (HP1.out.trans ((hb9).mono HP1.out.size)); clear HP1; have HP1 := HP1n; clear HP1n; have HP2n := Lib.hid (HP2.out.trans ((hb9).mono HP2.out.size)); clear HP2; have HP2 := HP2n; clear HP2n; have HN3 := Lib.hid hn9; clear hb9 hn9))
 have hal := (Below.refl w3a.heap.size w3a).alloc (Nat.le_refl _) (.cells #[.int .i64 x3.kind, .string x3.text, .int .i64 x3.num, .slice q3.pn x3.names.length q3.cn, .slice q3.pt x3.temps.length q3.ct, .slice q3.pk x3.kids.length q3.ck] 25)
 have hbx := heap_alloc_new w3a (.cells #[.int .i64 x3.kind, .string x3.text, .int .i64 x3.num, .slice q3.pn x3.names.length q3.cn, .slice q3.pt x3.temps.length q3.ct, .slice q3.pk x3.kids.length q3.ck] 25)
 obtain ⟨w3b, hwe⟩ : ∃ z, w3a.alloc (.cells #[.int .i64 x3.kind, .string x3.text, .int .i64 x3.num, .slice q3.pn x3.names.length q3.cn, .slice q3.pt x3.temps.length q3.ct, .slice q3.pk x3.kids.length q3.ck] 25) = z := ⟨_, rfl⟩
 rw [hwe] at hal hbx ⊢
 have hn9 := HN3.out.under hal
 have HBn := Lib.hid (HB.out.trans ((hal).mono HB.out.size))
 clear HB
 have HB := HBn
 clear HBn
 have HP1n := Lib.hid (HP1.out.trans ((hal).mono HP1.out.size))
 clear HP1
 have HP1 := HP1n
 clear HP1n
 have HP2n := Lib.hid (HP2.out.trans ((hal).mono HP2.out.size))
 clear HP2
 have HP2 := HP2n
 clear HP2n
 clear HN3 hwe hal
 have HN := Lib.hid hn9
 obtain ⟨a0, a1, a2, a3, a4, a5⟩ := cc6 (hbx)
 clear hn9
 have HM : Hid (∀ W, Below w3b.heap.size w3b W →  Calls Try.prog 8 #[.agg #[.int .i64 x3.kind, .string x3.text, .int .i64 x3.num, .slice q3.pn x3.names.length q3.cn, .slice q3.pt x3.temps.length q3.ct, .slice q3.pk x3.kids.length q3.ck]] W (MetP m3 ex3 15 W)) := Lib.hid (fun W hW  => (doit_any (HN.out.under hW) HS3.out).mono (fun e w' h => by rw [HC3M.out] at h; exact h.met))
 go_upto_region 7 with (first | (go_at_call 8; (with_reducible refine (HM.out _ bel).mono ?_); rintro e w3c ⟨Al3, nl3, cl3, Ac3, nc3, cc3, D3, ps3, rfl, hl1, hl2, hl3, hl4, hl5, hl6, htd, hb9⟩; have hs9 := ((show Below w3b.heap.size w3b _ from bel).trans (hb9.mono (show Below w3b.heap.size w3b _ from bel).size)); have HBn := Lib.hid (HB.out.trans ((hs9).mono HB.out.size)); clear HB; have HB := HBn; clear HBn; have HP1n := Lib.hid (HP1.out.trans ((hs9).mono HP1.out.size)); clear HP1; have HP1 := HP1n; clear HP1n; have HP2n := Lib.hid (HP2.out.trans ((hs9).mono HP2.out.size)); clear HP2; have HP2 := HP2n; clear HP2n; clear hl1 hl2 hl3 hl4 hl5 hl6 htd hb9 hs9))
 clear HM HN hbx a0 a1 a2 a3 a4 a5
 have hal := (Below.refl w3c.heap.size w3c).alloc (Nat.le_refl _) (.cells #[.string m3.sel, .int .i64 (m3.args : Int), .int .i64 (m3.temps : Int), .int .i64 m3.prim, .slice Al3 nl3 cl3, .slice Ac3 nc3 cc3] 33)
 have hbx3 := heap_alloc_new w3c (.cells #[.string m3.sel, .int .i64 (m3.args : Int), .int .i64 (m3.temps : Int), .int .i64 m3.prim, .slice Al3 nl3 cl3, .slice Ac3 nc3 cc3] 33)
 obtain ⟨w3, hwe⟩ : ∃ z, w3c.alloc (.cells #[.string m3.sel, .int .i64 (m3.args : Int), .int .i64 (m3.temps : Int), .int .i64 m3.prim, .slice Al3 nl3 cl3, .slice Ac3 nc3 cc3] 33) = z := ⟨_, rfl⟩
 rw [hwe] at hal hbx3 ⊢
 have HBn := Lib.hid (HB.out.trans ((hal).mono HB.out.size))
 clear HB
 have HB := HBn
 clear HBn
 have HP1n := Lib.hid (HP1.out.trans ((hal).mono HP1.out.size))
 clear HP1
 have HP1 := HP1n
 clear HP1n
 have HP2n := Lib.hid (HP2.out.trans ((hal).mono HP2.out.size))
 clear HP2
 have HP2 := HP2n
 clear HP2n
 clear hwe
 have HK3 := Lib.hid hbx3
 clear hbx3
 clear hal
 have hd1 := HD1.out
 have hd2 := HD2.out
 have hc1 := Tx.code_kept HC1.out HP1.out
 have hc2 := Tx.code_kept HC2.out HP2.out
 rw [hd1] at hc1
 rw [hd2] at hc2
 have hn1 : nc1 = 4 := by rw [← HL1.out, hd1]; rfl
 have hn2 : nc2 = 8 := by rw [← HL2.out, hd2]; rfl
 have HT1 : Hid (∀ W, Below w3.heap.size w3 W → Calls Try.prog 18 #[.slice Ac1 nc1 cc1] W fun e w' => e = .returned (.string ⟨#[105, 118, 97, 114, 32, 48, 10, 108, 105, 116, 32, 48, 10, 115, 101, 110, 100, 32, 49, 32, 49, 10, 114, 101, 116, 117, 114, 110, 10]⟩) ∧ Below W.heap.size W w') := Lib.hid (fun W hW => text_of (t := ext1) hc1 (by rw [hn1]; rfl) (by omega) (by unfold exc1 Tx.InIns; decide) (by rw [hn1]; exact ext1_t) W hW)
 have HT2 : Hid (∀ W, Below w3.heap.size w3 W → Calls Try.prog 18 #[.slice Ac2 nc2 cc2] W fun e w' => e = .returned (.string ⟨#[108, 105, 116, 32, 48, 10, 108, 105, 116, 32, 49, 10, 115, 101, 110, 100, 32, 50, 32, 49, 10, 105, 102, 110, 111, 116, 32, 54, 32, 48, 10, 108, 105, 116, 32, 51, 10, 106, 117, 109, 112, 32, 55, 32, 48, 10, 110, 105, 108, 10, 114, 101, 116, 117, 114, 110, 10]⟩) ∧ Below W.heap.size W w') := Lib.hid (fun W hW => text_of (t := ext2) hc2 (by rw [hn2]; rfl) (by omega) (by unfold exc2 Tx.InIns; decide) (by rw [hn2]; exact ext2_t) W hW)
 have HK1b : Hid (w3.heap[w1c.heap.size]? = some (.cells #[.string m1.sel, .int .i64 (m1.args : Int), .int .i64 (m1.temps : Int), .int .i64 m1.prim, .slice Al1 nl1 cl1, .slice Ac1 nc1 cc1] 33 (0, 0))) := Lib.hid ((HP1.out.block _ (lt_of_block HK1.out)).trans HK1.out)
 have HK2b : Hid (w3.heap[w2c.heap.size]? = some (.cells #[.string m2.sel, .int .i64 (m2.args : Int), .int .i64 (m2.temps : Int), .int .i64 m2.prim, .slice Al2 nl2 cl2, .slice Ac2 nc2 cc2] 33 (0, 0))) := Lib.hid ((HP2.out.block _ (lt_of_block HK2.out)).trans HK2.out)
 clear hd1 hd2 hc1 hc2 hn1 hn2
 have k5 : w3.cell? ⟨w1c.heap.size, 5, none⟩ = some (.slice Ac1 nc1 cc1) := cell_in HK1b.out rfl
 have j5 : w3.cell? ⟨w2c.heap.size, 5, none⟩ = some (.slice Ac2 nc2 cc2) := cell_in HK2b.out rfl
 go_wp2_with (first | (go_at_call 18; (with_reducible refine (HT1.out _ bel).mono ?_); rintro e wt1 ⟨rfl, hb1⟩; have HBT : Hid (Below w3.heap.size w3 wt1) := Lib.hid ((show Below w3.heap.size w3 _ from bel).trans (hb1.mono (show Below w3.heap.size w3 _ from bel).size)); have HB9 := Lib.hid (HB.out.trans (HBT.out.mono HB.out.size)); have hbt1 := HBT.out; clear hb1; (try clear k5 j5); have k5 : wt1.cell? ⟨w1c.heap.size, 5, none⟩ = some (.slice Ac1 nc1 cc1) := World.cell?_of_block (HBT.out.block _ (lt_of_block HK1b.out)) |>.trans (cell_in HK1b.out rfl); have j5 : wt1.cell? ⟨w2c.heap.size, 5, none⟩ = some (.slice Ac2 nc2 cc2) := World.cell?_of_block (HBT.out.block _ (lt_of_block HK2b.out)) |>.trans (cell_in HK2b.out rfl)) | (go_at_call 18; (with_reducible refine (HT2.out _ bel).mono ?_); rintro e wt2 ⟨rfl, hb2⟩; have HBT : Hid (Below w3.heap.size w3 wt2) := Lib.hid ((show Below w3.heap.size w3 _ from bel).trans (hb2.mono (show Below w3.heap.size w3 _ from bel).size)); have HB9 := Lib.hid (HB.out.trans (HBT.out.mono HB.out.size)); have hbt2 := HBT.out; clear hb2; (try clear k5 j5); have k5 : wt2.cell? ⟨w1c.heap.size, 5, none⟩ = some (.slice Ac1 nc1 cc1) := World.cell?_of_block (HBT.out.block _ (lt_of_block HK1b.out)) |>.trans (cell_in HK1b.out rfl); have j5 : wt2.cell? ⟨w2c.heap.size, 5, none⟩ = some (.slice Ac2 nc2 cc2) := World.cell?_of_block (HBT.out.block _ (lt_of_block HK2b.out)) |>.trans (cell_in HK2b.out rfl)))
 go_ret
 exact ⟨rfl, HB9.out⟩
end Go.Proofs.Ytnojndgmgkgnpaa
