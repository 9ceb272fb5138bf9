/- Chapter 10: the reference's parser: names. -/
import Derived.Test.YtnojndgmgkgnpaaPA
import Derived.Laws.AppendOwnNone
import Derived.Test.YtnojndgmgkgnpaaPPlain
namespace Go.Proofs.Ytnojndgmgkgnpaa
open Go.ChangeShapes Go.WideShapes Go.ChangeAt Go.RowKit Go.Deep Go.Joins Go.Maps
set_option linter.unusedVariables false
set_option linter.unusedSimpArgs false
/-- a row of strings of the call's own -/
abbrev SRow (w : World) (base : Nat) (v : Value) (l : List ByteArray) : Prop := w.ownsRow base 9 1 v l.length (l.map .string)
theorem infoS : (Try.prog.info? 9).map (fun i => (i.zero, i.size, i.bytes)) = some (some (.string eB), 1, 16) := by kernel_rfl
theorem SRow.nil (w : World) (base : Nat) : SRow w base (.slice none 0 0) [] := World.ownsRow_nil _ _ _ _
theorem SRow.slice {w : World} {base : Nat} {v : Value} {l : List ByteArray} (h : SRow w base v l) : ∃ A c, v = .slice A l.length c ∧ l.length ≤ c ∧ c ≤ maxLen := own_slice h
theorem SRow.news {w : World} {base g n c : Nat} {l : List ByteArray} (h : w.ownsRow base 9 1 (.slice (some ⟨g, 0, none⟩) n c) n (l.map .string)) : ∀ (j : Nat) (u : Value), (l.map Value.string)[j]? = some u → w.cell? ((⟨g, 0, none⟩ : Addr).add j) = some u := fun j u hj => by
 rw [add_plain, Nat.zero_add]
 have hlen := h.1
 have hlt : j < (l.map Value.string).length := by
  rcases Nat.lt_or_ge j (l.map Value.string).length with q | q
  ·exact q
  ·rw [List.getElem?_eq_none q] at hj; cases hj
 rw [World.ownsRow.cellAt h j (by omega)]
 exact hj
/-- behind an append of one's own -/
theorem turns_of_app {w w' : World} {v : Value} (hg : w.grownBy w' v.ownBlock) : Turns (fun k => v.ownBlock = some k) w w' :=
 ⟨hg.os, hg.tape, hg.output, hg.size, fun k hk hs => hg.block k hk (fun e => hs e.symm)⟩
/-- the parser stays, when other blocks are turned that were made since -/
theorem PT.turned {ws w w' : World} {pb : Nat} {v : Value} {T : Tks} {s : PSt} (h : PT pb v T ws w s) {X : Nat → Prop} (ht : Turns X w w') (hX : ∀ k, X k → ws.heap.size ≤ k ∧ k ≠ pb ∧ v.ownBlock ≠ some k) : PT pb v T ws w' s :=
 ⟨⟨(ht.block _ (lt_of_block h.1.box) (fun z => (hX _ z).2.1 rfl)).trans h.1.box, ownsRow_same h.1.row ht.size (fun k hk => ht.block k (World.ownsRow.lt h.1.row k hk).2 (fun z => (hX k z).2.2 hk)), h.1.le⟩,
  ht.os.trans h.2.os, ht.tape.trans h.2.tape, ht.output.trans h.2.output, Nat.le_trans h.2.size ht.size, fun k hk hs => (ht.block k (Nat.lt_of_lt_of_le hk h.2.size) (fun z => by have := (hX k z).1; omega)).trans (h.2.block k hk hs)⟩
/-- an own row's block is not the parser's -/
theorem PW.apart {w : World} {pb : Nat} {v : Value} {T : Tks} {s : PSt} (h : PW w pb v T s) {base n size : Nat} {e : TypeId} {vr : Value} {xs : List Value} (hr : w.ownsRow base e size vr n xs) (he : e ≠ 50 ∧ e ≠ 55) : ∀ k, vr.ownBlock = some k → base ≤ k ∧ k ≠ pb ∧ v.ownBlock ≠ some k := fun k hk => by
 obtain ⟨cur, hc⟩ := own_type hr hk
 refine ⟨(World.ownsRow.lt hr k hk).1, fun q => ?_, fun q => ?_⟩
 ·rw [q, h.box] at hc; simp at hc; exact he.1 hc.2.symm
 ·obtain ⟨cur2, hc2⟩ := own_type h.row q
  rw [hc] at hc2; simp at hc2; exact he.2 hc2.2
/-- the names of another row, behind one's own -/
theorem wpList_strs {w : World} {ops : Array Oper} {rest : List Oper} {o : Oper} {a : Act} {Q : Exit → Act → World → Prop} (hgd : o.guard = none) (s x : Operand)
  (ho : o.op = .call { callee := .builtin .append, args := #[s, x], argTypes := #[22, 22] })
  (base : Nat) (v : Value) (n : Nat) (l : List ByteArray) (hs : a.eval s = v) (hown : w.ownsRow base 9 1 v n (l.map .string))
  {v2 : Value} {m : Nat} {js : List ByteArray} (hx : a.eval x = v2) {b2 : Nat} (h2 : w.ownsRow b2 9 1 v2 m (js.map .string)) (hb : n + m ≤ 1000000) (hbase : base ≤ w.heap.size)
  (h : ∀ v' w', w'.ownsRow base 9 1 v' (n + m) ((l ++ js).map .string) → Turns (fun k => v.ownBlock = some k) w w' → wpList Try.prog ops Q rest (a.put o.dst v') w') : wpList Try.prog ops Q (o :: rest) a w := by
 obtain ⟨i0, hi, hz0, hz1, hz2⟩ := info_parts infoS
 rcases h2.2 with ⟨hv2, h0⟩ | ⟨g, cap, cur, hv2, _⟩
 ·subst h0
  have hj : js = [] := by
   have := h2.1
   simpa using this
  subst hj
  subst hv2
  refine wpList_append_own_none (P := Try.prog) hgd s x 22 ho base 9 i0 1 Try.underlying22 hi v n _ hs hown hx (h v w ?_ (Turns.refl _ _))
  rw [List.append_nil]; exact hown
 ·subst hv2
  have hl := h2.1
  refine wpList_append_own (P := Try.prog) _ hgd s x 22 ho base 9 i0 (.string eB) 1 16 Try.underlying22 hi hz0 hz1 hz2 rfl (by decide) v n _ hs hown ⟨g, 0, none⟩ m cap (js.map .string) hx (by omega) (SRow.news h2) (fun u hu => by
   obtain ⟨y, _, rfl⟩ := List.mem_map.1 hu
   rfl) (by unfold maxLen; omega) (by omega) hbase ?_
  intro v' w' k2 k3 _
  exact h v' w' (by rw [List.map_append]; exact k2) (turns_of_app k3)
/-- one more name -/
theorem wpList_str1 {w : World} {ops : Array Oper} {rest : List Oper} {o : Oper} {a : Act} {Q : Exit → Act → World → Prop} (hgd : o.guard = none) (s x : Operand)
  (ho : o.op = .call { callee := .builtin .append, args := #[s, x], argTypes := #[22, 22] })
  (base : Nat) (v : Value) (n : Nat) (l : List ByteArray) (hs : a.eval s = v) (hown : w.ownsRow base 9 1 v n (l.map .string))
  {g : Nat} {t : ByteArray} (hx : a.eval x = .slice (some ⟨g, 0, none⟩) 1 1) (hc : w.heap[g]? = some (.cells #[.string t] 9 (0, 0))) (hb : n ≤ 1000000) (hbase : base ≤ w.heap.size)
  (h : ∀ v' w', w'.ownsRow base 9 1 v' (n + 1) ((l ++ [t]).map .string) → Turns (fun k => v.ownBlock = some k) w w' → wpList Try.prog ops Q rest (a.put o.dst v') w') : wpList Try.prog ops Q (o :: rest) a w := by
 obtain ⟨i0, hi, hz0, hz1, hz2⟩ := info_parts infoS
 refine wpList_append_own (P := Try.prog) _ hgd s x 22 ho base 9 i0 (.string eB) 1 16 Try.underlying22 hi hz0 hz1 hz2 rfl (by decide) v n _ hs hown ⟨g, 0, none⟩ 1 1 [.string t] hx rfl (cells_block hc) (by simp [Value.oneCell']) (by unfold maxLen; omega) (by omega) hbase ?_
 intro v' w' k2 k3 _
 exact h v' w' (by rw [List.map_append]; exact k2) (turns_of_app k3)
theorem SRow.ne {w : World} {base : Nat} {vr : Value} {l : List ByteArray} (h : SRow w base vr l) {pb : Nat} {v : Value} {T : Tks} {s : PSt} (hp : PW w pb v T s) : ∀ k, vr.ownBlock = some k → k ≠ pb := fun k hk e => by
 obtain ⟨cur, hc⟩ := own_type h hk
 rw [e, hp.box] at hc; simp at hc
theorem SRow.turns {w w' : World} {base : Nat} {vr : Value} {l : List ByteArray} (h : SRow w base vr l) {pb : Nat} {v : Value} {T : Tks} {s : PSt} (hp : PW w pb v T s) (ht : Turns (atP pb) w w') : SRow w' base vr l :=
 ownsRow_same h ht.size (fun k hk => ht.block k (World.ownsRow.lt h k hk).2 (h.ne hp k hk))
theorem SRow.below {w w' : World} {base : Nat} {vr : Value} {l : List ByteArray} (h : SRow w base vr l) (hb : Below w.heap.size w w') : SRow w' base vr l :=
 ownsRow_same h hb.size (fun k hk => hb.block k (World.ownsRow.lt h k hk).2)
theorem own_turns {w w' : World} {base n size : Nat} {e : TypeId} {vr : Value} {xs : List Value} (h : w.ownsRow base e size vr n xs) {pb : Nat} {v : Value} {T : Tks} {s : PSt} (hp : PW w pb v T s) (he : e ≠ 50) (ht : Turns (atP pb) w w') : w'.ownsRow base e size vr n xs :=
 ownsRow_same h ht.size (fun k hk => ht.block k (World.ownsRow.lt h k hk).2 (fun q => by
  obtain ⟨cur, hc⟩ := own_type h hk
  rw [q, hp.box] at hc; simp at hc; exact he hc.2.symm))
theorem lt_of_cell {w : World} {b k : Nat} {u : Value} (h : w.cell? ⟨b, k, none⟩ = some u) : b < w.heap.size := cell_lt h
/-- what 'names' tells -/
def NamesP (pb : Nat) (v : Value) (T : Tks) (r : List ByteArray × PSt) (w : World) (e : Ending) (w' : World) : Prop := ∃ vr, e = .returned vr ∧ PT pb v T w w' r.2 ∧ SRow w' w.heap.size vr r.1
set_option maxRecDepth 100000 in
set_option maxHeartbeats 16000000 in
theorem names_any {w : World} {pb : Nat} {v : Value} {T : Tks} {s : PSt} (h : PW w pb v T s) (hok : TokOk T) (hi : s.i ≤ T.length) (k : Int) {b2 : Nat} {vr : Value} {l : List ByteArray} (hr : SRow w b2 vr l) (hl : l.length ≤ 1000) : Calls Try.prog 24 #[.pointer (some ⟨pb, 0, none⟩), .int .i64 k, vr] w (NamesP pb v T (namesT T k l s) w) := by
 obtain ⟨A, c, hvr, hcl, _⟩ := hr.slice
 subst hvr
 have HOK := Lib.hid hok
 have HI := Lib.hid hi
 have HH := Lib.hid h
 obtain ⟨⟨t9, s9⟩, hn9⟩ : ∃ r, needT T s k eB = r := ⟨_, rfl⟩
 have HND := Lib.hid hn9
 have HNM : Hid (namesT T k l s = (l ++ [tx t9], if s9.e = 0 ∧ l.length = 4 then failT s9 t9 18 else s9)) := Lib.hid (by unfold namesT; rw [hn9])
 obtain ⟨n, hn⟩ : ∃ n, l.length = n := ⟨_, rfl⟩
 have HLN := Lib.hid hn
 have hr2 : w.ownsRow b2 9 1 (.slice A n c) n (l.map .string) := by rw [← hn]; exact hr
 have HR := Lib.hid hr2
 have HL : Hid (n ≤ 1000) := Lib.hid (by omega)
 rw [hn] at HNM ⊢
 clear hok hi h hn9 hn hr hr2 hl hcl
 go_enter Try.func24, Try.ntmps24
 go_upto_region 2 with (first | (go_at_call 17; (with_reducible refine (need_at HH.out.pt bel HOK.out HI.out k eB HND.out).mono ?_); rintro e w2 ⟨rfl, hx⟩; have HX2 := Lib.hid hx; clear hx))
 have hx3 := HX2.out.below ((Below.refl _ _).alloc (Nat.le_refl _) (.cells #[.int .i64 t9.kind, .string (tx t9), .int .i64 t9.num, .int .i64 (t9.at_ : Int)] 55))
 have hm := heap_alloc_new w2 (.cells #[.int .i64 t9.kind, .string (tx t9), .int .i64 t9.num, .int .i64 (t9.at_ : Int)] 55)
 have hpl := lt_of_block HX2.out.1.box
 have hr3 := own_turns HR.out HH.out (by decide) hx3.2
 obtain ⟨w3, hw3⟩ : ∃ w3, w2.alloc (.cells #[.int .i64 t9.kind, .string (tx t9), .int .i64 t9.num, .int .i64 (t9.at_ : Int)] 55) = w3 := ⟨_, rfl⟩
 rw [hw3] at hx3 hm hr3 ⊢
 have cb := hm
 obtain ⟨c0, c1, c2, c3⟩ := cc4 cb
 have k3 : w3.cell? ⟨pb, 3, none⟩ = some (.int .i64 s9.e) := hx3.1.cell rfl
 have HTB := Lib.hid hm
 have HTL := Lib.hid (lt_of_block hm)
 have HTN : Hid (¬ w2.heap.size = pb) := Lib.hid (by omega)
 have HX3 : Hid (PW w3 pb v T s9 ∧ PT pb v T w w3 s9) := Lib.hid ⟨hx3.1, hx3⟩
 have HR3 := Lib.hid hr3
 clear hw3 hm cb hx3 hr3
 by_cases e0 : s9.e = 0
 ·by_cases e4 : n = 4
  ·have HSQ : Hid ((if s9.e = 0 ∧ n = 4 then failT s9 t9 18 else s9) = failT s9 t9 18) := Lib.hid (if_pos ⟨e0, e4⟩)
   rw [HSQ.out] at HNM
   rw [e0] at k3
   have z1 : (n == 4) = true := by simpa using e4
   have z2 : ((n : Int) == 4) = true := by simp; omega
   have z3 : (n : Int) = 4 := by omega
   clear e0 e4
   go_upto_region 5 with (first | (go_at_call 25; (with_reducible refine (pfail_at HX3.out.1.pt bel t9 18).mono ?_); rintro e w4 ⟨rfl, hx⟩; have HXQ := Lib.hid hx; have tb9 := (hx.2.block w2.heap.size HTL.out HTN.out).trans HTB.out; have c1 : w4.cell? ⟨w2.heap.size, 1, none⟩ = some (.string (tx t9)) := cell_in tb9 rfl; have HRQ := Lib.hid (own_turns HR3.out HX3.out.1 (by decide) hx.2); clear hx))
   have HXQ0 : Hid (PT pb v T w w4 (failT s9 t9 18)) := Lib.hid (HX3.out.2.go HXQ.out)
   have HBS : Hid (w.heap.size ≤ w4.heap.size) := Lib.hid HXQ0.out.2.size
   go_upto_region 6 with (first | (at_builtin; refine wpList_strs rfl _ _ rfl w.heap.size _ 0 [] rfl (SRow.nil _ _) rfl HRQ.out (by have := HL.out; omega) HBS.out ?_; intro v5 w5 hown ht5; rw [Nat.zero_add, List.nil_append] at hown; have HO5 := Lib.hid hown; have c1 : w5.cell? ⟨w2.heap.size, 1, none⟩ = some (.string (tx t9)) := (World.cell?_of_block (ht5.block w2.heap.size (lt_of_cell c1) (fun z => by cases z))).trans c1; have HX5 := Lib.hid (HXQ0.out.turned ht5 (fun k z => by cases z)); obtain ⟨A5, c5, hv5, _⟩ := own_slice hown; subst hv5; clear hown ht5))
   have HO6 : Hid ((w5.alloc (.cells #[.string (tx t9)] 9)).ownsRow w.heap.size 9 1 (.slice A5 n c5) n (l.map .string)) := Lib.hid (ownsRow_same HO5.out (by rw [World.size_alloc]; exact Nat.le_succ _) (fun k hk => ((Below.refl _ _).alloc (Nat.le_refl _) _ |>.block _ (World.ownsRow.lt HO5.out k hk).2)))
   have HB6 : Hid (w.heap.size ≤ w5.heap.size) := Lib.hid HX5.out.2.size
   go_wp2_with (first | (at_builtin; refine wpList_str1 rfl _ _ rfl w.heap.size _ _ _ rfl (HO6.out) rfl (heap_alloc_new _ _) (by have := HL.out; omega) (by have := HB6.out; rw [World.size_alloc]; omega) ?_; intro v7 w7 hown ht7; have HO7 := Lib.hid hown; have HT7 := Lib.hid ht7; obtain ⟨A7, c7, hv7, _⟩ := own_slice hown; subst hv7; clear hown ht7))
   go_ret
   have hx6 := HX5.out.below ((Below.refl _ _).alloc (Nat.le_refl _) (.cells #[.string (tx t9)] 9))
   have hx7 := hx6.turned HT7.out (fun k z => hx6.1.apart HO6.out ⟨by decide, by decide⟩ k z)
   rw [HNM.out]
   refine ⟨_, rfl, hx7, ?_⟩
   have ho := HO7.out
   show World.ownsRow _ _ 9 1 _ (l ++ [tx t9]).length ((l ++ [tx t9]).map .string)
   rw [List.length_append, HLN.out]
   exact ho
  ·have HSQ : Hid ((if s9.e = 0 ∧ n = 4 then failT s9 t9 18 else s9) = s9) := Lib.hid (if_neg (fun z => e4 z.2))
   rw [HSQ.out] at HNM
   rw [e0] at k3
   have z1 : (n == 4) = false := by simpa using e4
   have z2 : ((n : Int) == 4) = false := by simp; omega
   have z3 : ¬ (n : Int) = 4 := by omega
   clear e0 e4
   go_upto_region 5 with fail
   have HXQ := Lib.hid HX3.out.1.pt
   have HRQ := HR3
   have HXQ0 : Hid (PT pb v T w w3 s9) := Lib.hid (HX3.out.2.go HXQ.out)
   have HBS : Hid (w.heap.size ≤ w3.heap.size) := Lib.hid HXQ0.out.2.size
   go_upto_region 6 with (first | (at_builtin; refine wpList_strs rfl _ _ rfl w.heap.size _ 0 [] rfl (SRow.nil _ _) rfl HRQ.out (by have := HL.out; omega) HBS.out ?_; intro v5 w5 hown ht5; rw [Nat.zero_add, List.nil_append] at hown; have HO5 := Lib.hid hown; have c1 : w5.cell? ⟨w2.heap.size, 1, none⟩ = some (.string (tx t9)) := (World.cell?_of_block (ht5.block w2.heap.size (lt_of_cell c1) (fun z => by cases z))).trans c1; have HX5 := Lib.hid (HXQ0.out.turned ht5 (fun k z => by cases z)); obtain ⟨A5, c5, hv5, _⟩ := own_slice hown; subst hv5; clear hown ht5))
   have HO6 : Hid ((w5.alloc (.cells #[.string (tx t9)] 9)).ownsRow w.heap.size 9 1 (.slice A5 n c5) n (l.map .string)) := Lib.hid (ownsRow_same HO5.out (by rw [World.size_alloc]; exact Nat.le_succ _) (fun k hk => ((Below.refl _ _).alloc (Nat.le_refl _) _ |>.block _ (World.ownsRow.lt HO5.out k hk).2)))
   have HB6 : Hid (w.heap.size ≤ w5.heap.size) := Lib.hid HX5.out.2.size
   go_wp2_with (first | (at_builtin; refine wpList_str1 rfl _ _ rfl w.heap.size _ _ _ rfl (HO6.out) rfl (heap_alloc_new _ _) (by have := HL.out; omega) (by have := HB6.out; rw [World.size_alloc]; omega) ?_; intro v7 w7 hown ht7; have HO7 := Lib.hid hown; have HT7 := Lib.hid ht7; obtain ⟨A7, c7, hv7, _⟩ := own_slice hown; subst hv7; clear hown ht7))
   go_ret
   have hx6 := HX5.out.below ((Below.refl _ _).alloc (Nat.le_refl _) (.cells #[.string (tx t9)] 9))
   have hx7 := hx6.turned HT7.out (fun k z => hx6.1.apart HO6.out ⟨by decide, by decide⟩ k z)
   rw [HNM.out]
   refine ⟨_, rfl, hx7, ?_⟩
   have ho := HO7.out
   show World.ownsRow _ _ 9 1 _ (l ++ [tx t9]).length ((l ++ [tx t9]).map .string)
   rw [List.length_append, HLN.out]
   exact ho
 ·have HSQ : Hid ((if s9.e = 0 ∧ n = 4 then failT s9 t9 18 else s9) = s9) := Lib.hid (if_neg (fun z => e0 z.1))
  rw [HSQ.out] at HNM
  have y1 : (s9.e == 0) = false := by simpa using e0
  clear e0
  go_upto_region 5 with fail
  have HXQ := Lib.hid HX3.out.1.pt
  have HRQ := HR3
  have HXQ0 : Hid (PT pb v T w w3 s9) := Lib.hid (HX3.out.2.go HXQ.out)
  have HBS : Hid (w.heap.size ≤ w3.heap.size) := Lib.hid HXQ0.out.2.size
  go_upto_region 6 with (first | (at_builtin; refine wpList_strs rfl _ _ rfl w.heap.size _ 0 [] rfl (SRow.nil _ _) rfl HRQ.out (by have := HL.out; omega) HBS.out ?_; intro v5 w5 hown ht5; rw [Nat.zero_add, List.nil_append] at hown; have HO5 := Lib.hid hown; have c1 : w5.cell? ⟨w2.heap.size, 1, none⟩ = some (.string (tx t9)) := (World.cell?_of_block (ht5.block w2.heap.size (lt_of_cell c1) (fun z => by cases z))).trans c1; have HX5 := Lib.hid (HXQ0.out.turned ht5 (fun k z => by cases z)); obtain ⟨A5, c5, hv5, _⟩ := own_slice hown; subst hv5; clear hown ht5))
  have HO6 : Hid ((w5.alloc (.cells #[.string (tx t9)] 9)).ownsRow w.heap.size 9 1 (.slice A5 n c5) n (l.map .string)) := Lib.hid (ownsRow_same HO5.out (by rw [World.size_alloc]; exact Nat.le_succ _) (fun k hk => ((Below.refl _ _).alloc (Nat.le_refl _) _ |>.block _ (World.ownsRow.lt HO5.out k hk).2)))
  have HB6 : Hid (w.heap.size ≤ w5.heap.size) := Lib.hid HX5.out.2.size
  go_wp2_with (first | (at_builtin; refine wpList_str1 rfl _ _ rfl w.heap.size _ _ _ rfl (HO6.out) rfl (heap_alloc_new _ _) (by have := HL.out; omega) (by have := HB6.out; rw [World.size_alloc]; omega) ?_; intro v7 w7 hown ht7; have HO7 := Lib.hid hown; have HT7 := Lib.hid ht7; obtain ⟨A7, c7, hv7, _⟩ := own_slice hown; subst hv7; clear hown ht7))
  go_ret
  have hx6 := HX5.out.below ((Below.refl _ _).alloc (Nat.le_refl _) (.cells #[.string (tx t9)] 9))
  have hx7 := hx6.turned HT7.out (fun k z => hx6.1.apart HO6.out ⟨by decide, by decide⟩ k z)
  rw [HNM.out]
  refine ⟨_, rfl, hx7, ?_⟩
  have ho := HO7.out
  show World.ownsRow _ _ 9 1 _ (l ++ [tx t9]).length ((l ++ [tx t9]).map .string)
  rw [List.length_append, HLN.out]
  exact ho
set_option maxRecDepth 100000 in
set_option maxHeartbeats 16000000 in
theorem temps7_any {w : World} {pb : Nat} {v : Value} {T : Tks} {s : PSt} (h : PW w pb v T s) (hok : TokOk T) (hi : s.i ≤ T.length) : Calls Try.prog 15 #[.pointer (some ⟨pb, 0, none⟩)] w (NamesP pb v T (tempsT T s) w) := by
 have HOK := Lib.hid hok
 have HI := Lib.hid hi
 have HH := Lib.hid h
 have HLE : Hid (T.length ≤ 100000) := Lib.hid hok.len
 obtain ⟨t0, ht0⟩ : ∃ t, ahd T s 0 = t := ⟨_, rfl⟩
 have HT := Lib.hid ht0
 obtain ⟨b, hb⟩ : ∃ b, isT T s 10 bBar = b := ⟨_, rfl⟩
 have HB := Lib.hid hb
 clear hok hi h ht0 hb
 cases b with
 | false =>
  have HE : Hid (tempsT T s = ([], s)) := Lib.hid (by unfold tempsT; rw [if_neg (by rw [HB.out]; decide)])
  go_enter Try.func15, Try.ntmps15
  go_wp2_with (first | (go_at_call 22; (with_reducible refine (is_at HH.out.pt bel HOK.out 10 bBar).mono ?_); rw [HB.out]; rintro e w2 ⟨rfl, hx⟩; have HX2 := Lib.hid hx; clear hx))
  go_ret
  rw [HE.out]
  exact ⟨_, rfl, HX2.out, SRow.nil _ _⟩
 | true =>
  have HE : Hid (tempsT T s = ((tempsL T (T.length + 1) [] (takeT s)).1, (needT T (tempsL T (T.length + 1) [] (takeT s)).2 10 bBar).2)) := Lib.hid (by unfold tempsT; rw [if_pos HB.out])
  have hlt := isT_lt HB.out HOK.out (by decide)
  have HI1 : Hid ((takeT s).i ≤ T.length) := Lib.hid hlt
  have hf1 := tfld1
  clear hlt
  go_enter Try.func15, Try.ntmps15
  go_wp2_with (first | (go_at_call 22; (with_reducible refine (is_at HH.out.pt bel HOK.out 10 bBar).mono ?_); rw [HB.out]; rintro e w2 ⟨rfl, hx⟩; have HX2 := Lib.hid hx; clear hx) | (go_at_call 23; (with_reducible refine (take_at HX2.out bel HOK.out HI.out HT.out).mono ?_); rintro e w3 ⟨rfl, hx⟩; have HX3 := Lib.hid hx; clear hx))
  go_loopg [3] (T.length + 1) (fun g v3 wr => ∃ (l : List ByteArray) (sk : PSt), PT pb v T w wr sk ∧ wr.ownsRow w.heap.size 9 1 v3 l.length (l.map .string) ∧ tempsL T (T.length + 1) [] (takeT s) = tempsL T g l sk ∧ T.length < g + sk.i ∧ sk.i ≤ T.length ∧ l.length ≤ sk.i)
  case atStart => exact ⟨[], takeT s, HX3.out, SRow.nil _ _, rfl, by omega, HI1.out, Nat.zero_le _⟩
  case round =>
   obtain ⟨l, sk, hpt, hown, htl, hg, hil, hll⟩ := hrel
   obtain ⟨A, c, hv3, _⟩ := own_slice hown
   subst hv3
   have HX := Lib.hid hpt
   have HO := Lib.hid hown
   have HTQ := Lib.hid htl
   have HG := Lib.hid hg
   have HIL := Lib.hid hil
   have HLB : Hid (l.length ≤ 100000 ∧ l.length ≤ sk.i) := Lib.hid ⟨by have := HLE.out; omega, hll⟩
   obtain ⟨n, hn⟩ : ∃ n, l.length = n := ⟨_, rfl⟩
   rw [hn] at HO HLB ⊢
   have HLN := Lib.hid hn
   obtain ⟨t, ht⟩ : ∃ t, ahd T sk 0 = t := ⟨_, rfl⟩
   have HTL := Lib.hid ht
   obtain ⟨b, hb⟩ : ∃ b, isT T sk 1 eB = b := ⟨_, rfl⟩
   have HBL := Lib.hid hb
   clear hpt hown htl hg hil hll hn ht hb
   cases b with
   | true =>
    have HLT := Lib.hid (isT_lt HBL.out HOK.out (by decide))
    go_wp2_with (first | (go_at_call 22; (with_reducible refine (is_at HX.out.1.pt bel HOK.out 1 eB).mono ?_); rw [HBL.out]; rintro e w4 ⟨rfl, hx⟩; have HO4 := Lib.hid (own_turns HO.out HX.out.1 (by decide) hx.2); have HX4 := Lib.hid (HX.out.go hx); clear hx) | (go_at_call 23; (with_reducible refine (take_at HX4.out.1.pt bel HOK.out HIL.out HTL.out).mono ?_); rintro e w5 ⟨rfl, hx⟩; have HO5 := Lib.hid (own_turns HO4.out HX4.out.1 (by decide) hx.2); have HX5 := Lib.hid (HX4.out.go hx); have HO6 := Lib.hid (ownsRow_same HO5.out (w' := w5.alloc (.cells #[.string (tx t)] 9)) (by rw [World.size_alloc]; exact Nat.le_succ _) (fun k hk => ((Below.refl _ _).alloc (Nat.le_refl _) _ |>.block _ (World.ownsRow.lt HO5.out k hk).2))); have HB6 : Hid (w.heap.size ≤ w5.heap.size) := Lib.hid HX5.out.2.size; clear hx) | (at_builtin; refine wpList_str1 rfl _ _ rfl w.heap.size _ _ _ rfl (HO6.out) rfl (heap_alloc_new _ _) (by have := HLB.out; omega) (by have := HB6.out; rw [World.size_alloc]; omega) ?_; intro v7 w7 hown ht7; have HO7 := Lib.hid hown; have HT7 := Lib.hid ht7; obtain ⟨A7, c7, hv7, _⟩ := own_slice hown; subst hv7; clear hown ht7))
    go_roundg (gk - 1)
    case measure => have := HG.out; have := HLT.out; omega
    case rel =>
     have hx6 := HX5.out.below ((Below.refl _ _).alloc (Nat.le_refl _) (.cells #[.string (tx t)] 9))
     have hx7 := hx6.turned HT7.out (fun k z => hx6.1.apart HO6.out ⟨by decide, by decide⟩ k z)
     refine ⟨l ++ [tx t], takeT sk, hx7, ?_, ?_, by show _ < _ + (sk.i + 1); have := HG.out; have := HLT.out; omega, HLT.out, by rw [List.length_append, HLN.out]; have := HLB.out.2; show n + 1 ≤ sk.i + 1; omega⟩
     ·rw [List.length_append, HLN.out]; exact HO7.out
     ·have h9 : gk = (gk - 1) + 1 := by have := HG.out; have := HLT.out; omega
      rw [HTQ.out, h9, tempsL, if_pos HBL.out, HTL.out, Nat.add_sub_cancel]
   | false =>
    have hq : tempsL T (T.length + 1) [] (takeT s) = (l, sk) := by
     rw [HTQ.out]
     cases gk with
     | zero => rfl
     | succ g => rw [tempsL, if_neg (by rw [HBL.out]; decide)]
    obtain ⟨⟨t9, s9⟩, hnq⟩ : ∃ r, needT T sk 10 bBar = r := ⟨_, rfl⟩
    have HNQ := Lib.hid hnq
    have HE2 : Hid (tempsT T s = (l, s9)) := Lib.hid (by rw [HE.out, hq, hnq])
    clear hq hnq
    go_wp2_with (first | (go_at_call 22; (with_reducible refine (is_at HX.out.1.pt bel HOK.out 1 eB).mono ?_); rw [HBL.out]; rintro e w4 ⟨rfl, hx⟩; have HO4 := Lib.hid (own_turns HO.out HX.out.1 (by decide) hx.2); have HX4 := Lib.hid (HX.out.go hx); clear hx) | (go_at_call 17; (with_reducible refine (need_at HX4.out.1.pt bel HOK.out HIL.out 10 bBar HNQ.out).mono ?_); rintro e w6 ⟨rfl, hx⟩; have HO9 := Lib.hid (own_turns HO4.out HX4.out.1 (by decide) hx.2); have HX9 := Lib.hid (HX4.out.go hx); clear hx))
    go_ret
    rw [HE2.out]
    exact ⟨_, rfl, HX9.out, by show World.ownsRow _ _ 9 1 _ l.length _; rw [HLN.out]; exact HO9.out⟩
end Go.Proofs.Ytnojndgmgkgnpaa
/- Chapter 10: the reference's parser: rows of nodes; unary sends. -/
namespace Go.Proofs.Ytnojndgmgkgnpaa
open Go.ChangeShapes Go.WideShapes Go.ChangeAt Go.RowKit Go.Deep Go.Joins Go.Maps
set_option linter.unusedVariables false
set_option linter.unusedSimpArgs false
theorem PT.keepB {w4 W w5 : World} {pb : Nat} {v : Value} {T : Tks} {s : PSt} (hb : Below w4.heap.size w4 W) (hx : PT pb v T W w5 s) {b : Nat} {o : Obj} (h : w4.heap[b]? = some o) (hne : b ≠ pb) : w5.heap[b]? = some o :=
 ((hx.2.block b (Nat.lt_of_lt_of_le (lt_of_block h) hb.size) hne).trans (hb.block b (lt_of_block h))).trans h
theorem PT.keepN {w4 W w5 : World} {pb : Nat} {v : Value} {T : Tks} {s : PSt} (hb : Below w4.heap.size w4 W) (hx : PT pb v T W w5 s) {D : Nat → Prop} {x : NodT} {q : NS} (h : IsNd w4 D x q) (hD : ∀ b, D b → b ≠ pb) : IsNd w5 D x q :=
 h.same (Nat.le_trans hb.size hx.2.size) (fun b z hl => (hx.2.block b (Nat.lt_of_lt_of_le hl hb.size) (hD b z)).trans (hb.block b hl)) (fun _ z => z)
/-- what a part of the parser tells: a node that lies in blocks of D, or in new ones -/
def NdP (D : Nat → Prop) (pb : Nat) (v : Value) (T : Tks) (r : NodT × PSt) (w : World) (e : Ending) (w' : World) : Prop := ∃ q, e = .returned (ndV r.1 q) ∧ PT pb v T w w' r.2 ∧ IsNd w' (fun b => D b ∨ w.heap.size ≤ b) r.1 q
theorem IsNd.lt {w : World} {D : Nat → Prop} {x : NodT} {q : NS} (h : IsNd w D x q) : IsNd w (fun b => D b ∧ b < w.heap.size) x q := by
 induction h with
 | node x q Q h1 h2 h3 h4 h5 ih =>
  refine .node x q Q h1 (fun i hi => ?_) (fun i hi => ?_) (fun i hi => ?_) ih
  ·obtain ⟨b, off, e, k1, k2, k3⟩ := h2 i hi
   exact ⟨b, off, e, k1, ⟨k2, k1⟩, k3⟩
  ·obtain ⟨b, off, e, k1, k2, k3⟩ := h3 i hi
   exact ⟨b, off, e, k1, ⟨k2, k1⟩, k3⟩
  ·obtain ⟨b, off, e, k1, k2, k3⟩ := h4 i hi
   exact ⟨b, off, e, k1, ⟨k2, k1⟩, k3⟩
theorem IsNd.turns {w w' : World} {D D' X : Nat → Prop} {x : NodT} {q : NS} (h : IsNd w D x q) (ht : Turns X w w') (hX : ∀ b, D b → b < w.heap.size → ¬ X b) (hD : ∀ b, D b → D' b) : IsNd w' D' x q := h.same ht.size (fun b hb hl => ht.block b hl (hX b hb hl)) hD
theorem IsNd.more {w : World} {D D' : Nat → Prop} {x : NodT} {q : NS} (h : IsNd w D x q) (hD : ∀ b, D b → b < w.heap.size → D' b) : IsNd w D' x q := h.lt.same (Nat.le_refl _) (fun _ _ _ => rfl) (fun b z => hD b z.1 z.2)
/-- a node without names and kids -/
theorem IsNd.leaf (w : World) (D : Nat → Prop) {k n : Int} {t : ByteArray} (hk : InI k) (hn : InI n) (ht : t.size ≤ big63) : IsNd w D (.node k t n [] [] []) ⟨none, 0, none, 0, none, 0⟩ :=
 .node _ _ (fun _ => ⟨none, 0, none, 0, none, 0⟩) ⟨hk, hn, ht, ⟨Nat.le_refl _, Nat.zero_le _⟩, ⟨Nat.le_refl _, Nat.zero_le _⟩, ⟨Nat.le_refl _, Nat.zero_le _⟩⟩ (fun i h => absurd h (by simp [NodT.names])) (fun i h => absurd h (by simp [NodT.temps])) (fun i h => absurd h (by simp [NodT.kids])) (fun i h => absurd h (by simp [NodT.kids]))
theorem strs_nil (w : World) (D : Nat → Prop) (p : Option Addr) : Strs w D p [] := fun i h => absurd h (by simp)
/-- a node over a row of kids -/
theorem IsNd.over {w : World} {D : Nat → Prop} {k n : Int} {t : ByteArray} {l : List NodT} {p : Option Addr} {c : Nat} (Q : Nat → NS) (hk : InI k) (hn : InI n) (ht : t.size ≤ big63) (hc : l.length ≤ c ∧ c ≤ maxLen)
  (h4 : ∀ i (h : i < l.length), ∃ b off, p = some ⟨b, off, none⟩ ∧ b < w.heap.size ∧ D b ∧ Cells6 w b (off + i * 6) l[i] (Q i)) (h5 : ∀ i (h : i < l.length), IsNd w D l[i] (Q i)) : IsNd w D (.node k t n [] [] l) ⟨none, 0, none, 0, p, c⟩ :=
 .node _ _ Q ⟨hk, hn, ht, ⟨Nat.le_refl _, Nat.zero_le _⟩, ⟨Nat.le_refl _, Nat.zero_le _⟩, hc⟩ (strs_nil _ _ _) (strs_nil _ _ _) h4 h5
theorem tx_size {T : Tks} {s : PSt} {k : Nat} {t : Lx.ATok} (hok : TokOk T) (ht : ahd T s k = t) : (tx t).size ≤ big63 := by
 have := hok.text t (by rw [← ht]; exact ahd_mem hok)
 show _ ≤ 9223372036854775807
 omega
/-- a node over one kid, in a block of its own -/
theorem IsNd.one {w : World} {D : Nat → Prop} {k n : Int} {t : ByteArray} {x : NodT} {q : NS} {b : Nat} (hk : InI k) (hn : InI n) (ht : t.size ≤ big63) (hb : w.heap[b]? = some (.cells #[.int .i64 x.kind, .string x.text, .int .i64 x.num, .slice q.pn x.names.length q.cn, .slice q.pt x.temps.length q.ct, .slice q.pk x.kids.length q.ck] 25 (0, 0))) (hD : D b) (hx : IsNd w D x q) : IsNd w D (.node k t n [] [] [x]) ⟨none, 0, none, 0, some ⟨b, 0, none⟩, 1⟩ := by
 refine IsNd.over (fun _ => q) hk hn ht ⟨Nat.le_refl _, by unfold maxLen; simp⟩ (fun i hi => ?_) (fun i hi => ?_)
 ·have e : i = 0 := by simp at hi; omega
  subst e
  exact ⟨b, 0, rfl, lt_of_block hb, hD, by have h9 := cells_six hb; exact h9⟩
 ·have e : i = 0 := by simp at hi; omega
  subst e
  exact hx
set_option maxRecDepth 100000 in
set_option maxHeartbeats 16000000 in
theorem un_any {w : World} {pb : Nat} {v : Value} {T : Tks} {s : PSt} (h : PW w pb v T s) (hok : TokOk T) (hi : s.i ≤ T.length) {D : Nat → Prop} (hD : ∀ b, D b → b ≠ pb) {x : NodT} {q : NS} (hx : IsNd w D x q) : Calls Try.prog 39 #[.pointer (some ⟨pb, 0, none⟩), ndV x q] w (NdP D pb v T (unT T x s) w) := by
 have HOK := Lib.hid hok
 have HI := Lib.hid hi
 have hpl := lt_of_block h.box
 have H0 : Hid (PW ((w.alloc (.cells #[.int .i64 x.kind, .string x.text, .int .i64 x.num, .slice q.pn x.names.length q.cn, .slice q.pt x.temps.length q.ct, .slice q.pk x.kids.length q.ck] 25)).alloc (.cells #[.int .i64 0, .string eB, .int .i64 0, .slice none 0 0, .slice none 0 0, .slice none 0 0] 25)) pb v T s ∧ Below w.heap.size w ((w.alloc (.cells #[.int .i64 x.kind, .string x.text, .int .i64 x.num, .slice q.pn x.names.length q.cn, .slice q.pt x.temps.length q.ct, .slice q.pk x.kids.length q.ck] 25)).alloc (.cells #[.int .i64 0, .string eB, .int .i64 0, .slice none 0 0, .slice none 0 0, .slice none 0 0] 25)) ∧ (((w.alloc (.cells #[.int .i64 x.kind, .string x.text, .int .i64 x.num, .slice q.pn x.names.length q.cn, .slice q.pt x.temps.length q.ct, .slice q.pk x.kids.length q.ck] 25)).alloc (.cells #[.int .i64 0, .string eB, .int .i64 0, .slice none 0 0, .slice none 0 0, .slice none 0 0] 25)).heap[w.heap.size]? = some (.cells #[.int .i64 x.kind, .string x.text, .int .i64 x.num, .slice q.pn x.names.length q.cn, .slice q.pt x.temps.length q.ct, .slice q.pk x.kids.length q.ck] 25 (0, 0)) ∧ ((w.alloc (.cells #[.int .i64 x.kind, .string x.text, .int .i64 x.num, .slice q.pn x.names.length q.cn, .slice q.pt x.temps.length q.ct, .slice q.pk x.kids.length q.ck] 25)).alloc (.cells #[.int .i64 0, .string eB, .int .i64 0, .slice none 0 0, .slice none 0 0, .slice none 0 0] 25)).heap[w.heap.size + 1]? = some (.cells #[.int .i64 0, .string eB, .int .i64 0, .slice none 0 0, .slice none 0 0, .slice none 0 0] 25 (0, 0))) ∧ IsNd ((w.alloc (.cells #[.int .i64 x.kind, .string x.text, .int .i64 x.num, .slice q.pn x.names.length q.cn, .slice q.pt x.temps.length q.ct, .slice q.pk x.kids.length q.ck] 25)).alloc (.cells #[.int .i64 0, .string eB, .int .i64 0, .slice none 0 0, .slice none 0 0, .slice none 0 0] 25)) (fun b => (D b ∧ b < w.heap.size) ∨ w.heap.size + 2 ≤ b) x q) := Lib.hid (by
  have hb : Below w.heap.size w ((w.alloc (.cells #[.int .i64 x.kind, .string x.text, .int .i64 x.num, .slice q.pn x.names.length q.cn, .slice q.pt x.temps.length q.ct, .slice q.pk x.kids.length q.ck] 25)).alloc (.cells #[.int .i64 0, .string eB, .int .i64 0, .slice none 0 0, .slice none 0 0, .slice none 0 0] 25)) := bel
  have h1 := heap_alloc_new w (.cells #[.int .i64 x.kind, .string x.text, .int .i64 x.num, .slice q.pn x.names.length q.cn, .slice q.pt x.temps.length q.ct, .slice q.pk x.kids.length q.ck] 25)
  have h2 := heap_alloc_new (w.alloc (.cells #[.int .i64 x.kind, .string x.text, .int .i64 x.num, .slice q.pn x.names.length q.cn, .slice q.pt x.temps.length q.ct, .slice q.pk x.kids.length q.ck] 25)) (.cells #[.int .i64 0, .string eB, .int .i64 0, .slice none 0 0, .slice none 0 0, .slice none 0 0] 25)
  rw [World.size_alloc] at h2
  exact ⟨h.below hb, hb, ⟨((Below.refl _ _).alloc (Nat.le_refl _) _ |>.block _ (lt_of_block h1)).trans h1, h2⟩, hx.lt.same hb.size (fun b z _ => hb.block b z.2) (fun b z => .inl z)⟩)
 have HPL := Lib.hid hpl
 have HD := Lib.hid hD
 have HOLD := Lib.hid h.old
 have HOLD1 : Hid (v.ownBlock ≠ some (w.heap.size + 1)) := Lib.hid (fun e => by have := (World.ownsRow.lt h.row _ e).2; omega)
 unfold ndV
 clear h hok hi hx hD
 go_enter Try.func39, Try.ntmps39
 go_wp2_with fail
 have h1 := H0.out
 obtain ⟨w1, hw1⟩ : ∃ w1, ((w.alloc (.cells #[.int .i64 x.kind, .string x.text, .int .i64 x.num, .slice q.pn x.names.length q.cn, .slice q.pt x.temps.length q.ct, .slice q.pk x.kids.length q.ck] 25)).alloc (.cells #[.int .i64 0, .string eB, .int .i64 0, .slice none 0 0, .slice none 0 0, .slice none 0 0] 25)) = w1 := ⟨_, rfl⟩
 rw [hw1] at h1 ⊢
 have HB1 := Lib.hid h1.2.1
 have HZ1 := Lib.hid h1.2.2.1.2
 clear hw1 H0
 go_loopg [] (T.length + 1) (fun g wr => ∃ (x' : NodT) (q' : NS) (sk : PSt), PT pb v T w wr sk ∧ wr.heap[w.heap.size]? = some (.cells #[.int .i64 x'.kind, .string x'.text, .int .i64 x'.num, .slice q'.pn x'.names.length q'.cn, .slice q'.pt x'.temps.length q'.ct, .slice q'.pk x'.kids.length q'.ck] 25 (0, 0)) ∧ wr.heap[w.heap.size + 1]? = some (.cells #[.int .i64 0, .string eB, .int .i64 0, .slice none 0 0, .slice none 0 0, .slice none 0 0] 25 (0, 0)) ∧ IsNd wr (fun b => (D b ∧ b < w.heap.size) ∨ w.heap.size + 2 ≤ b) x' q' ∧ unL T (T.length + 1) x s = unL T g x' sk ∧ T.length < g + sk.i ∧ sk.i ≤ T.length)
 case atStart => exact ⟨x, q, s, ⟨h1.1, Turns.of_below HB1.out⟩, h1.2.2.1.1, h1.2.2.1.2, h1.2.2.2, rfl, by omega, HI.out⟩
 case round =>
  obtain ⟨x', q', sk, hpt, hb0, hb1, hnd, hul, hg, hil⟩ := hrel
  have HX := Lib.hid hpt
  have HB0 := Lib.hid hb0
  have HZ := Lib.hid hb1
  have HND := Lib.hid hnd
  have HUL := Lib.hid hul
  have HG := Lib.hid hg
  have HIL := Lib.hid hil
  obtain ⟨t, ht⟩ : ∃ t, ahd T sk 0 = t := ⟨_, rfl⟩
  have HT := Lib.hid ht
  obtain ⟨b, hb⟩ : ∃ b, isT T sk 1 eB = b := ⟨_, rfl⟩
  have HB := Lib.hid hb
  clear hpt hb0 hb1 hnd hul hg hil ht hb h1
  have hf1 := tfld1
  cases b with
  | true =>
   have HLT := Lib.hid (isT_lt HB.out HOK.out (by decide))
   go_upto_region 2 with (first | (go_at_call 22; (with_reducible refine (is_at HX.out.1.pt bel HOK.out 1 eB).mono ?_); rw [HB.out]; rintro e w4 ⟨rfl, hx⟩; have xb9 := (hx.2.block w.heap.size (lt_of_block HB0.out) (fun e => by have := HPL.out; omega)).trans HB0.out; have zb9 := (hx.2.block (w.heap.size + 1) (lt_of_block HZ.out) (fun e => by have := HPL.out; omega)).trans HZ.out; have HB0 := Lib.hid xb9; have HZ := Lib.hid zb9; obtain ⟨m0, m1, m2, m3, m4, m5, mr0, mr1, mr2, mr3, mr4, mr5⟩ := cf6 xb9; obtain ⟨n0, n1, n2, n3, n4, n5, nr0, nr1, nr2, nr3, nr4, nr5⟩ := cf6 zb9; clear xb9 zb9;  have HZ4 := Lib.hid HZ.out; have HN4 := Lib.hid (HND.out.turns (D' := fun b => (D b ∧ b < w.heap.size) ∨ w.heap.size + 2 ≤ b) hx.2 (fun b z _ e => z.elim (fun y => HD.out b y.1 e) (fun y => by have := HPL.out; have e9 : b = pb := e; omega)) (fun _ z => z)); have HX4 := Lib.hid (HX.out.go hx); clear hx))
   go_region_with (first | (go_at_call 23; (with_reducible refine (take_any (HX4.out.1.below bel) HOK.out HIL.out HT.out).mono ?_); rintro e w5 ⟨rfl, hx⟩; have xb9 := PT.keepB bel hx HB0.out (by have := HPL.out; omega); have zb9 := PT.keepB bel hx HZ.out (by have := HPL.out; omega); have HB5 := Lib.hid xb9; have HZ5 := Lib.hid zb9; have xa9 := ((Below.refl _ _).alloc (Nat.le_refl _) (.cells #[.int .i64 x'.kind, .string x'.text, .int .i64 x'.num, .slice q'.pn x'.names.length q'.cn, .slice q'.pt x'.temps.length q'.ct, .slice q'.pk x'.kids.length q'.ck] 25) |>.block _ (lt_of_block xb9)).trans xb9; have m0 : w5.cell? ⟨w.heap.size, 0, none⟩ = some (.int .i64 x'.kind) := cell_in xb9 rfl; have mr0 : w5.frozen? ⟨w.heap.size, 0, none⟩ = false := (by simp [World.frozen?, xb9]); have ma0 : (w5.alloc (.cells #[.int .i64 x'.kind, .string x'.text, .int .i64 x'.num, .slice q'.pn x'.names.length q'.cn, .slice q'.pt x'.temps.length q'.ct, .slice q'.pk x'.kids.length q'.ck] 25)).cell? ⟨w.heap.size, 0, none⟩ = some (.int .i64 x'.kind) := cell_in xa9 rfl; have mar0 : (w5.alloc (.cells #[.int .i64 x'.kind, .string x'.text, .int .i64 x'.num, .slice q'.pn x'.names.length q'.cn, .slice q'.pt x'.temps.length q'.ct, .slice q'.pk x'.kids.length q'.ck] 25)).frozen? ⟨w.heap.size, 0, none⟩ = false := (by simp [World.frozen?, xa9]); have m1 : w5.cell? ⟨w.heap.size, 1, none⟩ = some (.string x'.text) := cell_in xb9 rfl; have mr1 : w5.frozen? ⟨w.heap.size, 1, none⟩ = false := (by simp [World.frozen?, xb9]); have ma1 : (w5.alloc (.cells #[.int .i64 x'.kind, .string x'.text, .int .i64 x'.num, .slice q'.pn x'.names.length q'.cn, .slice q'.pt x'.temps.length q'.ct, .slice q'.pk x'.kids.length q'.ck] 25)).cell? ⟨w.heap.size, 1, none⟩ = some (.string x'.text) := cell_in xa9 rfl; have mar1 : (w5.alloc (.cells #[.int .i64 x'.kind, .string x'.text, .int .i64 x'.num, .slice q'.pn x'.names.length q'.cn, .slice q'.pt x'.temps.length q'.ct, .slice q'.pk x'.kids.length q'.ck] 25)).frozen? ⟨w.heap.size, 1, none⟩ = false := (by simp [World.frozen?, xa9]); have m2 : w5.cell? ⟨w.heap.size, 2, none⟩ = some (.int .i64 x'.num) := cell_in xb9 rfl; have mr2 : w5.frozen? ⟨w.heap.size, 2, none⟩ = false := (by simp [World.frozen?, xb9]); have ma2 : (w5.alloc (.cells #[.int .i64 x'.kind, .string x'.text, .int .i64 x'.num, .slice q'.pn x'.names.length q'.cn, .slice q'.pt x'.temps.length q'.ct, .slice q'.pk x'.kids.length q'.ck] 25)).cell? ⟨w.heap.size, 2, none⟩ = some (.int .i64 x'.num) := cell_in xa9 rfl; have mar2 : (w5.alloc (.cells #[.int .i64 x'.kind, .string x'.text, .int .i64 x'.num, .slice q'.pn x'.names.length q'.cn, .slice q'.pt x'.temps.length q'.ct, .slice q'.pk x'.kids.length q'.ck] 25)).frozen? ⟨w.heap.size, 2, none⟩ = false := (by simp [World.frozen?, xa9]); have m3 : w5.cell? ⟨w.heap.size, 3, none⟩ = some (.slice q'.pn x'.names.length q'.cn) := cell_in xb9 rfl; have mr3 : w5.frozen? ⟨w.heap.size, 3, none⟩ = false := (by simp [World.frozen?, xb9]); have ma3 : (w5.alloc (.cells #[.int .i64 x'.kind, .string x'.text, .int .i64 x'.num, .slice q'.pn x'.names.length q'.cn, .slice q'.pt x'.temps.length q'.ct, .slice q'.pk x'.kids.length q'.ck] 25)).cell? ⟨w.heap.size, 3, none⟩ = some (.slice q'.pn x'.names.length q'.cn) := cell_in xa9 rfl; have mar3 : (w5.alloc (.cells #[.int .i64 x'.kind, .string x'.text, .int .i64 x'.num, .slice q'.pn x'.names.length q'.cn, .slice q'.pt x'.temps.length q'.ct, .slice q'.pk x'.kids.length q'.ck] 25)).frozen? ⟨w.heap.size, 3, none⟩ = false := (by simp [World.frozen?, xa9]); have m4 : w5.cell? ⟨w.heap.size, 4, none⟩ = some (.slice q'.pt x'.temps.length q'.ct) := cell_in xb9 rfl; have mr4 : w5.frozen? ⟨w.heap.size, 4, none⟩ = false := (by simp [World.frozen?, xb9]); have ma4 : (w5.alloc (.cells #[.int .i64 x'.kind, .string x'.text, .int .i64 x'.num, .slice q'.pn x'.names.length q'.cn, .slice q'.pt x'.temps.length q'.ct, .slice q'.pk x'.kids.length q'.ck] 25)).cell? ⟨w.heap.size, 4, none⟩ = some (.slice q'.pt x'.temps.length q'.ct) := cell_in xa9 rfl; have mar4 : (w5.alloc (.cells #[.int .i64 x'.kind, .string x'.text, .int .i64 x'.num, .slice q'.pn x'.names.length q'.cn, .slice q'.pt x'.temps.length q'.ct, .slice q'.pk x'.kids.length q'.ck] 25)).frozen? ⟨w.heap.size, 4, none⟩ = false := (by simp [World.frozen?, xa9]); have m5 : w5.cell? ⟨w.heap.size, 5, none⟩ = some (.slice q'.pk x'.kids.length q'.ck) := cell_in xb9 rfl; have mr5 : w5.frozen? ⟨w.heap.size, 5, none⟩ = false := (by simp [World.frozen?, xb9]); have ma5 : (w5.alloc (.cells #[.int .i64 x'.kind, .string x'.text, .int .i64 x'.num, .slice q'.pn x'.names.length q'.cn, .slice q'.pt x'.temps.length q'.ct, .slice q'.pk x'.kids.length q'.ck] 25)).cell? ⟨w.heap.size, 5, none⟩ = some (.slice q'.pk x'.kids.length q'.ck) := cell_in xa9 rfl; have mar5 : (w5.alloc (.cells #[.int .i64 x'.kind, .string x'.text, .int .i64 x'.num, .slice q'.pn x'.names.length q'.cn, .slice q'.pt x'.temps.length q'.ct, .slice q'.pk x'.kids.length q'.ck] 25)).frozen? ⟨w.heap.size, 5, none⟩ = false := (by simp [World.frozen?, xa9]); have HN5 := Lib.hid (PT.keepN bel hx HN4.out (fun b z e => z.elim (fun y => HD.out b y.1 e) (fun y => by have := HPL.out; omega))); have HX5 := Lib.hid ((HX4.out.below bel).go hx); have HXR := Lib.hid hx; have hsz5 := lt_of_block xb9; clear hx xb9 zb9 xa9))
   all_goals
    go_wp2_with fail
    go_roundg (gk - 1)
    case measure => have := HG.out; have := HLT.out; omega
    case rel =>
     first
     | (
       obtain ⟨U, hU⟩ : ∃ U, U = ((((((w5.setCell ⟨w.heap.size, 0, none⟩ (.int .i64 7)).setCell ⟨w.heap.size, 1, none⟩ (.string (tx t))).setCell ⟨w.heap.size, 2, none⟩ (.int .i64 0)).setCell ⟨w.heap.size, 3, none⟩ (.slice none 0 0)).setCell ⟨w.heap.size, 4, none⟩ (.slice none 0 0)).setCell ⟨w.heap.size, 5, none⟩ (.slice (some ⟨w5.heap.size, 0, none⟩) 1 1)) := ⟨_, rfl⟩
       rw [← hU]
       have hT : Turns (fun k => k = w.heap.size) w5 U := by rw [hU]; exact six_turns (T := fun k => k = w.heap.size) (Turns.refl _ _) w.heap.size rfl
       have hB : U.heap[w.heap.size]? = some (.cells #[.int .i64 7, .string (tx t), .int .i64 0, .slice none 0 0, .slice none 0 0, .slice (some ⟨w5.heap.size, 0, none⟩) 1 1] 25 (0, 0)) := by rw [hU]; exact agg_set6 HB5.out
       have hsz : U.heap.size = w5.heap.size := by rw [hU]; simp
       have hw5 : w.heap.size + 2 ≤ w5.heap.size := by have h9 := lt_of_block HZ5.out; omega
       have hal := (Below.refl U.heap.size U).alloc (Nat.le_refl _) (.cells #[.int .i64 x'.kind, .string x'.text, .int .i64 x'.num, .slice q'.pn x'.names.length q'.cn, .slice q'.pt x'.temps.length q'.ct, .slice q'.pk x'.kids.length q'.ck] 25)
       have hpt : PT pb v T w U (takeT sk) := HX5.out.turned hT (fun k e => ⟨by omega, by have := HPL.out; omega, by rw [e]; exact HOLD.out⟩)
       have hnU : IsNd U (fun b => (D b ∧ b < w.heap.size) ∨ w.heap.size + 2 ≤ b) x' q' := HN5.out.turns hT (fun b z _ e => z.elim (fun y => by have := y.2; have e9 : b = w.heap.size := e; omega) (fun y => by have e9 : b = w.heap.size := e; omega)) (fun _ z => z)
       have hrow : (U.alloc (.cells #[.int .i64 x'.kind, .string x'.text, .int .i64 x'.num, .slice q'.pn x'.names.length q'.cn, .slice q'.pt x'.temps.length q'.ct, .slice q'.pk x'.kids.length q'.ck] 25)).heap[w5.heap.size]? = some (.cells #[.int .i64 x'.kind, .string x'.text, .int .i64 x'.num, .slice q'.pn x'.names.length q'.cn, .slice q'.pt x'.temps.length q'.ct, .slice q'.pk x'.kids.length q'.ck] 25 (0, 0)) := by
        rw [← hsz]; exact heap_alloc_new U _
       have hz9 := (hT.block _ (lt_of_block HZ5.out) (fun e => by have e9 : w.heap.size + 1 = w.heap.size := e; omega)).trans HZ5.out
       have hul : unL T (T.length + 1) x s = unL T (gk - 1) (.node 7 (tx t) 0 [] [] [x']) (takeT sk) := by
        have h9 : gk = (gk - 1) + 1 := by have := HG.out; have := HLT.out; omega
        rw [HUL.out, h9, unL, if_pos HB.out, HT.out, Nat.add_sub_cancel]
       exact ⟨.node 7 (tx t) 0 [] [] [x'], ⟨none, 0, none, 0, some ⟨w5.heap.size, 0, none⟩, 1⟩, takeT sk, hpt.below hal, (hal.block _ (lt_of_block (hB))).trans (hB), (hal.block _ (lt_of_block (hz9))).trans (hz9), IsNd.one ⟨by decide, by decide⟩ ⟨by decide, by decide⟩ (tx_size HOK.out HT.out) hrow (.inr hw5) (hnU.under hal), hul, by show T.length < _ + (sk.i + 1); have := HG.out; have := HLT.out; omega, HLT.out⟩
      )
     | (
       obtain ⟨U, hU⟩ : ∃ U, U = ((((((w5.setCell ⟨w.heap.size, 0, none⟩ (.int .i64 7)).setCell ⟨w.heap.size, 1, none⟩ (.string (tx t))).setCell ⟨w.heap.size, 2, none⟩ (.int .i64 0)).setCell ⟨w.heap.size, 3, none⟩ (.slice none 0 0)).setCell ⟨w.heap.size, 4, none⟩ (.slice none 0 0)).setCell ⟨w.heap.size, 5, none⟩ (.slice (some ⟨w4.heap.size, 0, none⟩) 1 1)) := ⟨_, rfl⟩
       rw [← hU]
       have hT : Turns (fun k => k = w.heap.size) w5 U := by rw [hU]; exact six_turns (T := fun k => k = w.heap.size) (Turns.refl _ _) w.heap.size rfl
       have hB : U.heap[w.heap.size]? = some (.cells #[.int .i64 7, .string (tx t), .int .i64 0, .slice none 0 0, .slice none 0 0, .slice (some ⟨w4.heap.size, 0, none⟩) 1 1] 25 (0, 0)) := by rw [hU]; exact agg_set6 HB5.out
       have hsz : U.heap.size = w5.heap.size := by rw [hU]; simp
       have hw5 : w.heap.size + 2 ≤ w4.heap.size := by have h9 := lt_of_block HZ.out; have h8 := lt_of_block HZ4.out; omega
       have hal := (Below.refl U.heap.size U).alloc (Nat.le_refl _) (.cells #[.int .i64 x'.kind, .string x'.text, .int .i64 x'.num, .slice q'.pn x'.names.length q'.cn, .slice q'.pt x'.temps.length q'.ct, .slice q'.pk x'.kids.length q'.ck] 25)
       have hpt : PT pb v T w U (takeT sk) := HX5.out.turned hT (fun k e => ⟨by omega, by have := HPL.out; omega, by rw [e]; exact HOLD.out⟩)
       have hnU : IsNd U (fun b => (D b ∧ b < w.heap.size) ∨ w.heap.size + 2 ≤ b) x' q' := HN5.out.turns hT (fun b z _ e => z.elim (fun y => by have := y.2; have e9 : b = w.heap.size := e; omega) (fun y => by have e9 : b = w.heap.size := e; omega)) (fun _ z => z)
       have hrow : U.heap[w4.heap.size]? = some (.cells #[.int .i64 x'.kind, .string x'.text, .int .i64 x'.num, .slice q'.pn x'.names.length q'.cn, .slice q'.pt x'.temps.length q'.ct, .slice q'.pk x'.kids.length q'.ck] 25 (0, 0)) := by
        refine (hT.block _ (Nat.lt_of_lt_of_le (by rw [World.size_drew, World.size_alloc]; exact Nat.lt_succ_self _) HXR.out.2.size) (fun e => by have e9 : w4.heap.size = w.heap.size := e; omega)).trans ((HXR.out.2.block _ (by simp) (fun e => by have h7 := lt_of_block HX4.out.1.box; have e9 : w4.heap.size = pb := e; omega)).trans (heap_alloc_new w4 _))
       have hz9 := (hT.block _ (lt_of_block HZ5.out) (fun e => by have e9 : w.heap.size + 1 = w.heap.size := e; omega)).trans HZ5.out
       have hul : unL T (T.length + 1) x s = unL T (gk - 1) (.node 7 (tx t) 0 [] [] [x']) (takeT sk) := by
        have h9 : gk = (gk - 1) + 1 := by have := HG.out; have := HLT.out; omega
        rw [HUL.out, h9, unL, if_pos HB.out, HT.out, Nat.add_sub_cancel]
       exact ⟨.node 7 (tx t) 0 [] [] [x'], ⟨none, 0, none, 0, some ⟨w4.heap.size, 0, none⟩, 1⟩, takeT sk, hpt, hB, hz9, IsNd.one ⟨by decide, by decide⟩ ⟨by decide, by decide⟩ (tx_size HOK.out HT.out) hrow (.inr hw5) (hnU), hul, by show T.length < _ + (sk.i + 1); have := HG.out; have := HLT.out; omega, HLT.out⟩
      )
  | false =>
   have hq : unL T (T.length + 1) x s = (x', sk) := by
    rw [HUL.out]
    cases gk with
    | zero => rfl
    | succ g => rw [unL, if_neg (by rw [HB.out]; decide)]
   have HE : Hid (unT T x s = (x', sk)) := Lib.hid hq
   clear hq
   go_wp2_with (first | (go_at_call 22; (with_reducible refine (is_at HX.out.1.pt bel HOK.out 1 eB).mono ?_); rw [HB.out]; rintro e w4 ⟨rfl, hx⟩; have xb9 := (hx.2.block w.heap.size (lt_of_block HB0.out) (fun e => by have := HPL.out; omega)).trans HB0.out; have zb9 := (hx.2.block (w.heap.size + 1) (lt_of_block HZ.out) (fun e => by have := HPL.out; omega)).trans HZ.out; have HB0 := Lib.hid xb9; have HZ := Lib.hid zb9; obtain ⟨m0, m1, m2, m3, m4, m5, mr0, mr1, mr2, mr3, mr4, mr5⟩ := cf6 xb9; obtain ⟨n0, n1, n2, n3, n4, n5, nr0, nr1, nr2, nr3, nr4, nr5⟩ := cf6 zb9; clear xb9 zb9;  have HZ4 := Lib.hid HZ.out; have HN4 := Lib.hid (HND.out.turns (D' := fun b => (D b ∧ b < w.heap.size) ∨ w.heap.size + 2 ≤ b) hx.2 (fun b z _ e => z.elim (fun y => HD.out b y.1 e) (fun y => by have := HPL.out; have e9 : b = pb := e; omega)) (fun _ z => z)); have HX4 := Lib.hid (HX.out.go hx); clear hx))
   obtain ⟨W9, hW9⟩ : ∃ W9, W9 = ((((((w4.setCell ⟨w.heap.size + 1, 0, none⟩ (.int .i64 x'.kind)).setCell ⟨w.heap.size + 1, 1, none⟩ (.string x'.text)).setCell ⟨w.heap.size + 1, 2, none⟩ (.int .i64 x'.num)).setCell ⟨w.heap.size + 1, 3, none⟩ (.slice q'.pn x'.names.length q'.cn)).setCell ⟨w.heap.size + 1, 4, none⟩ (.slice q'.pt x'.temps.length q'.ct)).setCell ⟨w.heap.size + 1, 5, none⟩ (.slice q'.pk x'.kids.length q'.ck)) := ⟨_, rfl⟩
   have h9 : W9.heap[w.heap.size + 1]? = some (.cells #[.int .i64 x'.kind, .string x'.text, .int .i64 x'.num, .slice q'.pn x'.names.length q'.cn, .slice q'.pt x'.temps.length q'.ct, .slice q'.pk x'.kids.length q'.ck] 25 (0, 0)) := by rw [hW9]; exact agg_set6 HZ.out
   obtain ⟨z0, z1, z2, z3, z4, z5⟩ := cc6 h9
   have HT9 : Hid (Turns (fun k => k = w.heap.size + 1) w4 W9) := Lib.hid (by rw [hW9]; exact six_turns (T := fun k => k = w.heap.size + 1) (Turns.refl _ _) (w.heap.size + 1) rfl)
   rw [← hW9]
   clear hW9 h9
   refine bodyPost_ret (v := .agg #[.int .i64 x'.kind, .string x'.text, .int .i64 x'.num, .slice q'.pn x'.names.length q'.cn, .slice q'.pt x'.temps.length q'.ct, .slice q'.pk x'.kids.length q'.ck]) (by simp [results, Try.results39, go_sem, z0, z1, z2, z3, z4, z5]) rfl ?_
   rw [HE.out]
   refine ⟨q', rfl, HX4.out.turned HT9.out (fun k e => ⟨by omega, by have := HPL.out; omega, by rw [e]; exact HOLD1.out⟩), ?_⟩
   exact HN4.out.turns HT9.out (fun b z _ e => z.elim (fun y => by have := y.2; have e9 : b = w.heap.size + 1 := e; omega) (fun y => by have e9 : b = w.heap.size + 1 := e; omega)) (fun b z => z.elim (fun y => .inl y.1) (fun y => .inr (by omega)))
end Go.Proofs.Ytnojndgmgkgnpaa
/- Chapter 10: the reference's parser: binary sends. -/
namespace Go.Proofs.Ytnojndgmgkgnpaa
open Go.ChangeShapes Go.WideShapes Go.ChangeAt Go.RowKit Go.Deep Go.Joins Go.Maps
set_option linter.unusedVariables false
set_option linter.unusedSimpArgs false
/-- a row of nodes, as told -/
def RowP (pb : Nat) (v : Value) (T : Tks) (r : List NodT × PSt) (w : World) (e : Ending) (w' : World) : Prop := ∃ p c, e = .returned (.slice p r.1.length c) ∧ r.1.length ≤ c ∧ c ≤ maxLen ∧ PT pb v T w w' r.2 ∧ ∃ Q : Nat → NS, (∀ i (h : i < r.1.length), ∃ b off, p = some ⟨b, off, none⟩ ∧ b < w'.heap.size ∧ w.heap.size ≤ b ∧ Cells6 w' b (off + i * 6) r.1[i] (Q i)) ∧ ∀ i (h : i < r.1.length), IsNd w' (fun b => w.heap.size ≤ b) r.1[i] (Q i)
/-- a send without its receiver, as told -/
def MsgP (pb : Nat) (v : Value) (T : Tks) (r : NodT × PSt) (w : World) (e : Ending) (w' : World) : Prop := ∃ q, e = .returned (ndV r.1 q) ∧ (q.pk = none → q.ck = 0) ∧ PT pb v T w w' r.2 ∧ IsNd w' (fun b => w.heap.size ≤ b) r.1 q
/-- the parts that call one another, with fuel -/
structure PSpec (T : Tks) (f : Nat) : Prop where
 prim : ∀ {w : World} {pb : Nat} {v : Value} {s : PSt}, PW w pb v T s → s.i ≤ T.length → 8 * (T.length - s.i) + 1 < f → Calls Try.prog 38 #[.pointer (some ⟨pb, 0, none⟩)] w (NdP (fun _ => False) pb v T ((rcF T f).prim s) w)
 bin : ∀ {w : World} {pb : Nat} {v : Value} {s : PSt} {D : Nat → Prop} {x : NodT} {q : NS}, PW w pb v T s → s.i ≤ T.length → (∀ b, D b → b ≠ pb) → IsNd w D x q → 8 * (T.length - s.i) + 2 < f → Calls Try.prog 40 #[.pointer (some ⟨pb, 0, none⟩), ndV x q] w (NdP D pb v T ((rcF T f).bin x s) w)
 msg : ∀ {w : World} {pb : Nat} {v : Value} {s : PSt}, PW w pb v T s → s.i ≤ T.length → 8 * (T.length - s.i) + 3 < f → Calls Try.prog 42 #[.pointer (some ⟨pb, 0, none⟩)] w (MsgP pb v T ((rcF T f).msg s) w)
 kw : ∀ {w : World} {pb : Nat} {v : Value} {s : PSt} {D : Nat → Prop} {x : NodT} {q : NS}, PW w pb v T s → s.i ≤ T.length → (∀ b, D b → b ≠ pb) → IsNd w D x q → 8 * (T.length - s.i) + 4 < f → Calls Try.prog 41 #[.pointer (some ⟨pb, 0, none⟩), ndV x q] w (NdP D pb v T ((rcF T f).kw x s) w)
 expr : ∀ {w : World} {pb : Nat} {v : Value} {s : PSt}, PW w pb v T s → s.i ≤ T.length → 8 * (T.length - s.i) + 5 < f → Calls Try.prog 26 #[.pointer (some ⟨pb, 0, none⟩)] w (NdP (fun _ => False) pb v T ((rcF T f).expr s) w)
 lits : ∀ {w : World} {pb : Nat} {v : Value} {s : PSt}, PW w pb v T s → s.i < T.length → 8 * (T.length - s.i) + 0 < f → Calls Try.prog 49 #[.pointer (some ⟨pb, 0, none⟩)] w (NdP (fun _ => False) pb v T ((rcF T f).lits s) w)
 blk : ∀ {w : World} {pb : Nat} {v : Value} {s : PSt}, PW w pb v T s → s.i < T.length → 8 * (T.length - s.i) + 0 < f → Calls Try.prog 51 #[.pointer (some ⟨pb, 0, none⟩)] w (NdP (fun _ => False) pb v T ((rcF T f).blk s) w)
 stmts : ∀ {w : World} {pb : Nat} {v : Value} {s : PSt}, PW w pb v T s → s.i ≤ T.length → 8 * (T.length - s.i) + 6 < f → Calls Try.prog 16 #[.pointer (some ⟨pb, 0, none⟩)] w (RowP pb v T ((rcF T f).stmts s) w)
theorem TokOk.at0 {T : Tks} (h : TokOk T) : TokPos T := ⟨h.pos, h.last⟩
/-- a node over two kids, in a block of their own -/
theorem IsNd.two {w : World} {D : Nat → Prop} {k n : Int} {t : ByteArray} {x y : NodT} {q p : NS} {b : Nat} (hk : InI k) (hn : InI n) (ht : t.size ≤ big63) (hb : w.heap[b]? = some (.cells #[.int .i64 x.kind, .string x.text, .int .i64 x.num, .slice q.pn x.names.length q.cn, .slice q.pt x.temps.length q.ct, .slice q.pk x.kids.length q.ck, .int .i64 y.kind, .string y.text, .int .i64 y.num, .slice p.pn y.names.length p.cn, .slice p.pt y.temps.length p.ct, .slice p.pk y.kids.length p.ck] 25 (0, 0))) (hD : D b) (hx : IsNd w D x q) (hy : IsNd w D y p) : IsNd w D (.node k t n [] [] [x, y]) ⟨none, 0, none, 0, some ⟨b, 0, none⟩, 2⟩ := by
 refine IsNd.over (fun i => if i = 0 then q else p) hk hn ht ⟨Nat.le_refl _, by unfold maxLen; simp⟩ (fun i hi => ?_) (fun i hi => ?_)
 ·have e : i = 0 ∨ i = 1 := by simp at hi; omega
  rcases e with e | e
  ·subst e
   exact ⟨b, 0, rfl, lt_of_block hb, hD, ⟨cell_in hb rfl, cell_in hb rfl, cell_in hb rfl, cell_in hb rfl, cell_in hb rfl, cell_in hb rfl⟩⟩
  ·subst e
   exact ⟨b, 0, rfl, lt_of_block hb, hD, ⟨cell_in hb rfl, cell_in hb rfl, cell_in hb rfl, cell_in hb rfl, cell_in hb rfl, cell_in hb rfl⟩⟩
 ·have e : i = 0 ∨ i = 1 := by simp at hi; omega
  rcases e with e | e
  ·subst e
   exact hx
  ·subst e
   exact hy
set_option maxRecDepth 100000 in
set_option maxHeartbeats 16000000 in
theorem bin_go {f : Nat} {w : World} {pb : Nat} {v : Value} {T : Tks} {s : PSt} (hp : PSpec T f) (h : PW w pb v T s) (hok : TokOk T) (hi : s.i ≤ T.length) {D : Nat → Prop} (hD : ∀ b, D b → b ≠ pb) {x : NodT} {q : NS} (hx : IsNd w D x q) (hfu : 8 * (T.length - s.i) + 2 < f + 1) : Calls Try.prog 40 #[.pointer (some ⟨pb, 0, none⟩), ndV x q] w (NdP D pb v T (binS T (rcF T f) x s) w) := by
 have HOK := Lib.hid hok
 have HI := Lib.hid hi
 have HFU := Lib.hid hfu
 have hpl := lt_of_block h.box
 have H0 : Hid (PW ((w.alloc (.cells #[.int .i64 x.kind, .string x.text, .int .i64 x.num, .slice q.pn x.names.length q.cn, .slice q.pt x.temps.length q.ct, .slice q.pk x.kids.length q.ck] 25)).alloc (.cells #[.int .i64 0, .string eB, .int .i64 0, .slice none 0 0, .slice none 0 0, .slice none 0 0] 25)) pb v T s ∧ Below w.heap.size w ((w.alloc (.cells #[.int .i64 x.kind, .string x.text, .int .i64 x.num, .slice q.pn x.names.length q.cn, .slice q.pt x.temps.length q.ct, .slice q.pk x.kids.length q.ck] 25)).alloc (.cells #[.int .i64 0, .string eB, .int .i64 0, .slice none 0 0, .slice none 0 0, .slice none 0 0] 25)) ∧ (((w.alloc (.cells #[.int .i64 x.kind, .string x.text, .int .i64 x.num, .slice q.pn x.names.length q.cn, .slice q.pt x.temps.length q.ct, .slice q.pk x.kids.length q.ck] 25)).alloc (.cells #[.int .i64 0, .string eB, .int .i64 0, .slice none 0 0, .slice none 0 0, .slice none 0 0] 25)).heap[w.heap.size]? = some (.cells #[.int .i64 x.kind, .string x.text, .int .i64 x.num, .slice q.pn x.names.length q.cn, .slice q.pt x.temps.length q.ct, .slice q.pk x.kids.length q.ck] 25 (0, 0)) ∧ ((w.alloc (.cells #[.int .i64 x.kind, .string x.text, .int .i64 x.num, .slice q.pn x.names.length q.cn, .slice q.pt x.temps.length q.ct, .slice q.pk x.kids.length q.ck] 25)).alloc (.cells #[.int .i64 0, .string eB, .int .i64 0, .slice none 0 0, .slice none 0 0, .slice none 0 0] 25)).heap[w.heap.size + 1]? = some (.cells #[.int .i64 0, .string eB, .int .i64 0, .slice none 0 0, .slice none 0 0, .slice none 0 0] 25 (0, 0))) ∧ IsNd ((w.alloc (.cells #[.int .i64 x.kind, .string x.text, .int .i64 x.num, .slice q.pn x.names.length q.cn, .slice q.pt x.temps.length q.ct, .slice q.pk x.kids.length q.ck] 25)).alloc (.cells #[.int .i64 0, .string eB, .int .i64 0, .slice none 0 0, .slice none 0 0, .slice none 0 0] 25)) (fun b => (D b ∧ b < w.heap.size) ∨ w.heap.size + 2 ≤ b) x q) := Lib.hid (by
  have hb : Below w.heap.size w ((w.alloc (.cells #[.int .i64 x.kind, .string x.text, .int .i64 x.num, .slice q.pn x.names.length q.cn, .slice q.pt x.temps.length q.ct, .slice q.pk x.kids.length q.ck] 25)).alloc (.cells #[.int .i64 0, .string eB, .int .i64 0, .slice none 0 0, .slice none 0 0, .slice none 0 0] 25)) := bel
  have h1 := heap_alloc_new w (.cells #[.int .i64 x.kind, .string x.text, .int .i64 x.num, .slice q.pn x.names.length q.cn, .slice q.pt x.temps.length q.ct, .slice q.pk x.kids.length q.ck] 25)
  have h2 := heap_alloc_new (w.alloc (.cells #[.int .i64 x.kind, .string x.text, .int .i64 x.num, .slice q.pn x.names.length q.cn, .slice q.pt x.temps.length q.ct, .slice q.pk x.kids.length q.ck] 25)) (.cells #[.int .i64 0, .string eB, .int .i64 0, .slice none 0 0, .slice none 0 0, .slice none 0 0] 25)
  rw [World.size_alloc] at h2
  exact ⟨h.below hb, hb, ⟨((Below.refl _ _).alloc (Nat.le_refl _) _ |>.block _ (lt_of_block h1)).trans h1, h2⟩, hx.lt.same hb.size (fun b z _ => hb.block b z.2) (fun b z => .inl z)⟩)
 have HPL := Lib.hid hpl
 have HD := Lib.hid hD
 have HOLD := Lib.hid h.old
 have HOG : Hid (∀ k, v.ownBlock = some k → k < w.heap.size) := Lib.hid (fun k e => (World.ownsRow.lt h.row k e).2)
 have HOLD1 : Hid (v.ownBlock ≠ some (w.heap.size + 1)) := Lib.hid (fun e => by have := (World.ownsRow.lt h.row _ e).2; omega)
 unfold ndV
 clear h hok hi hx hD hfu
 go_enter Try.func40, Try.ntmps40
 go_wp2_with fail
 have h1 := H0.out
 obtain ⟨w1, hw1⟩ : ∃ w1, ((w.alloc (.cells #[.int .i64 x.kind, .string x.text, .int .i64 x.num, .slice q.pn x.names.length q.cn, .slice q.pt x.temps.length q.ct, .slice q.pk x.kids.length q.ck] 25)).alloc (.cells #[.int .i64 0, .string eB, .int .i64 0, .slice none 0 0, .slice none 0 0, .slice none 0 0] 25)) = w1 := ⟨_, rfl⟩
 rw [hw1] at h1 ⊢
 have HB1 := Lib.hid h1.2.1
 have HZ1 := Lib.hid h1.2.2.1.2
 clear hw1 H0
 go_loopg [] (T.length + 1) (fun g wr => ∃ (x' : NodT) (q' : NS) (sk : PSt), PT pb v T w wr sk ∧ wr.heap[w.heap.size]? = some (.cells #[.int .i64 x'.kind, .string x'.text, .int .i64 x'.num, .slice q'.pn x'.names.length q'.cn, .slice q'.pt x'.temps.length q'.ct, .slice q'.pk x'.kids.length q'.ck] 25 (0, 0)) ∧ wr.heap[w.heap.size + 1]? = some (.cells #[.int .i64 0, .string eB, .int .i64 0, .slice none 0 0, .slice none 0 0, .slice none 0 0] 25 (0, 0)) ∧ IsNd wr (fun b => (D b ∧ b < w.heap.size) ∨ w.heap.size + 2 ≤ b) x' q' ∧ binL T (rcF T f) (T.length + 1) x s = binL T (rcF T f) g x' sk ∧ T.length < g + sk.i ∧ sk.i ≤ T.length ∧ s.i ≤ sk.i)
 case atStart => exact ⟨x, q, s, ⟨h1.1, Turns.of_below HB1.out⟩, h1.2.2.1.1, h1.2.2.1.2, h1.2.2.2, rfl, by omega, HI.out, Nat.le_refl _⟩
 case round =>
  obtain ⟨x', q', sk, hpt, hb0, hb1, hnd, hul, hg, hil, hmo⟩ := hrel
  have HX := Lib.hid hpt
  have HB0 := Lib.hid hb0
  have HZ := Lib.hid hb1
  have HND := Lib.hid hnd
  have HUL := Lib.hid hul
  have HG := Lib.hid hg
  have HIL := Lib.hid hil
  have HMO := Lib.hid hmo
  obtain ⟨t, ht⟩ : ∃ t, ahd T sk 0 = t := ⟨_, rfl⟩
  have HT := Lib.hid ht
  obtain ⟨b, hb⟩ : ∃ b, isT T sk 3 eB = b := ⟨_, rfl⟩
  have HB := Lib.hid hb
  clear hpt hb0 hb1 hnd hul hg hil hmo ht hb h1
  have hf1 := tfld1
  cases b with
  | true =>
   have HLT := Lib.hid (isT_lt HB.out HOK.out (by decide))
   go_upto_region 2 with (first | (go_at_call 22; (with_reducible refine (is_at HX.out.1.pt bel HOK.out 3 eB).mono ?_); rw [HB.out]; rintro e w4 ⟨rfl, hx⟩; have hb9 := PT.keepB bel hx HB0.out (by have := HPL.out; omega); have hz9 := PT.keepB bel hx HZ.out (by have := HPL.out; omega); have hn9 := PT.keepN bel hx HND.out (fun b z e => z.elim (fun y => HD.out b y.1 e) (fun y => by have := HPL.out; omega)); have hx9 := (HX.out.below bel).go hx; clear HB0 HZ HND HX; have HB0 := Lib.hid hb9; have HZ := Lib.hid hz9; have HND := Lib.hid hn9; have HX := Lib.hid hx9; clear hx9 hz9 hn9; have hz9 := HZ.out; obtain ⟨m0, m1, m2, m3, m4, m5, mr0, mr1, mr2, mr3, mr4, mr5⟩ := cf6 (hb9); obtain ⟨n0, n1, n2, n3, n4, n5, nr0, nr1, nr2, nr3, nr4, nr5⟩ := cf6 (hz9); clear hx hb9 hz9))
   go_upto_region 3 with (first | (go_at_call 23; (with_reducible refine (take_any (HX.out.1.below bel) HOK.out HIL.out HT.out).mono ?_); rintro e w5 ⟨rfl, hx⟩; have hb9 := PT.keepB bel hx HB0.out (by have := HPL.out; omega); have hz9 := PT.keepB bel hx HZ.out (by have := HPL.out; omega); have hn9 := PT.keepN bel hx HND.out (fun b z e => z.elim (fun y => HD.out b y.1 e) (fun y => by have := HPL.out; omega)); have hx9 := (HX.out.below bel).go hx; clear HB0 HZ HND HX; have HB0 := Lib.hid hb9; have HZ := Lib.hid hz9; have HND := Lib.hid hn9; have HX := Lib.hid hx9; clear hx9 hz9 hn9; clear hx hb9))
   obtain ⟨⟨y, s6⟩, hr0⟩ : ∃ r, (rcF T f).prim (takeT sk) = r := ⟨_, rfl⟩
   have HR0 := Lib.hid hr0
   have hgp := (rcF_go HOK.out.at0 f).prim (takeT sk)
   rw [hr0] at hgp
   have HGP := Lib.hid hgp
   have HZ5 := HZ
   have HI5 : Hid ((takeT sk).i ≤ T.length) := Lib.hid HLT.out
   have HF5 : Hid (8 * (T.length - (takeT sk).i) + 1 < f) := Lib.hid (by have := HFU.out; have := HMO.out; have := HLT.out; show 8 * (T.length - (sk.i + 1)) + 1 < f; omega)
   clear hr0 hgp
   go_upto_region 4 with (first | (go_at_call 38; (with_reducible refine (hp.prim (HX.out.1.below bel) HI5.out HF5.out).mono ?_); rw [HR0.out]; rintro e w6 ⟨qy, rfl, hx, hny⟩; unfold ndV; have hb9 := PT.keepB bel hx HB0.out (by have := HPL.out; omega); have hz9 := PT.keepB bel hx HZ.out (by have := HPL.out; omega); have hn9 := PT.keepN bel hx HND.out (fun b z e => z.elim (fun y => HD.out b y.1 e) (fun y => by have := HPL.out; omega)); have hx9 := (HX.out.below bel).go hx; clear HB0 HZ HND HX; have HB0 := Lib.hid hb9; have HZ := Lib.hid hz9; have HND := Lib.hid hn9; have HX := Lib.hid hx9; clear hx9 hz9 hn9; have HNY := Lib.hid (hny.more (D' := fun b => w.heap.size + 2 ≤ b) (fun b z _ => z.elim False.elim (fun z => by have h9 := lt_of_block HZ5.out; have z9 : w5.heap.size ≤ b := z; omega))); clear hx hny hb9))
   have h7 := heap_alloc_new w6 (.cells #[.int .i64 y.kind, .string y.text, .int .i64 y.num, .slice qy.pn y.names.length qy.cn, .slice qy.pt y.temps.length qy.ct, .slice qy.pk y.kids.length qy.ck] 25)
   have hal := (Below.refl w6.heap.size w6).alloc (Nat.le_refl _) (.cells #[.int .i64 y.kind, .string y.text, .int .i64 y.num, .slice qy.pn y.names.length qy.cn, .slice qy.pt y.temps.length qy.ct, .slice qy.pk y.kids.length qy.ck] 25)
   have hs7 := World.size_alloc w6 (.cells #[.int .i64 y.kind, .string y.text, .int .i64 y.num, .slice qy.pn y.names.length qy.cn, .slice qy.pt y.temps.length qy.ct, .slice qy.pk y.kids.length qy.ck] 25)
   have hn6 : w.heap.size + 2 ≤ w6.heap.size := by have h9 := lt_of_block HZ.out; omega
   have hx7 := HX.out.below hal
   have hb7 := (hal.block _ (lt_of_block HB0.out)).trans HB0.out
   have hz7 := (hal.block _ (lt_of_block HZ.out)).trans HZ.out
   have hnd7 := (HND.out.lt.same hal.size (fun b z hl => hal.block b hl) (fun b z => z)).more (D' := (fun b => ((D b ∧ b < w.heap.size) ∨ w.heap.size + 2 ≤ b) ∧ b ≠ w6.heap.size)) (fun b z _ => ⟨z.1, by have := z.2; omega⟩)
   have hny7 := (HNY.out.lt.same hal.size (fun b z hl => hal.block b hl) (fun b z => z)).more (D' := (fun b => w.heap.size + 2 ≤ b ∧ b ≠ w6.heap.size)) (fun b z _ => ⟨z.1, by have := z.2; omega⟩)
   obtain ⟨w7, hw7⟩ : ∃ w7, w6.alloc (.cells #[.int .i64 y.kind, .string y.text, .int .i64 y.num, .slice qy.pn y.names.length qy.cn, .slice qy.pt y.temps.length qy.ct, .slice qy.pk y.kids.length qy.ck] 25) = w7 := ⟨_, rfl⟩
   rw [hw7] at h7 hs7 hx7 hb7 hz7 hnd7 hny7 ⊢
   clear HB0 HZ HND HX HNY hal hw7
   have HB0 := Lib.hid hb7
   have HZ := Lib.hid hz7
   have HND := Lib.hid hnd7
   have HX := Lib.hid hx7
   have HNY := Lib.hid hny7
   have HB6 := Lib.hid h7
   have HN6 := Lib.hid hn6
   have HS7 := Lib.hid hs7
   have HI6 := Lib.hid (HGP.out.go.top HI5.out)
   have HM6 := Lib.hid HGP.out.go.le
   obtain ⟨⟨y2, s8⟩, hr1⟩ : ∃ r, unT T y s6 = r := ⟨_, rfl⟩
   have HR1 := Lib.hid hr1
   have hgq := un_gp HOK.out.at0 y s6 HGP.out.kids
   rw [hr1] at hgq
   have HGQ := Lib.hid hgq
   obtain ⟨m0, m1, m2, m3, m4, m5, mr0, mr1, mr2, mr3, mr4, mr5⟩ := cf6 (h7)
   clear hb7 hz7 hnd7 hny7 hx7 hn6 hs7 h7 hr1 hgq
   go_upto_region 5 with (first | (go_at_call 39; have hu := un_any HX.out.1 HOK.out HI6.out (fun b z e => by have h9 : w.heap.size + 2 ≤ b := z.1; have := HPL.out; omega) HNY.out; unfold ndV at hu; (with_reducible refine hu.mono ?_); rw [HR1.out]; rintro e w8 ⟨q2, rfl, hx, hn8⟩; unfold ndV; have hb6 := PT.keepB (Below.refl _ _) hx HB6.out (by have := HPL.out; have := HN6.out; omega); have HB8 := Lib.hid hb6; have hb9 := PT.keepB (Below.refl _ _) hx HB0.out (by have := HPL.out; omega); have hz9 := PT.keepB (Below.refl _ _) hx HZ.out (by have := HPL.out; omega); have hn9 := PT.keepN (Below.refl _ _) hx HND.out (fun b z e => z.1.elim (fun y => HD.out b y.1 e) (fun y => by have := HPL.out; omega)); have hx9 := HX.out.go hx; clear HB0 HZ HND HX; have HB0 := Lib.hid hb9; have HZ := Lib.hid hz9; have HND := Lib.hid hn9; have HX := Lib.hid hx9; clear hx9 hz9 hn9; have HN8 := Lib.hid (hn8.more (D' := (fun b => w.heap.size + 2 ≤ b ∧ b ≠ w6.heap.size)) (fun b z _ => z.elim id (fun z => by have h9 : w7.heap.size ≤ b := z; have := HN6.out; have := HS7.out; exact ⟨by omega, by omega⟩))); obtain ⟨m0, m1, m2, m3, m4, m5, mr0, mr1, mr2, mr3, mr4, mr5⟩ := cf6 (hb6); clear hx hn8 hb6 hb9))
   have hT9 : Turns (fun k => k = w6.heap.size) w8 ((((((w8.setCell ⟨w6.heap.size, 0, none⟩ (.int .i64 y2.kind)).setCell ⟨w6.heap.size, 1, none⟩ (.string y2.text)).setCell ⟨w6.heap.size, 2, none⟩ (.int .i64 y2.num)).setCell ⟨w6.heap.size, 3, none⟩ (.slice q2.pn y2.names.length q2.cn)).setCell ⟨w6.heap.size, 4, none⟩ (.slice q2.pt y2.temps.length q2.ct)).setCell ⟨w6.heap.size, 5, none⟩ (.slice q2.pk y2.kids.length q2.ck)) := six_turns (T := fun k => k = w6.heap.size) (Turns.refl _ _) w6.heap.size rfl
   have h9 : ((((((w8.setCell ⟨w6.heap.size, 0, none⟩ (.int .i64 y2.kind)).setCell ⟨w6.heap.size, 1, none⟩ (.string y2.text)).setCell ⟨w6.heap.size, 2, none⟩ (.int .i64 y2.num)).setCell ⟨w6.heap.size, 3, none⟩ (.slice q2.pn y2.names.length q2.cn)).setCell ⟨w6.heap.size, 4, none⟩ (.slice q2.pt y2.temps.length q2.ct)).setCell ⟨w6.heap.size, 5, none⟩ (.slice q2.pk y2.kids.length q2.ck)).heap[w6.heap.size]? = some (.cells #[.int .i64 y2.kind, .string y2.text, .int .i64 y2.num, .slice q2.pn y2.names.length q2.cn, .slice q2.pt y2.temps.length q2.ct, .slice q2.pk y2.kids.length q2.ck] 25 (0, 0)) := agg_set6 HB8.out
   obtain ⟨w9, hw9⟩ : ∃ w9, ((((((w8.setCell ⟨w6.heap.size, 0, none⟩ (.int .i64 y2.kind)).setCell ⟨w6.heap.size, 1, none⟩ (.string y2.text)).setCell ⟨w6.heap.size, 2, none⟩ (.int .i64 y2.num)).setCell ⟨w6.heap.size, 3, none⟩ (.slice q2.pn y2.names.length q2.cn)).setCell ⟨w6.heap.size, 4, none⟩ (.slice q2.pt y2.temps.length q2.ct)).setCell ⟨w6.heap.size, 5, none⟩ (.slice q2.pk y2.kids.length q2.ck)) = w9 := ⟨_, rfl⟩
   rw [hw9] at h9 hT9 ⊢
   have hn6 := HN6.out
   have hb9 := (hT9.block _ (lt_of_block HB0.out) (fun e => by have e9 : w.heap.size = w6.heap.size := e; omega)).trans HB0.out
   have hz9 := (hT9.block _ (lt_of_block HZ.out) (fun e => by have e9 : w.heap.size + 1 = w6.heap.size := e; omega)).trans HZ.out
   have hx9 : PT pb v T w w9 s8 := HX.out.turned hT9 (fun k e => by have e9 : k = w6.heap.size := e; exact ⟨by omega, by have := HPL.out; omega, fun z => by have := HOG.out k z; omega⟩)
   have hnd9 := HND.out.turns hT9 (fun b z _ e => z.2 e) (fun _ z => z)
   have hny9 := HN8.out.turns hT9 (fun b z _ e => z.2 e) (fun _ z => z)
   have hal9 := (Below.refl w9.heap.size w9).alloc (Nat.le_refl _) (.cells #[.int .i64 x'.kind, .string x'.text, .int .i64 x'.num, .slice q'.pn x'.names.length q'.cn, .slice q'.pt x'.temps.length q'.ct, .slice q'.pk x'.kids.length q'.ck, .int .i64 y2.kind, .string y2.text, .int .i64 y2.num, .slice q2.pn y2.names.length q2.cn, .slice q2.pt y2.temps.length q2.ct, .slice q2.pk y2.kids.length q2.ck] 25)
   have hba := (hal9.block _ (lt_of_block hb9)).trans hb9
   obtain ⟨mx0, mx1, mx2, mx3, mx4, mx5, mxr0, mxr1, mxr2, mxr3, mxr4, mxr5⟩ := cf6 (hb9)
   obtain ⟨my0, my1, my2, my3, my4, my5, myr0, myr1, myr2, myr3, myr4, myr5⟩ := cf6 (h9)
   obtain ⟨mz0, mz1, mz2, mz3, mz4, mz5, mzr0, mzr1, mzr2, mzr3, mzr4, mzr5⟩ := cf6 (hba)
   clear hw9 m0 mr0 m1 mr1 m2 mr2 m3 mr3 m4 mr4 m5 mr5
   have HB9 := Lib.hid hb9
   have HZ9 := Lib.hid hz9
   have HX9 := Lib.hid hx9
   have HND9 := Lib.hid hnd9
   have HNY9 := Lib.hid hny9
   have HAL := Lib.hid hal9
   have HBA := Lib.hid hba
   clear hb9 hz9 hx9 hnd9 hny9 hal9 hba h9 hT9 HB0 HZ HX HND HN8 HB8 HB6
   have HBI := HB
   clear HB
   go_wp2_with fail
   go_roundg (gk - 1)
   case measure => have := HG.out; have := HLT.out; omega
   case rel =>
    obtain ⟨U, hU⟩ : ∃ U, U = (((((((w9.alloc (.cells #[.int .i64 x'.kind, .string x'.text, .int .i64 x'.num, .slice q'.pn x'.names.length q'.cn, .slice q'.pt x'.temps.length q'.ct, .slice q'.pk x'.kids.length q'.ck, .int .i64 y2.kind, .string y2.text, .int .i64 y2.num, .slice q2.pn y2.names.length q2.cn, .slice q2.pt y2.temps.length q2.ct, .slice q2.pk y2.kids.length q2.ck] 25)).setCell ⟨w.heap.size, 0, none⟩ (.int .i64 7)).setCell ⟨w.heap.size, 1, none⟩ (.string (tx t))).setCell ⟨w.heap.size, 2, none⟩ (.int .i64 0)).setCell ⟨w.heap.size, 3, none⟩ (.slice none 0 0)).setCell ⟨w.heap.size, 4, none⟩ (.slice none 0 0)).setCell ⟨w.heap.size, 5, none⟩ (.slice (some ⟨w9.heap.size, 0, none⟩) 2 2)) := ⟨_, rfl⟩
    rw [← hU]
    have hT : Turns (fun k => k = w.heap.size) (w9.alloc (.cells #[.int .i64 x'.kind, .string x'.text, .int .i64 x'.num, .slice q'.pn x'.names.length q'.cn, .slice q'.pt x'.temps.length q'.ct, .slice q'.pk x'.kids.length q'.ck, .int .i64 y2.kind, .string y2.text, .int .i64 y2.num, .slice q2.pn y2.names.length q2.cn, .slice q2.pt y2.temps.length q2.ct, .slice q2.pk y2.kids.length q2.ck] 25)) U := by rw [hU]; exact six_turns (T := fun k => k = w.heap.size) (Turns.refl _ _) w.heap.size rfl
    have hB : U.heap[w.heap.size]? = some (.cells #[.int .i64 7, .string (tx t), .int .i64 0, .slice none 0 0, .slice none 0 0, .slice (some ⟨w9.heap.size, 0, none⟩) 2 2] 25 (0, 0)) := by rw [hU]; exact agg_set6 HBA.out
    have hn9 : w.heap.size + 2 ≤ w9.heap.size := by have h9 := lt_of_block HZ9.out; omega
    have hnew := heap_alloc_new w9 (.cells #[.int .i64 x'.kind, .string x'.text, .int .i64 x'.num, .slice q'.pn x'.names.length q'.cn, .slice q'.pt x'.temps.length q'.ct, .slice q'.pk x'.kids.length q'.ck, .int .i64 y2.kind, .string y2.text, .int .i64 y2.num, .slice q2.pn y2.names.length q2.cn, .slice q2.pt y2.temps.length q2.ct, .slice q2.pk y2.kids.length q2.ck] 25)
    have hrow := (hT.block _ (lt_of_block hnew) (fun e => by have e9 : w9.heap.size = w.heap.size := e; omega)).trans hnew
    have hpt : PT pb v T w U s8 := (HX9.out.below HAL.out).turned hT (fun k e => ⟨by have e9 : k = w.heap.size := e; omega, by have := HPL.out; have e9 : k = w.heap.size := e; omega, by have e9 : k = w.heap.size := e; rw [e9]; exact HOLD.out⟩)
    have hnU : IsNd U (fun b => (D b ∧ b < w.heap.size) ∨ w.heap.size + 2 ≤ b) x' q' := (HND9.out.under HAL.out).turns hT (fun b z _ e => z.1.elim (fun y => by have := y.2; have e9 : b = w.heap.size := e; omega) (fun y => by have e9 : b = w.heap.size := e; omega)) (fun _ z => z.1)
    have hyU : IsNd U (fun b => (D b ∧ b < w.heap.size) ∨ w.heap.size + 2 ≤ b) y2 q2 := (HNY9.out.under HAL.out).turns hT (fun b z _ e => by have := z.1; have e9 : b = w.heap.size := e; omega) (fun _ z => .inr z.1)
    have hz9 := (hT.block _ (lt_of_block ((HAL.out.block _ (lt_of_block HZ9.out)).trans HZ9.out)) (fun e => by have e9 : w.heap.size + 1 = w.heap.size := e; omega)).trans ((HAL.out.block _ (lt_of_block HZ9.out)).trans HZ9.out)
    have hul : binL T (rcF T f) (T.length + 1) x s = binL T (rcF T f) (gk - 1) (.node 7 (tx t) 0 [] [] [x', y2]) s8 := by
     have h9 : gk = (gk - 1) + 1 := by have := HG.out; have := HLT.out; omega
     rw [HUL.out, h9, binL, if_pos HBI.out, HT.out, HR0.out, Nat.add_sub_cancel]
     show binL T (rcF T f) (gk - 1) (.node 7 (tx t) 0 [] [] [x', (unT T y s6).1]) (unT T y s6).2 = _
     rw [HR1.out]
    have hg8 := HGQ.out.go.le
    have hm6 : sk.i + 1 ≤ s6.i := HM6.out
    have hg8' : s6.i ≤ s8.i := hg8
    exact ⟨.node 7 (tx t) 0 [] [] [x', y2], ⟨none, 0, none, 0, some ⟨w9.heap.size, 0, none⟩, 2⟩, s8, hpt, hB, hz9, IsNd.two ⟨by decide, by decide⟩ ⟨by decide, by decide⟩ (tx_size HOK.out HT.out) hrow (.inr hn9) hnU hyU, hul, by have := HG.out; omega, HGQ.out.go.top HI6.out, by have := HMO.out; omega⟩
  | false =>
   have hq : binL T (rcF T f) (T.length + 1) x s = (x', sk) := by
    rw [HUL.out]
    cases gk with
    | zero => rfl
    | succ g => rw [binL, if_neg (by rw [HB.out]; decide)]
   have HE : Hid (binS T (rcF T f) x s = (x', sk)) := Lib.hid hq
   clear hq
   go_wp2_with (first | (go_at_call 22; (with_reducible refine (is_at HX.out.1.pt bel HOK.out 3 eB).mono ?_); rw [HB.out]; rintro e w4 ⟨rfl, hx⟩; have hb9 := PT.keepB bel hx HB0.out (by have := HPL.out; omega); have hz9 := PT.keepB bel hx HZ.out (by have := HPL.out; omega); have hn9 := PT.keepN bel hx HND.out (fun b z e => z.elim (fun y => HD.out b y.1 e) (fun y => by have := HPL.out; omega)); have hx9 := (HX.out.below bel).go hx; clear HB0 HZ HND HX; have HB0 := Lib.hid hb9; have HZ := Lib.hid hz9; have HND := Lib.hid hn9; have HX := Lib.hid hx9; clear hx9 hz9 hn9; have hz9 := HZ.out; obtain ⟨m0, m1, m2, m3, m4, m5, mr0, mr1, mr2, mr3, mr4, mr5⟩ := cf6 (hb9); obtain ⟨n0, n1, n2, n3, n4, n5, nr0, nr1, nr2, nr3, nr4, nr5⟩ := cf6 (hz9); clear hx hb9 hz9))
   obtain ⟨W9, hW9⟩ : ∃ W9, W9 = ((((((w4.setCell ⟨w.heap.size + 1, 0, none⟩ (.int .i64 x'.kind)).setCell ⟨w.heap.size + 1, 1, none⟩ (.string x'.text)).setCell ⟨w.heap.size + 1, 2, none⟩ (.int .i64 x'.num)).setCell ⟨w.heap.size + 1, 3, none⟩ (.slice q'.pn x'.names.length q'.cn)).setCell ⟨w.heap.size + 1, 4, none⟩ (.slice q'.pt x'.temps.length q'.ct)).setCell ⟨w.heap.size + 1, 5, none⟩ (.slice q'.pk x'.kids.length q'.ck)) := ⟨_, rfl⟩
   have h9 : W9.heap[w.heap.size + 1]? = some (.cells #[.int .i64 x'.kind, .string x'.text, .int .i64 x'.num, .slice q'.pn x'.names.length q'.cn, .slice q'.pt x'.temps.length q'.ct, .slice q'.pk x'.kids.length q'.ck] 25 (0, 0)) := by rw [hW9]; exact agg_set6 HZ.out
   obtain ⟨z0, z1, z2, z3, z4, z5⟩ := cc6 h9
   have HT9 : Hid (Turns (fun k => k = w.heap.size + 1) w4 W9) := Lib.hid (by rw [hW9]; exact six_turns (T := fun k => k = w.heap.size + 1) (Turns.refl _ _) (w.heap.size + 1) rfl)
   rw [← hW9]
   clear hW9 h9
   refine bodyPost_ret (v := .agg #[.int .i64 x'.kind, .string x'.text, .int .i64 x'.num, .slice q'.pn x'.names.length q'.cn, .slice q'.pt x'.temps.length q'.ct, .slice q'.pk x'.kids.length q'.ck]) (by simp [results, Try.results40, go_sem, z0, z1, z2, z3, z4, z5]) rfl ?_
   rw [HE.out]
   refine ⟨q', rfl, HX.out.turned HT9.out (fun k e => ⟨by omega, by have := HPL.out; omega, by rw [e]; exact HOLD1.out⟩), ?_⟩
   exact HND.out.turns HT9.out (fun b z _ e => z.elim (fun y => by have := y.2; have e9 : b = w.heap.size + 1 := e; omega) (fun y => by have e9 : b = w.heap.size + 1 := e; omega)) (fun b z => z.elim (fun y => .inl y.1) (fun y => .inr (by omega)))
end Go.Proofs.Ytnojndgmgkgnpaa
