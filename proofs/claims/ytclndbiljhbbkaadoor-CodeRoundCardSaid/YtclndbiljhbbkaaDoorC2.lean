/- Chapter 09: instructions put as bytes. -/
import Derived.Test.YtclndbiljhbbkaaDoorC1
import Derived.Deep.RegionHeldLaw
import Derived.OwnWalk
import Derived.Laws.OwnMore
namespace Go.Proofs.YtclndbiljhbbkaaDoor
open Go.ChangeShapes Go.WideShapes Go.ChangeAt Go.RowKit Go.Deep Go.Joins
set_option linter.unusedVariables false
set_option linter.unusedSimpArgs false
theorem infoB : (Tryd.prog.info? 5).map (fun i => (i.zero, i.size, i.bytes)) = some (some (.int .u8 0), 1, 1) := by kernel_rfl
/-- bytes of the call's own -/
def BInts (w : World) (base : Nat) (v : Value) (zs : List Int) : Prop := w.ownsRow base 5 1 v zs.length (zs.map (Value.int .u8))
theorem BInts.nil (w : World) (base : Nat) : BInts w base (.slice none 0 0) [] := World.ownsRow_nil _ _ _ _
theorem BInts.below {w w' : World} {base : Nat} {v : Value} {zs : List Int} (h : BInts w base v zs) (hb : Below w.heap.size w w') : BInts w' base v zs := ownsRow_below h hb
theorem news_u8 {w : World} {B : Nat} {ns : List Int} (hc : ∀ j (hj : j < ns.length), w.cell? ⟨B, j, none⟩ = some (.int .u8 ns[j])) : ∀ (j : Nat) (u : Value), (ns.map (Value.int .u8))[j]? = some u → w.cell? ((⟨B, 0, none⟩ : Addr).add j) = some u := fun j u hu => by
  rw [List.getElem?_map] at hu
  have hj : j < ns.length := by
    rcases Nat.lt_or_ge j ns.length with h | h
    · exact h
    · rw [List.getElem?_eq_none h] at hu; cases hu
  rw [List.getElem?_eq_getElem hj] at hu
  cases hu
  rw [add_plain, Nat.zero_add]; exact hc j hj
theorem wpList_bytes {w : World} {ops : Array Oper} {rest : List Oper} {o : Oper} {a : Act} {Q : Exit → Act → World → Prop} (hgd : o.guard = none) (s x : Operand)
    (ho : o.op = .call { callee := .builtin .append, args := #[s, x], argTypes := #[24, 24] })
    (base : Nat) (v : Value) (zs : List Int) (hs : a.eval s = v) (hown : BInts w base v zs) {B m c : Nat} {ns : List Int}
    (hx : a.eval x = .slice (some ⟨B, 0, none⟩) m c) (hl : ns.length = m) (hc : ∀ j (hj : j < ns.length), w.cell? ⟨B, j, none⟩ = some (.int .u8 ns[j])) (hb : zs.length + m ≤ 1000000) (hbase : base ≤ w.heap.size)
    (h : ∀ v' w', BInts w' base v' (zs ++ ns) → Below base w w' → wpList Tryd.prog ops Q rest (a.put o.dst v') w') : wpList Tryd.prog ops Q (o :: rest) a w := by
  obtain ⟨i0, hi, hz0, hz1, hz2⟩ := info_parts infoB
  refine wpList_append_own (P := Tryd.prog) _ hgd s x 24 ho base 5 i0 (.int .u8 0) 1 1 Tryd.underlying24 hi hz0 hz1 hz2 rfl (by decide) v zs.length _ hs hown ⟨B, 0, none⟩ m c (ns.map (.int .u8)) hx (by rw [List.length_map, hl, Nat.mul_one]) (news_u8 hc) (by simp [Value.oneCell']) (by unfold maxLen; omega) (by omega) hbase ?_
  intro v' w' h2 h3 _
  refine h v' w' ?_ (below_of_append hown h3 hbase)
  unfold BInts
  rw [List.length_append, hl, List.map_append]
  exact h2
theorem step_bytes {ops : Array Oper} {o : Oper} {a : Act} {w : World} {K : Act → World → Prop} {Q : Exit → Act → World → Prop} {E : Prop} (hg : o.guard = none) (s x : Operand)
    (ho : o.op = .call { callee := .builtin .append, args := #[s, x], argTypes := #[24, 24] })
    (base : Nat) (v : Value) (zs : List Int) (hs : a.eval s = v) (hown : BInts w base v zs) {B m c : Nat} {ns : List Int}
    (hx : a.eval x = .slice (some ⟨B, 0, none⟩) m c) (hl : ns.length = m) (hc : ∀ j (hj : j < ns.length), w.cell? ⟨B, j, none⟩ = some (.int .u8 ns[j])) (hb : zs.length + m ≤ 1000000) (hbase : base ≤ w.heap.size)
    (hK : ∀ v' w', BInts w' base v' (zs ++ ns) → Below base w w' → K (a.put o.dst v') w') : if Region.wanted o (yielded ops a.tmps) = true then Oper.wp Tryd.prog o a w K Q else E := by
  obtain ⟨i0, hi, hz0, hz1, hz2⟩ := info_parts infoB
  rw [if_pos (by simp [Region.wanted, hg])]
  refine wp_append_own (P := Tryd.prog) _ s x 24 ho base 5 i0 (.int .u8 0) 1 1 Tryd.underlying24 hi hz0 hz1 hz2 rfl (by decide) v zs.length _ hs hown ⟨B, 0, none⟩ m c (ns.map (.int .u8)) hx (by rw [List.length_map, hl, Nat.mul_one]) (news_u8 hc) (by simp [Value.oneCell']) (by unfold maxLen; omega) (by omega) hbase ?_
  intro v' w' h2 h3 _
  refine hK v' w' ?_ (below_of_append hown h3 hbase)
  unfold BInts
  rw [List.length_append, hl, List.map_append]
  exact h2
theorem lit3_u8 (w : World) (x y z : Int) : ∀ j (hj : j < [x, y, z].length), (w.alloc (.cells #[.int .u8 x, .int .u8 y, .int .u8 z] 5)).cell? ⟨w.heap.size, j, none⟩ = some (.int .u8 [x, y, z][j]) := by
  have h := heap_alloc_new w (.cells #[.int .u8 x, .int .u8 y, .int .u8 z] 5)
  intro j hj
  unfold World.cell?
  rw [h]
  match j, hj with
  | 0, _ => rfl
  | 1, _ => rfl
  | 2, _ => rfl
theorem alloc_keep {w : World} {a : Addr} {v : Value} {o : Obj} (h : w.cell? a = some v) : (w.alloc o).cell? a = some v := (((Below.refl _ _).alloc (Nat.le_refl _) _ : Below w.heap.size w (w.alloc o)).cell (cell_lt h)).trans h
/-- the bytes of the first k instructions -/
def bytesV (C : Nat → Ins) (k : Nat) : List Int := (List.range k).flatMap (fun i => [(C i).op, (C i).a, (C i).b])
theorem bytes_succ (C : Nat → Ins) (k : Nat) : bytesV C (k + 1) = bytesV C k ++ [(C k).op, (C k).a, (C k).b] := by unfold bytesV; rw [List.range_succ, List.flatMap_append]; simp
theorem bytes_len (C : Nat → Ins) : ∀ k, (bytesV C k).length = 3 * k
  | 0 => rfl
  | k + 1 => by rw [bytes_succ, List.length_append, bytes_len C k]; simp; omega
def mayTo (C : Nat → Ins) (k : Nat) : Bool := (List.range k).all (fun i => mayB (C i))
theorem mayTo_succ (C : Nat → Ins) (k : Nat) : mayTo C (k + 1) = (mayTo C k && mayB (C k)) := by unfold mayTo; rw [List.range_succ, List.all_append]; simp
theorem mayTo_no {C : Nat → Ins} {k n : Nat} (hk : k < n) (h : mayB (C k) = false) : mayTo C n = false := by
  unfold mayTo
  cases hc : (List.range n).all (fun i => mayB (C i))
  · rfl
  · have := List.all_eq_true.1 hc k (List.mem_range.2 hk)
    rw [h] at this; cases this
/-- instructions put as bytes, or refused -/
def putV (C : Nat → Ins) (n : Nat) : List Int × Int := if n ≤ 400 ∧ mayTo C n = true then (bytesV C n, 0) else ([], 19)
def PutP (w : World) (C : Nat → Ins) (n : Nat) (e : Ending) (w' : World) : Prop := ∃ v, e = .returned (.tuple #[v, .int .i64 (putV C n).2]) ∧ BInts w' w.heap.size v (putV C n).1 ∧ Below w.heap.size w w'
theorem u8_in {x : Int} (h0 : 0 ≤ x) (h1 : x ≤ 255) : IntKind.u8.wrap x = x := by rw [IntKind.wrap_u8]; omega
set_option maxRecDepth 100000 in
set_option maxHeartbeats 16000000 in
theorem put_any {w : World} {p : Option Addr} {n c : Nat} {C : Nat → Ins} (hC : IsCode w p n C) : Calls Tryd.prog 11 #[.slice p n c] w (PutP w C n) := by
  have HC := Lib.hid hC
  clear hC
  by_cases hn : n ≤ 400
  · have d0 : decide (400 < n) = false := decide_eq_false (by omega)
    have d0' : decide ((400 : Int) < (n : Int)) = false := decide_eq_false (by omega)
    go_enter Tryd.func11, Tryd.ntmps11
    go_wp2_with fail
    go_loopw [4, 12] (fun v i wr => ∃ k : Nat, k ≤ n ∧ i = .int .i64 k ∧ BInts wr w.heap.size v (bytesV C k) ∧ mayTo C k = true ∧ Below w.heap.size w wr) (fun _ i _ => n - (intOf i).toNat)
    case atStart => exact ⟨0, Nat.zero_le _, rfl, BInts.nil _ _, rfl, Below.refl _ _⟩
    case round =>
      obtain ⟨k, hk, rfl, hown, hmay, hbw⟩ := hrel
      have HOWN := Lib.hid hown
      have HMAY := Lib.hid hmay
      have HBW := Lib.hid hbw
      have hbs := hbw.size
      by_cases hlt : k < n
      · have d1 : decide (k < n) = true := decide_eq_true hlt
        obtain ⟨bb, off, rfl, hlt0, c0, c1, c2⟩ := HC.out.at_ hbw hlt
        have hlt1 : bb < wr.heap.size := Nat.lt_of_lt_of_le hlt0 hbs
        have HCC : Hid (∀ w', Below w.heap.size w w' → w'.cell? ⟨bb, off + k * 3, none⟩ = some (.int .i64 (C k).op) ∧ w'.cell? ⟨bb, off + k * 3 + 1, none⟩ = some (.int .i64 (C k).a) ∧ w'.cell? ⟨bb, off + k * 3 + 2, none⟩ = some (.int .i64 (C k).b)) := Lib.hid (fun w' hb => by
          obtain ⟨b2, o2, e2, _, h0, h1, h2⟩ := HC.out.at_ hb hlt
          cases e2
          exact ⟨h0, h1, h2⟩)
        obtain ⟨ii, hii⟩ : ∃ ii, C k = ii := ⟨_, rfl⟩
        have HII := Lib.hid hii
        rw [hii] at c0 c1 c2 HCC
        obtain ⟨op, a, b⟩ := ii
        dsimp only at c0 c1 c2 HCC
        have g0 : (0 : Int) ≤ (k : Int) := by omega
        have g1 : (k : Int) < (n : Int) := by omega
        clear hii hown hmay hbw
        cases hm : mayB ⟨op, a, b⟩
        · have HMB := Lib.hid hm
          have HV : Hid (putV C n = ([], 19)) := Lib.hid (by unfold putV; rw [if_neg (fun q => by rw [mayTo_no hlt (by rw [HII.out]; exact hm)] at q; exact absurd q.2 (by simp))])
          clear hm
          go_wp2_with (go_at_call 16; (with_reducible refine (may_any op a b _).mono ?_); rw [HMB.out]; rintro e w2 ⟨rfl, hb2⟩; have HB2 := Lib.hid hb2; clear hb2)
          go_returns
          try unfold PutP
          rw [HV.out]
          exact ⟨_, rfl, BInts.nil _ _, HBW.out.trans (((Below.refl _ _).alloc (Nat.le_refl _) _ |>.trans (HB2.out.mono (by simp))).mono hbs)⟩
        · have HMB := Lib.hid hm
          have HMT : Hid (mayTo C (k + 1) = true) := Lib.hid (by rw [mayTo_succ, HMAY.out, HII.out, hm]; rfl)
          have HBY : Hid (bytesV C (k + 1) = bytesV C k ++ [op, a, b]) := Lib.hid (by rw [bytes_succ, HII.out])
          obtain ⟨m1, m2, m3, m4, m5, m6⟩ := may_bounds hm
          dsimp only at m1 m2 m3 m4 m5 m6
          have u0 := u8_in (x := op) (by omega) (by omega)
          have u1 := u8_in (x := a) (by omega) (by omega)
          have u2 := u8_in (x := b) (by omega) (by omega)
          clear hm HMAY
          have HBA : Hid (Below wr.heap.size wr (wr.alloc (.cells #[.int .i64 op, .int .i64 a, .int .i64 b] 31))) := Lib.hid ((Below.refl _ _).alloc (Nat.le_refl _) _)
          go_wp2_with (first | (go_at_call 16; (with_reducible refine (may_any op a b _).mono ?_); rw [HMB.out]; rintro e w2 ⟨rfl, hb2⟩; have HB2 := Lib.hid hb2; have e0 : w2.cell? ⟨wr.heap.size, 0, none⟩ = some (.int .i64 op) := ((hb2.cell (p := ⟨wr.heap.size, 0, none⟩) (by simp)).trans (by simp [go_sem])); have e1 : w2.cell? ⟨wr.heap.size, 1, none⟩ = some (.int .i64 a) := ((hb2.cell (p := ⟨wr.heap.size, 1, none⟩) (by simp)).trans (by simp [go_sem])); have e2 : w2.cell? ⟨wr.heap.size, 2, none⟩ = some (.int .i64 b) := ((hb2.cell (p := ⟨wr.heap.size, 2, none⟩) (by simp)).trans (by simp [go_sem])); clear hb2) | (at_builtin; refine wpList_bytes rfl _ _ rfl w.heap.size _ (bytesV C k) rfl (HOWN.out.below ((HBA.out.trans (HB2.out.mono HBA.out.size)).alloc (HBA.out.trans (HB2.out.mono HBA.out.size)).size _)) rfl rfl (lit3_u8 _ op a b) (by rw [bytes_len]; omega) (Nat.le_trans hbs (Nat.le_trans HBA.out.size (Nat.le_trans HB2.out.size (by simp)))) ?_; intro v5 w5 hi5 hb5; have HI5 := Lib.hid hi5; have HB5 := Lib.hid (((HBW.out.trans (HBA.out.mono hbs)).trans (HB2.out.mono (Nat.le_trans hbs HBA.out.size))).trans ((((Below.refl _ _).alloc (Nat.le_trans hbs (Nat.le_trans HBA.out.size HB2.out.size)) _)).trans hb5)); clear hi5 hb5))
          go_roundw
          case rel => exact ⟨k + 1, by omega, by go_num, by rw [HBY.out]; exact HI5.out, HMT.out, HB5.out⟩
          case measure => simp [intOf]; omega
      · have hkn : k = n := by omega
        have d1 : decide (k < n) = false := decide_eq_false hlt
        have HV : Hid (putV C n = (bytesV C n, 0)) := Lib.hid (by unfold putV; rw [if_pos ⟨hn, by rw [← hkn]; exact hmay⟩])
        clear hlt hown hmay hbw
        subst hkn
        go_wp2_with fail
        go_returns
        try unfold PutP
        rw [HV.out]
        exact ⟨_, rfl, HOWN.out, HBW.out⟩
  · have d0 : decide (400 < n) = true := decide_eq_true (by omega)
    have d0' : decide ((400 : Int) < (n : Int)) = true := decide_eq_true (by omega)
    have HV : Hid (putV C n = ([], 19)) := Lib.hid (by unfold putV; rw [if_neg (fun q => hn q.1)])
    go_enter Tryd.func11, Tryd.ntmps11
    go_wp2_with fail
    go_returns
    try unfold PutP
    rw [HV.out]
    exact ⟨_, rfl, BInts.nil _ _, Below.refl _ _⟩
set_option maxRecDepth 100000 in
set_option maxHeartbeats 16000000 in
theorem rput_any {w : World} {p : Option Addr} {n c : Nat} {C : Nat → Ins} (hC : IsCode w p n C) : Calls Tryd.prog 12 #[.slice p n c] w (PutP w C n) := by
  have HC := Lib.hid hC
  clear hC
  by_cases hn : n ≤ 400
  · have d0 : decide (400 < n) = false := decide_eq_false (by omega)
    have d0' : decide ((400 : Int) < (n : Int)) = false := decide_eq_false (by omega)
    go_enter Tryd.func12, Tryd.ntmps12
    go_wp2_with fail
    go_loopw [4, 5] (fun v i wr => ∃ k : Nat, k ≤ n ∧ i = .int .i64 k ∧ BInts wr w.heap.size v (bytesV C k) ∧ mayTo C k = true ∧ Below w.heap.size w wr) (fun _ i _ => n - (intOf i).toNat)
    case atStart => exact ⟨0, Nat.zero_le _, rfl, BInts.nil _ _, rfl, Below.refl _ _⟩
    case round =>
      obtain ⟨k, hk, rfl, hown, hmay, hbw⟩ := hrel
      have HOWN := Lib.hid hown
      have HMAY := Lib.hid hmay
      have HBW := Lib.hid hbw
      have hbs := hbw.size
      by_cases hlt : k < n
      · have d1 : decide (k < n) = true := decide_eq_true hlt
        obtain ⟨bb, off, rfl, hlt0, c0, c1, c2⟩ := HC.out.at_ hbw hlt
        have hlt1 : bb < wr.heap.size := Nat.lt_of_lt_of_le hlt0 hbs
        have HCC : Hid (∀ w', Below w.heap.size w w' → w'.cell? ⟨bb, off + k * 3, none⟩ = some (.int .i64 (C k).op) ∧ w'.cell? ⟨bb, off + k * 3 + 1, none⟩ = some (.int .i64 (C k).a) ∧ w'.cell? ⟨bb, off + k * 3 + 2, none⟩ = some (.int .i64 (C k).b)) := Lib.hid (fun w' hb => by
          obtain ⟨b2, o2, e2, _, h0, h1, h2⟩ := HC.out.at_ hb hlt
          cases e2
          exact ⟨h0, h1, h2⟩)
        obtain ⟨ii, hii⟩ : ∃ ii, C k = ii := ⟨_, rfl⟩
        have HII := Lib.hid hii
        rw [hii] at c0 c1 c2 HCC
        obtain ⟨op, a, b⟩ := ii
        dsimp only at c0 c1 c2 HCC
        have g0 : (0 : Int) ≤ (k : Int) := by omega
        have g1 : (k : Int) < (n : Int) := by omega
        clear hii hown hmay hbw
        cases hm : mayB ⟨op, a, b⟩
        · have HMB := Lib.hid hm
          have HV : Hid (putV C n = ([], 19)) := Lib.hid (by unfold putV; rw [if_neg (fun q => by rw [mayTo_no hlt (by rw [HII.out]; exact hm)] at q; exact absurd q.2 (by simp))])
          clear hm
          go_wp2_with (go_at_call 17; (with_reducible refine (rmay_any op a b _).mono ?_); rw [HMB.out]; rintro e w2 ⟨rfl, hb2⟩; have HB2 := Lib.hid hb2; clear hb2)
          go_returns
          try unfold PutP
          rw [HV.out]
          exact ⟨_, rfl, BInts.nil _ _, HBW.out.trans (HB2.out.mono hbs)⟩
        · have HMB := Lib.hid hm
          have HMT : Hid (mayTo C (k + 1) = true) := Lib.hid (by rw [mayTo_succ, HMAY.out, HII.out, hm]; rfl)
          have HBY : Hid (bytesV C (k + 1) = bytesV C k ++ [op, a, b]) := Lib.hid (by rw [bytes_succ, HII.out])
          obtain ⟨m1, m2, m3, m4, m5, m6⟩ := may_bounds hm
          dsimp only at m1 m2 m3 m4 m5 m6
          have u0 := u8_in (x := op) (by omega) (by omega)
          have u1 := u8_in (x := a) (by omega) (by omega)
          have u2 := u8_in (x := b) (by omega) (by omega)
          clear hm HMAY
          go_upto_region 10 with (go_at_call 17; (with_reducible refine (rmay_any op a b _).mono ?_); rw [HMB.out]; rintro e w2 ⟨rfl, hb2⟩; have HB2 := Lib.hid hb2; have HBX : Hid (Below w.heap.size w w2) := Lib.hid (HBW.out.trans (hb2.mono hbs)); have k0 := (HCC.out _ HBX.out).1; have k1 := (HCC.out _ HBX.out).2.1; have k2 := (HCC.out _ HBX.out).2.2; clear hb2)
          go_region_held_law (fun w' => w'.cell? ⟨bb, off + k * 3, none⟩ = some (.int .i64 op) ∧ w'.cell? ⟨bb, off + k * 3 + 1, none⟩ = some (.int .i64 a) ∧ w'.cell? ⟨bb, off + k * 3 + 2, none⟩ = some (.int .i64 b)) (first | assumption | (refine ⟨?_, ?_, ?_⟩ <;> first | assumption | (refine alloc_keep ?_; assumption) | (simp [go_sem, *]; done)) | (simp [go_sem, *]; done)) (first | (refine step_bytes rfl _ _ rfl w.heap.size u4 (bytesV C k) (by simp [Act.eval, Act.put]) (HOWN.out.below (show Below wr.heap.size wr _ by exact Below.drew ((HB2.out).alloc HB2.out.size _))) (B := w2.heap.size) (m := 3) (c := 3) (ns := [op, a, b]) (by simp [Act.eval, Act.put]) rfl (lit3_u8 w2 op a b) (by rw [bytes_len]; omega) (Nat.le_trans hbs (Nat.le_trans HB2.out.size (by simp))) ?_; intro v5 w5 hi5 hb5; have HI5 := Lib.hid hi5; have HB5 := Lib.hid ((show Below w.heap.size w _ by exact Below.drew ((HBX.out).alloc HBX.out.size _)).trans hb5); have s1 := HCC.out _ HB5.out; clear hi5 hb5))
          go_wp2_with fail
          go_roundw
          case rel => exact ⟨k + 1, by omega, by go_num, by rw [HBY.out]; exact HI5.out, HMT.out, HB5.out⟩
          case measure => simp [intOf]; omega
      · have hkn : k = n := by omega
        have d1 : decide (k < n) = false := decide_eq_false hlt
        have HV : Hid (putV C n = (bytesV C n, 0)) := Lib.hid (by unfold putV; rw [if_pos ⟨hn, by rw [← hkn]; exact hmay⟩])
        clear hlt hown hmay hbw
        subst hkn
        go_wp2_with fail
        go_returns
        try unfold PutP
        rw [HV.out]
        exact ⟨_, rfl, HOWN.out, HBW.out⟩
  · have d0 : decide (400 < n) = true := decide_eq_true (by omega)
    have d0' : decide ((400 : Int) < (n : Int)) = true := decide_eq_true (by omega)
    have HV : Hid (putV C n = ([], 19)) := Lib.hid (by unfold putV; rw [if_neg (fun q => hn q.1)])
    go_enter Tryd.func12, Tryd.ntmps12
    go_wp2_with fail
    go_returns
    try unfold PutP
    rw [HV.out]
    exact ⟨_, rfl, BInts.nil _ _, Below.refl _ _⟩
end Go.Proofs.YtclndbiljhbbkaaDoor
