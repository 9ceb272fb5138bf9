/- Chapter 05: the first count behind a constant's bytes. -/
import Derived.Test.YtfinpgkehjbcpaaIF
import Derived.ArgAppend
namespace Go.Proofs.Ytfinpgkehjbcpaa
open Go.ChangeShapes Go.WideShapes Go.ChangeAt Go.RowKit Go.Deep Go.Joins Go.Maps
set_option linter.unusedVariables false
set_option linter.unusedSimpArgs false
theorem BInts.lt {w : World} {base : Nat} {v : Value} {zs : List Int} (h : BInts w base v zs) (k : Nat) (hk : v.ownBlock = some k) : base ≤ k ∧ k < w.heap.size := World.ownsRow.lt h k hk
theorem bytes_cell {w : World} {b : Nat} {zs : List Int} (h : Bytes w (some ⟨b, 0, none⟩) zs) : ∀ j u, (zs.map (Value.int .u8))[j]? = some u → w.cell? ⟨b, 0 + j, none⟩ = some u := by
  intro j u hu
  rw [List.getElem?_map] at hu
  have hj : j < zs.length := by
    rcases Nat.lt_or_ge j zs.length with h | h
    · exact h
    · rw [List.getElem?_eq_none h] at hu; cases hu
  rw [List.getElem?_eq_getElem hj] at hu
  cases hu
  obtain ⟨b', off, e, _, hcell⟩ := h j hj
  cases e
  exact hcell
/-- bytes are put behind a full row that is not to be written -/
theorem wpList_bytes_first {w : World} {ops : Array Oper} {rest : List Oper} {o : Oper} {a : Act} {Q : Exit → Act → World → Prop} (hgd : o.guard = none) (s x : Operand)
    (ho : o.op = .call { callee := .builtin .append, args := #[s, x], argTypes := #[30, 30] }) {cb : Nat} {zs : List Int} {n : Nat} (hzl : zs.length = n) (hs : a.eval s = .slice (some ⟨cb, 0, none⟩) n n) (hzs : Bytes w (some ⟨cb, 0, none⟩) zs)
    {xb : Nat} {m c : Nat} {ns : List Int} (hx : a.eval x = .slice (some ⟨xb, 0, none⟩) m c) (hl : ns.length = m) (hc : Bytes w (some ⟨xb, 0, none⟩) ns) (hm : 0 < m) (hb : n + m ≤ 1000000000)
    (h : ∀ v' w', BInts w' w.heap.size v' (zs ++ ns) → w.grownBy w' none → wpList Try.prog ops Q rest (a.put o.dst v') w') : wpList Try.prog ops Q (o :: rest) a w := by
  obtain ⟨i0, hi, hz0, hz1, hz2⟩ := info_parts infoB
  refine wpList_append_grows (P := Try.prog) w hgd s x 30 ho 5 i0 (.int .u8 0) 1 1 Try.underlying30 hi hz0 hz1 hz2 rfl (by decide) _ n n (zs.map (.int .u8)) hs (by intro q; cases q) (by rw [List.length_map, hzl, Nat.mul_one]) (fun b hb j u hu => by cases hb; rw [add_plain]; exact bytes_cell hzs j u hu)
    ⟨xb, 0, none⟩ m c (ns.map (.int .u8)) hx (by rw [List.length_map, hl, Nat.mul_one]) (fun j u hu => by rw [add_plain]; exact bytes_cell hc j u hu) (by simp [Value.oneCell']) (by omega) (by unfold maxLen; omega) (by omega) ?_
  intro v' w' h1 h2
  refine h v' w' ?_ h2
  unfold BInts
  rw [List.length_append, hzl, hl, List.map_append]
  exact h1
theorem below_grownB {a w w' : World} {B : Nat} {o : Option Nat} (h : Below B a w) (hg : w.grownBy w' o) (ho : ∀ k, o = some k → B ≤ k) (hB : B ≤ a.heap.size) : Below B a w' :=
  ⟨hg.os.trans h.os, hg.tape.trans h.tape, hg.output.trans h.output, Nat.le_trans h.size hg.size, fun k hk => (hg.block k (by have := h.size; omega) (fun e => by have := ho k e.symm; omega)).trans (h.block k hk)⟩
set_option maxRecDepth 100000 in
set_option maxHeartbeats 16000000 in
theorem count_first {w : World} {cb : Nat} {zs : List Int} {q4 : Nat} (hl : zs.length = q4) (hq4 : q4 ≤ 100) (hz : Bytes w (some ⟨cb, 0, none⟩) zs) (n : Nat) (hn : n ≤ 9223372036854775807) : Calls Try.prog 73 #[.slice (some ⟨cb, 0, none⟩) q4 q4, .int .i64 n] w fun e w' => ∃ v', e = .returned v' ∧ BInts w' w.heap.size v' (zs ++ cntV n) ∧ Below w.heap.size w w' := by
  have HL := Lib.hid hl
  have HZ := Lib.hid hz
  have HN := Lib.hid hn
  clear hl hz hn
  go_enter Try.func73, Try.ntmps73
  go_wp2_with fail
  go_loopw [0, 1] (fun u i wr => (u = .slice (some ⟨cb, 0, none⟩) q4 q4 ∧ i = .int .i64 (n : Int) ∧ wr = w) ∨ ∃ (k : Nat) (ps : List Int), i = .int .i64 k ∧ k ≤ 9223372036854775807 ∧ cntV n = ps ++ cntV k ∧ BInts wr w.heap.size u (zs ++ ps) ∧ Below w.heap.size w wr) (fun _ i _ => (intOf i).toNat)
  case atStart => exact .inl ⟨rfl, rfl, rfl⟩
  case round =>
    rcases hrel with ⟨rfl, rfl, hwr⟩ | ⟨k, ps, rfl, hk, hcnt, hgr⟩
    · subst hwr
      obtain ⟨k, hk0⟩ : ∃ k, n = k := ⟨_, rfl⟩
      have HCNT : Hid (cntV n = cntV k) := Lib.hid (by rw [hk0])
      have hk := HN.out
      rw [hk0] at hk
      rw [show ((n : Nat) : Int) = (k : Int) by rw [hk0]]
      clear hk0
      by_cases hlt : 127 < k
      · have d1 : decide (127 < k) = true := decide_eq_true hlt
        have d2 : decide ((127 : Int) < (k : Int)) = true := decide_eq_true (by omega)
        obtain ⟨r, hr⟩ : ∃ r : Nat, k % 128 = r := ⟨_, rfl⟩
        obtain ⟨q, hq⟩ : ∃ q : Nat, k / 128 = q := ⟨_, rfl⟩
        have e1 : bits .and .i64 (k : Int) 127 = (r : Int) := by rw [and_127 (by omega) (by omega)]; omega
        have e2 : bits .or .i64 (r : Int) 128 = (r : Int) + 128 := or_128 (by omega) (by omega)
        have e3 : IntKind.u8.wrap ((r : Int) + 128) = (r : Int) + 128 := u8_in (by omega) (by omega)
        have e4 : (k : Int) / 128 = (q : Int) := by omega
        have HC2 : Hid (cntV n = ([] ++ [(r : Int) + 128]) ++ cntV q) := Lib.hid (by rw [HCNT.out, cnt_big (by omega), hr, hq]; simp)
        have hqk : q < k := by omega
        clear hr hq
        go_wp2_with (first | (at_builtin; refine wpList_bytes_first rfl _ _ rfl (cb := cb) (zs := zs) (n := q4) HL.out rfl (HZ.out.below ((Below.refl wr.heap.size wr).alloc (Nat.le_refl _) _)) (xb := wr.heap.size) (m := 1) (c := 1) (ns := [(r : Int) + 128]) rfl rfl (lit1_u8 wr ((r : Int) + 128)) (by omega) (by omega) ?_; intro v5 w5 hi5 hg5; have HG5 : Hid (BInts w5 wr.heap.size v5 (zs ++ [(r : Int) + 128]) ∧ Below wr.heap.size wr w5) := Lib.hid ⟨hi5.base (fun k hk => by have := (hi5.lt k hk).1; simp at this; omega), below_grownB ((Below.refl wr.heap.size wr).alloc (Nat.le_refl _) _) hg5 (by intro k hk; cases hk) (Nat.le_refl _)⟩; clear hi5 hg5))
        go_roundw
        case rel => exact .inr ⟨q, [] ++ [(r : Int) + 128], by first | rfl | (congr 1), by omega, HC2.out, by simpa using HG5.out⟩
        case measure => simp [intOf]; omega
      · have d1 : decide (127 < k) = false := decide_eq_false hlt
        have d2 : decide ((127 : Int) < (k : Int)) = false := decide_eq_false (by omega)
        have e3 : IntKind.u8.wrap (k : Int) = (k : Int) := u8_in (by omega) (by omega)
        have HC2 : Hid (cntV n = [] ++ [(k : Int)]) := Lib.hid (by rw [HCNT.out, cnt_small (by omega)]; try rfl)
        go_wp2_with (first | (at_builtin; refine wpList_bytes_first rfl _ _ rfl (cb := cb) (zs := zs) (n := q4) HL.out rfl (HZ.out.below ((Below.refl wr.heap.size wr).alloc (Nat.le_refl _) _)) (xb := wr.heap.size) (m := 1) (c := 1) (ns := [(k : Int)]) rfl rfl (lit1_u8 wr ((k : Int))) (by omega) (by omega) ?_; intro v5 w5 hi5 hg5; have HG5 : Hid (BInts w5 wr.heap.size v5 (zs ++ [(k : Int)]) ∧ Below wr.heap.size wr w5) := Lib.hid ⟨hi5.base (fun k hk => by have := (hi5.lt k hk).1; simp at this; omega), below_grownB ((Below.refl wr.heap.size wr).alloc (Nat.le_refl _) _) hg5 (by intro k hk; cases hk) (Nat.le_refl _)⟩; clear hi5 hg5))
        go_ret
        exact ⟨_, rfl, by rw [HC2.out]; simpa using HG5.out.1, HG5.out.2⟩
    · have HGR := Lib.hid hgr
      have HCNT := Lib.hid hcnt
      have hpl : ps.length ≤ 9 := by
        have h9 := cnt_len9 (n := n) (by have := HN.out; omega)
        rw [hcnt] at h9; simp at h9; omega
      have HPL := Lib.hid hpl
      clear hcnt hgr hpl
      by_cases hlt : 127 < k
      · have d1 : decide (127 < k) = true := decide_eq_true hlt
        have d2 : decide ((127 : Int) < (k : Int)) = true := decide_eq_true (by omega)
        obtain ⟨r, hr⟩ : ∃ r : Nat, k % 128 = r := ⟨_, rfl⟩
        obtain ⟨q, hq⟩ : ∃ q : Nat, k / 128 = q := ⟨_, rfl⟩
        have e1 : bits .and .i64 (k : Int) 127 = (r : Int) := by rw [and_127 (by omega) (by omega)]; omega
        have e2 : bits .or .i64 (r : Int) 128 = (r : Int) + 128 := or_128 (by omega) (by omega)
        have e3 : IntKind.u8.wrap ((r : Int) + 128) = (r : Int) + 128 := u8_in (by omega) (by omega)
        have e4 : (k : Int) / 128 = (q : Int) := by omega
        have HC2 : Hid (cntV n = (ps ++ [(r : Int) + 128]) ++ cntV q) := Lib.hid (by rw [HCNT.out, cnt_big (by omega), hr, hq]; simp)
        have hqk : q < k := by omega
        clear hr hq
        go_wp2_with (first | (at_builtin; refine wpList_bytes rfl _ _ rfl w.heap.size _ (zs ++ ps) rfl (HGR.out.1.below ((Below.refl wr.heap.size wr).alloc (Nat.le_refl _) _)) (A := some ⟨wr.heap.size, 0, none⟩) (m := 1) (c := 1) (ns := [(r : Int) + 128]) rfl nocap rfl (lit1_u8 wr ((r : Int) + 128)) (by have := HPL.out; have := HL.out; simp; omega) (Nat.le_trans HGR.out.2.size (by simp)) ?_; intro v5 w5 hi5 hg5 ha5; have HG5 : Hid (BInts w5 w.heap.size v5 ((zs ++ ps) ++ [(r : Int) + 128]) ∧ Below w.heap.size w w5) := Lib.hid ⟨hi5, below_grownB (HGR.out.2.alloc HGR.out.2.size _) hg5 (fun k hk => (HGR.out.1.lt k hk).1) (Nat.le_refl _)⟩; clear hi5 hg5 ha5))
        go_roundw
        case rel => exact .inr ⟨q, ps ++ [(r : Int) + 128], by first | rfl | (congr 1), by omega, HC2.out, by simpa using HG5.out⟩
        case measure => simp [intOf]; omega
      · have d1 : decide (127 < k) = false := decide_eq_false hlt
        have d2 : decide ((127 : Int) < (k : Int)) = false := decide_eq_false (by omega)
        have e3 : IntKind.u8.wrap (k : Int) = (k : Int) := u8_in (by omega) (by omega)
        have HC2 : Hid (cntV n = ps ++ [(k : Int)]) := Lib.hid (by rw [HCNT.out, cnt_small (by omega)]; try rfl)
        go_wp2_with (first | (at_builtin; refine wpList_bytes rfl _ _ rfl w.heap.size _ (zs ++ ps) rfl (HGR.out.1.below ((Below.refl wr.heap.size wr).alloc (Nat.le_refl _) _)) (A := some ⟨wr.heap.size, 0, none⟩) (m := 1) (c := 1) (ns := [(k : Int)]) rfl nocap rfl (lit1_u8 wr ((k : Int))) (by have := HPL.out; have := HL.out; simp; omega) (Nat.le_trans HGR.out.2.size (by simp)) ?_; intro v5 w5 hi5 hg5 ha5; have HG5 : Hid (BInts w5 w.heap.size v5 ((zs ++ ps) ++ [(k : Int)]) ∧ Below w.heap.size w w5) := Lib.hid ⟨hi5, below_grownB (HGR.out.2.alloc HGR.out.2.size _) hg5 (fun k hk => (HGR.out.1.lt k hk).1) (Nat.le_refl _)⟩; clear hi5 hg5 ha5))
        go_ret
        exact ⟨_, rfl, by rw [HC2.out]; simpa using HG5.out.1, HG5.out.2⟩
set_option maxRecDepth 100000 in
set_option maxHeartbeats 16000000 in
theorem wcount_first {w : World} {s wb mp cb q4 : Nat} {zs : List Int} (hbox : w.heap[wb]? = some (.cells #[.pointer (some ⟨s, 0, none⟩), .map (some mp), .slice (some ⟨cb, 0, none⟩) q4 q4, .bool false] 68 (0, 0))) (hl : zs.length = q4) (hq4 : q4 ≤ 100) (hz : Bytes w (some ⟨cb, 0, none⟩) zs) (n : Nat) (hn : n ≤ 9223372036854775807) : Calls Try.prog 37 #[.pointer (some ⟨wb, 0, none⟩), .int .i64 n] w fun e w' => e = .returned (.tuple #[]) ∧ WPost (fun k => k = wb) s wb mp (zs ++ cntV n) false w w' := by
  have hlt : wb < w.heap.size := by
    rcases Nat.lt_or_ge wb w.heap.size with q | q
    · exact q
    · rw [Array.getElem?_eq_none q] at hbox; cases hbox
  have h2 : w.cell? ⟨wb, 2, none⟩ = some (.slice (some ⟨cb, 0, none⟩) q4 q4) := by simp [World.cell?, hbox]
  have hcn := count_first hl hq4 hz n hn
  obtain ⟨zt, hzt⟩ : ∃ zt, zs ++ cntV n = zt := ⟨_, rfl⟩
  rw [hzt] at hcn ⊢
  have HC := Lib.hid hcn
  clear hcn hzt
  have HB := Lib.hid hbox
  clear hbox hl hz
  go_enter Try.func37, Try.ntmps37
  go_wp2_with fail
  (with_reducible refine HC.out.mono ?_)
  rintro e w1 ⟨v1, rfl, hB1, hb1⟩
  have hbx : w1.heap[wb]? = some (.cells #[.pointer (some ⟨s, 0, none⟩), .map (some mp), .slice (some ⟨cb, 0, none⟩) q4 q4, .bool false] 68 (0, 0)) := (hb1.block wb hlt).trans HB.out
  have f1 : w1.frozen? ⟨wb, 2, none⟩ = false := by simp [World.frozen?, hbx]
  have c1 : w1.cell? ⟨wb, 2, none⟩ = some (.slice (some ⟨cb, 0, none⟩) q4 q4) := by simp [World.cell?, hbx]
  have HP : Hid (WPost (fun k => k = wb) s wb mp zt false w (w1.setCell ⟨wb, 2, none⟩ v1)) := Lib.hid (by
    have hnw : ∀ k, v1.ownBlock = some k → w.heap.size ≤ k ∧ k < w1.heap.size := fun k hk => hB1.lt k hk
    have hne : v1.ownBlock ≠ some wb := fun e => by have := (hnw wb e).1; omega
    refine ⟨fun k => k = wb ∨ v1.ownBlock = some k, v1, ⟨by rw [heap_setCell_same w1 wb 2 _ _ _ hbx]; rfl, ?_, hne, ⟨.inl rfl, fun k hk => .inr hk⟩, fun k hk => ?_⟩, (Turns.of_below hb1).setCell _ _ rfl, fun k hk => ?_⟩
    · exact (hB1.turns (T := fun k => k = wb) ((Turns.refl _ _).setCell _ _ rfl) (fun k q e => hne (by rw [q, e]))).base (fun k _ => Nat.zero_le _)
    · rcases hk with rfl | hk
      · simpa using Nat.lt_of_lt_of_le hlt hb1.size
      · simpa using (hnw k hk).2
    · exact hk.imp id (fun q => (hnw k q).1))
  obtain ⟨A1, k1, rfl, _⟩ := hB1.bytes
  clear hB1 hb1 hbx
  go_wp2_with fail
  go_returns
  exact ⟨rfl, HP.out⟩
end Go.Proofs.Ytfinpgkehjbcpaa
