/- Chapter 05: bytes of the call's own; counts. -/
import Derived.Test.YtfinpgkehjbcpaaIPlain
import Derived.Test.YtfinpgkehjbcpaaHD0
import Derived.Test.YtfinpgkehjbcpaaHM0
import Derived.Test.YtfinpgkehjbcpaaHE1
import Derived.Test.YtfinpgkehjbcpaaWWalks
import Derived.Maps.AppendAt
import Derived.Laws.AppendOwnNone
import Derived.OwnWalk
import Derived.Laws.OwnMore
namespace Go.Proofs.Ytfinpgkehjbcpaa
open Go.ChangeShapes Go.WideShapes Go.ChangeAt Go.RowKit Go.Deep Go.Joins Go.Maps
set_option linter.unusedVariables false
set_option linter.unusedSimpArgs false
theorem infoB : (Try.prog.info? 5).map (fun i => (i.zero, i.size, i.bytes)) = some (some (.int .u8 0), 1, 1) := by kernel_rfl
/-- bytes of the call's own -/
def BInts (w : World) (base : Nat) (v : Value) (zs : List Int) : Prop := w.ownsRow base 5 1 v zs.length (zs.map (Value.int .u8))
theorem BInts.nil (w : World) (base : Nat) : BInts w base (.slice none 0 0) [] := World.ownsRow_nil _ _ _ _
theorem BInts.below {w w' : World} {base : Nat} {v : Value} {zs : List Int} (h : BInts w base v zs) (hb : Below w.heap.size w w') : BInts w' base v zs := ownsRow_below h hb
theorem BInts.turns {w w' : World} {base : Nat} {v : Value} {zs : List Int} {T : Nat → Prop} (h : BInts w base v zs) (ht : Turns T w w') (hd : ∀ k, v.ownBlock = some k → ¬ T k) : BInts w' base v zs := by
  refine ⟨h.1, ?_⟩
  rcases h.2 with h1 | ⟨g, cap, cur, hv, hg, hh, rest⟩
  · exact .inl h1
  · refine .inr ⟨g, cap, cur, hv, hg, (ht.block g ?_ (hd g (by rw [hv]; rfl))).trans hh, rest⟩
    rcases Nat.lt_or_ge g w.heap.size with q | q
    · exact q
    · rw [Array.getElem?_eq_none q] at hh; cases hh
theorem BInts.base {w : World} {b b' : Nat} {v : Value} {zs : List Int} (h : BInts w b v zs) (hb : ∀ k, v.ownBlock = some k → b' ≤ k) : BInts w b' v zs := by
  refine ⟨h.1, ?_⟩
  rcases h.2 with h1 | ⟨g, cap, cur, hv, hg, rest⟩
  · exact .inl h1
  · exact .inr ⟨g, cap, cur, hv, hb g (by rw [hv]; rfl), rest⟩
/-- what lies in memory as bytes -/
def Bytes (w : World) (A : Option Addr) (zs : List Int) : Prop := ∀ k (hk : k < zs.length), ∃ b off, A = some ⟨b, off, none⟩ ∧ b < w.heap.size ∧ w.cell? ⟨b, off + k, none⟩ = some (.int .u8 zs[k])
theorem BInts.bytes {w : World} {base : Nat} {v : Value} {zs : List Int} (h : BInts w base v zs) : ∃ A c, v = .slice A zs.length c ∧ zs.length ≤ c ∧ c ≤ maxLen ∧ (A = none → c = 0) ∧ Bytes w A zs := by
  have h2 := h
  unfold BInts at h2
  rcases h2.2 with ⟨rfl, h0⟩ | ⟨g, cap, cur, rfl, hg, hh, h1, h3, _⟩
  · rw [h0]
    exact ⟨none, 0, rfl, Nat.le_refl _, by unfold maxLen; omega, fun _ => rfl, fun k hk => absurd hk (by omega)⟩
  · refine ⟨_, cap, rfl, h1, h3, (by intro q; cases q), fun k hk => ⟨g, 0, rfl, (h2.lt g rfl).2, ?_⟩⟩
    have := World.ownsRow.cellAt h2 k (by simpa using hk)
    rw [Nat.zero_add, this, List.getElem?_map, List.getElem?_eq_getElem hk]
    rfl
theorem Bytes.below {w w' : World} {A : Option Addr} {zs : List Int} (h : Bytes w A zs) (hb : Below w.heap.size w w') : Bytes w' A zs := fun k hk => by
  obtain ⟨b, off, e, hl, hc⟩ := h k hk
  exact ⟨b, off, e, Nat.lt_of_lt_of_le hl hb.size, (hb.cell (p := ⟨b, off + k, none⟩) hl).trans hc⟩
theorem Bytes.turns {w w' : World} {A : Option Addr} {zs : List Int} {T : Nat → Prop} (h : Bytes w A zs) (ht : Turns T w w') (hd : ∀ b off, A = some ⟨b, off, none⟩ → ¬ T b) : Bytes w' A zs := fun k hk => by
  obtain ⟨b, off, e, hl, hc⟩ := h k hk
  refine ⟨b, off, e, Nat.lt_of_lt_of_le hl ht.size, ?_⟩
  unfold World.cell? at hc ⊢
  rw [ht.block b hl (hd b off e)]
  exact hc
theorem u8_in {x : Int} (h0 : 0 ≤ x) (h1 : x ≤ 255) : IntKind.u8.wrap x = x := by rw [IntKind.wrap_u8]; omega
/-- bytes are put behind own ones -/
theorem wpList_bytes {w : World} {ops : Array Oper} {rest : List Oper} {o : Oper} {a : Act} {Q : Exit → Act → World → Prop} (hgd : o.guard = none) (s x : Operand)
    (ho : o.op = .call { callee := .builtin .append, args := #[s, x], argTypes := #[30, 30] })
    (base : Nat) (v : Value) (zs : List Int) (hs : a.eval s = v) (hown : BInts w base v zs) {A : Option Addr} {m c : Nat} {ns : List Int}
    (hx : a.eval x = .slice A m c) (hf : A = none → c = 0) (hl : ns.length = m) (hc : Bytes w A ns) (hb : zs.length + m ≤ 1000000000) (hbase : base ≤ w.heap.size)
    (h : ∀ v' w', BInts w' base v' (zs ++ ns) → w.grownBy w' v.ownBlock → (v'.ownBlock = v.ownBlock ∨ v'.ownBlock = some w.heap.size) → wpList Try.prog ops Q rest (a.put o.dst v') w') : wpList Try.prog ops Q (o :: rest) a w := by
  obtain ⟨i0, hi, hz0, hz1, hz2⟩ := info_parts infoB
  cases A with
  | none =>
    obtain rfl := hf rfl
    have : ns = [] := by
      cases ns with
      | nil => rfl
      | cons y q => obtain ⟨b, off, e, _⟩ := hc 0 (by simp); cases e
    subst this
    obtain rfl : m = 0 := hl.symm
    refine wpList_append_own_none (P := Try.prog) hgd s x 30 ho base 5 i0 1 Try.underlying30 hi v _ _ hs hown hx (h v w ?_ ⟨rfl, rfl, rfl, Nat.le_refl _, fun _ _ _ => rfl⟩ (.inl rfl))
    rw [List.append_nil]; exact hown
  | some ad =>
    refine wpList_append_own_at (P := Try.prog) _ hgd s x 30 ho base 5 i0 (.int .u8 0) 1 1 Try.underlying30 hi hz0 hz1 hz2 rfl (by decide) v zs.length _ hs hown ad m c (ns.map (.int .u8)) hx (by rw [List.length_map, hl, Nat.mul_one]) ?_ (by simp [Value.oneCell']) (by unfold maxLen; omega) (by omega) hbase ?_
    · intro j u hu
      rw [List.getElem?_map] at hu
      have hj : j < ns.length := by
        rcases Nat.lt_or_ge j ns.length with h | h
        · exact h
        · rw [List.getElem?_eq_none h] at hu; cases hu
      rw [List.getElem?_eq_getElem hj] at hu
      cases hu
      obtain ⟨b, off, e, _, hcell⟩ := hc j hj
      cases e
      rw [add_plain]; exact hcell
    · intro v' w' h2 h3 _ h4
      refine h v' w' ?_ h3 h4
      unfold BInts
      rw [List.length_append, hl, List.map_append]
      exact h2
theorem nocap {a : Addr} {c : Nat} : (some a : Option Addr) = none → c = 0 := fun q => by cases q
theorem lit1_u8 (w : World) (x : Int) : Bytes (w.alloc (.cells #[.int .u8 x] 5)) (some ⟨w.heap.size, 0, none⟩) [x] := fun k hk => by
  have : k = 0 := by simpa using hk
  subst this
  refine ⟨w.heap.size, 0, rfl, by simp, ?_⟩
  have := heap_alloc_new w (.cells #[.int .u8 x] 5)
  unfold World.cell?
  rw [this]
  rfl
/-- behind an append: what else is there stays -/
theorem Turns.app {S : Nat → Prop} {w w1 w2 : World} (h : Turns S w w1) {v : Value} (hg : w1.grownBy w2 v.ownBlock) (hv : ∀ k, v.ownBlock = some k → S k ∨ w.heap.size ≤ k) : Turns S w w2 :=
  ⟨hg.os.trans h.os, hg.tape.trans h.tape, hg.output.trans h.output, Nat.le_trans h.size hg.size, fun k hk hs => (hg.block k (Nat.lt_of_lt_of_le hk h.size) (fun e => by
    rcases hv k e.symm with q | q
    · exact hs q
    · omega)).trans (h.block k hk hs)⟩
def ownS (v : Value) (k : Nat) : Prop := v.ownBlock = some k
/-- bytes that grew: the row, what else changed, where the row lies now -/
structure Grew (w w' : World) (base : Nat) (v v' : Value) (zs : List Int) : Prop where
  own : BInts w' base v' zs
  turns : Turns (ownS v) w w'
  at_ : v'.ownBlock = v.ownBlock ∨ ∃ k, v'.ownBlock = some k ∧ w.heap.size ≤ k
theorem Grew.refl {w : World} {base : Nat} {v : Value} {zs : List Int} (h : BInts w base v zs) : Grew w w base v v zs := ⟨h, Turns.refl _ _, .inl rfl⟩
theorem Turns.alloc {S : Nat → Prop} {w w1 : World} (h : Turns S w w1) (o : Obj) : Turns S w (w1.alloc o) := h.trans (Turns.of_below ((Below.refl _ _).alloc (Nat.le_refl _) _))
/-- one byte more -/
theorem Grew.step {w w1 w2 : World} {base : Nat} {v v1 v2 : Value} {zs ns : List Int} (h : Grew w w1 base v v1 zs) (o : Obj) (h2 : BInts w2 base v2 ns) (hg : (w1.alloc o).grownBy w2 v1.ownBlock) (ha : v2.ownBlock = v1.ownBlock ∨ v2.ownBlock = some (w1.alloc o).heap.size) : Grew w w2 base v v2 ns := by
  refine ⟨h2, (h.turns.alloc o).app hg (fun k hk => ?_), ?_⟩
  · rcases h.at_ with q | ⟨j, q, hj⟩
    · exact .inl (by unfold ownS; rw [← q]; exact hk)
    · rw [q] at hk; cases hk; exact .inr hj
  · rcases ha with q | q
    · rw [q]; exact h.at_
    · exact .inr ⟨_, q, by have := h.turns.size; simp; omega⟩
theorem Grew.trans {w w1 w2 : World} {base : Nat} {v v1 v2 : Value} {zs ns : List Int} (h : Grew w w1 base v v1 zs) (k : Grew w1 w2 base v1 v2 ns) : Grew w w2 base v v2 ns := by
  refine ⟨k.own, ⟨k.turns.os.trans h.turns.os, k.turns.tape.trans h.turns.tape, k.turns.output.trans h.turns.output, Nat.le_trans h.turns.size k.turns.size, fun j hj hs => (k.turns.block j (Nat.lt_of_lt_of_le hj h.turns.size) (fun q => ?_)).trans (h.turns.block j hj hs)⟩, ?_⟩
  · unfold ownS at q hs
    rcases h.at_ with e | ⟨i, e, hi⟩
    · exact hs (by rw [← e]; exact q)
    · rw [e] at q; cases q; omega
  · rcases k.at_ with q | ⟨i, q, hi⟩
    · rw [q]; exact h.at_
    · exact .inr ⟨i, q, Nat.le_trans h.turns.size hi⟩
theorem and_127 {n : Int} (h : 0 ≤ n) (h2 : n ≤ 9223372036854775807) : bits .and .i64 n 127 = n % 128 := by
  have h1 := and_nat n 127 (by omega)
  have e : (n % 18446744073709551616).toNat &&& 127 = (n % 18446744073709551616).toNat % 128 := Nat.and_two_pow_sub_one_eq_mod _ 7
  rw [e] at h1
  rw [show (127 : Int) = ((127 : Nat) : Int) from rfl, h1]; omega
theorem or_128 {r : Int} (h : 0 ≤ r) (h2 : r < 128) : bits .or .i64 r 128 = r + 128 := by
  rw [or_nat]
  obtain ⟨k, rfl⟩ : ∃ k : Nat, r = k := ⟨r.toNat, by omega⟩
  have e1 : (((k : Int)) % 18446744073709551616).toNat = k := by omega
  have e2 : ((128 : Int) % 18446744073709551616).toNat = 128 := by decide
  rw [e1, e2]
  have e3 : k ||| 128 = k + 128 := by
    have := Nat.two_pow_add_eq_or_of_lt (show k < 2 ^ 7 by omega) 1
    rw [Nat.or_comm]
    have h3 : (2 : Nat) ^ 7 * 1 = 128 := by decide
    rw [h3] at this
    omega
  rw [e3, IntWalk.i64_in _ ⟨by omega, by omega⟩]
  omega
set_option maxRecDepth 100000 in
set_option maxHeartbeats 16000000 in
theorem count_any {w : World} {v : Value} {zs : List Int} {base : Nat} (hown : BInts w base v zs) (n : Nat) (hn : n ≤ 9223372036854775807) (hz : zs.length ≤ 900000000) (hbase : base ≤ w.heap.size) : Calls Try.prog 73 #[v, .int .i64 n] w fun e w' => ∃ v', e = .returned v' ∧ Grew w w' base v v' (zs ++ cntV n) := by
  have HOWN := Lib.hid hown
  have HN := Lib.hid hn
  have HZL := Lib.hid hz
  clear hown hn hz
  go_enter Try.func73, Try.ntmps73
  go_wp2_with fail
  go_loopw [0, 1] (fun u i wr => ∃ (k : Nat) (ps : List Int), i = .int .i64 k ∧ k ≤ 9223372036854775807 ∧ cntV n = ps ++ cntV k ∧ Grew w wr base v u (zs ++ ps)) (fun _ i _ => (intOf i).toNat)
  case atStart => exact ⟨n, [], rfl, HN.out, rfl, by rw [List.append_nil]; exact Grew.refl HOWN.out⟩
  case round =>
    obtain ⟨k, ps, rfl, hk, hcnt, hgr⟩ := hrel
    have HGR := Lib.hid hgr
    have HCNT := Lib.hid hcnt
    have hpl : ps.length ≤ 9 := by
      have h9 := cnt_len9 (n := n) (by have := HN.out; omega)
      rw [hcnt] at h9; simp at h9; omega
    have HPL := Lib.hid hpl
    have hbw : base ≤ wr.heap.size := Nat.le_trans hbase hgr.turns.size
    clear hcnt hgr hpl
    by_cases hlt : 127 < k
    · have d1 : decide (127 < k) = true := decide_eq_true hlt
      have d2 : decide ((127 : Int) < (k : Int)) = true := decide_eq_true (by omega)
      obtain ⟨r, hr⟩ : ∃ r : Nat, k % 128 = r := ⟨_, rfl⟩
      obtain ⟨q, hq⟩ : ∃ q : Nat, k / 128 = q := ⟨_, rfl⟩
      have e1 : bits .and .i64 (k : Int) 127 = (r : Int) := by rw [and_127 (by omega) (by omega)]; omega
      have e2 : bits .or .i64 (r : Int) 128 = (r : Int) + 128 := or_128 (by omega) (by omega)
      have e3 : IntKind.u8.wrap ((r : Int) + 128) = (r : Int) + 128 := u8_in (by omega) (by omega)
      have e4 : (k : Int) / 128 = (q : Int) := by omega
      have HC2 : Hid (cntV n = (ps ++ [(r : Int) + 128]) ++ cntV q) := Lib.hid (by rw [HCNT.out, cnt_big (by omega), hr, hq]; simp)
      have hqk : q < k := by omega
      clear hr hq
      go_wp2_with (first | (at_builtin; refine wpList_bytes rfl _ _ rfl base _ (zs ++ ps) rfl (HGR.out.own.below ((Below.refl wr.heap.size wr).alloc (Nat.le_refl _) _)) (A := some ⟨wr.heap.size, 0, none⟩) (m := 1) (c := 1) (ns := [(r : Int) + 128]) rfl nocap rfl (lit1_u8 wr ((r : Int) + 128)) (by have := HPL.out; have := HZL.out; simp; omega) (Nat.le_trans hbw (by simp)) ?_; intro v5 w5 hi5 hg5 ha5; have HG5 := Lib.hid (HGR.out.step _ hi5 hg5 ha5); clear hi5 hg5 ha5))
      go_roundw
      case rel => exact ⟨q, ps ++ [(r : Int) + 128], by first | rfl | (congr 1), by omega, HC2.out, by rw [← List.append_assoc]; exact HG5.out⟩
      case measure => simp [intOf]; omega
    · have d1 : decide (127 < k) = false := decide_eq_false hlt
      have d2 : decide ((127 : Int) < (k : Int)) = false := decide_eq_false (by omega)
      have e3 : IntKind.u8.wrap (k : Int) = (k : Int) := u8_in (by omega) (by omega)
      have HC2 : Hid (cntV n = ps ++ [(k : Int)]) := Lib.hid (by rw [HCNT.out, cnt_small (by omega)])
      go_wp2_with (first | (at_builtin; refine wpList_bytes rfl _ _ rfl base _ (zs ++ ps) rfl (HGR.out.own.below ((Below.refl wr.heap.size wr).alloc (Nat.le_refl _) _)) (A := some ⟨wr.heap.size, 0, none⟩) (m := 1) (c := 1) (ns := [(k : Int)]) rfl nocap rfl (lit1_u8 wr (k : Int)) (by have := HPL.out; have := HZL.out; simp; omega) (Nat.le_trans hbw (by simp)) ?_; intro v5 w5 hi5 hg5 ha5; have HG5 := Lib.hid (HGR.out.step _ hi5 hg5 ha5); clear hi5 hg5 ha5))
      go_ret
      exact ⟨_, rfl, by rw [HC2.out, ← List.append_assoc]; exact HG5.out⟩
end Go.Proofs.Ytfinpgkehjbcpaa
/- Chapter 05: counts, numbers and sums. -/
namespace Go.Proofs.Ytfinpgkehjbcpaa
open Go.ChangeShapes Go.WideShapes Go.ChangeAt Go.RowKit Go.Deep Go.Joins Go.Maps
set_option linter.unusedVariables false
set_option linter.unusedSimpArgs false
set_option maxRecDepth 100000 in
set_option maxHeartbeats 16000000 in
theorem rcount_any {w : World} {A : Option Addr} {c : Nat} {zs : List Int} (hB : Bytes w A zs) (hc0 : A = none → c = 0) (n : Nat) (hn : n ≤ 9223372036854775807) (hz : zs.length ≤ 900000000) : Calls Try.prog 42 #[.slice A zs.length c, .int .i64 n] w fun e w' => ∃ v', e = .returned v' ∧ BInts w' w.heap.size v' (zs ++ cntV n) ∧ Below w.heap.size w w' := by
  have HB := Lib.hid hB
  have HN := Lib.hid hn
  have HC0 := Lib.hid hc0
  obtain ⟨zl, hzl⟩ : ∃ zl, zs.length = zl := ⟨_, rfl⟩
  rw [hzl] at hz ⊢
  have HZL : Hid (zs.length ≤ 900000000) := Lib.hid (by omega)
  have HZE := Lib.hid hzl
  clear hB hn hc0 hzl
  go_enter Try.func42, Try.ntmps42
  go_wp2_with (first | (at_builtin; refine wpList_bytes rfl _ _ rfl w.heap.size _ [] rfl (BInts.nil w w.heap.size) (A := A) (m := zl) (c := c) (ns := zs) rfl HC0.out HZE.out HB.out (by simp; omega) (Nat.le_refl _) ?_; intro v1 w1 hi1 hg1 ha1; have HI1 := Lib.hid hi1; have HB1 := Lib.hid (below_of_append (BInts.nil w w.heap.size) hg1 (Nat.le_refl _)); clear hi1 hg1 ha1))
  go_loopw [5, 1] (fun u i wr => ∃ (k : Nat) (ps : List Int), i = .int .i64 k ∧ k ≤ 9223372036854775807 ∧ cntV n = ps ++ cntV k ∧ BInts wr w.heap.size u (zs ++ ps) ∧ Below w.heap.size w wr) (fun _ i _ => (intOf i).toNat)
  case atStart => exact ⟨n, [], rfl, HN.out, rfl, by rw [List.append_nil]; exact HI1.out, HB1.out⟩
  case round =>
    obtain ⟨k, ps, rfl, hk, hcnt, hown, hbw⟩ := hrel
    have HOWN := Lib.hid hown
    have HBW := Lib.hid hbw
    have HCNT := Lib.hid hcnt
    have hpl : ps.length ≤ 9 := by
      have h9 := cnt_len9 (n := n) (by have := HN.out; omega)
      rw [hcnt] at h9; simp at h9; omega
    have HPL := Lib.hid hpl
    clear hcnt hown hbw hpl
    by_cases hlt : 128 ≤ k
    · have d1 : decide (128 ≤ k) = true := decide_eq_true hlt
      have d2 : decide ((128 : Int) ≤ (k : Int)) = true := decide_eq_true (by omega)
      obtain ⟨r, hr⟩ : ∃ r : Nat, k % 128 = r := ⟨_, rfl⟩
      obtain ⟨q, hq⟩ : ∃ q : Nat, k / 128 = q := ⟨_, rfl⟩
      have e1 : (k : Int).tmod 128 = (r : Int) := by rw [← hr]; rfl
      have e2 : (k : Int) % 128 = (r : Int) := by omega
      have e3 : IntKind.u8.wrap ((r : Int) + 128) = (r : Int) + 128 := u8_in (by omega) (by omega)
      have e4 : (k : Int) / 128 = (q : Int) := by omega
      have e5 : (k : Int).tdiv 128 = (q : Int) := by rw [← hq]; rfl
      have HC2 : Hid (cntV n = (ps ++ [(r : Int) + 128]) ++ cntV q) := Lib.hid (by rw [HCNT.out, cnt_big (by omega), hr, hq]; simp)
      have hqk : q < k := by omega
      clear hr hq
      go_wp2_with (first | (at_builtin; refine wpList_bytes rfl _ _ rfl w.heap.size _ (zs ++ ps) rfl (HOWN.out.below ((Below.refl wr.heap.size wr).alloc (Nat.le_refl _) _)) (A := some ⟨wr.heap.size, 0, none⟩) (m := 1) (c := 1) (ns := [(r : Int) + 128]) rfl nocap rfl (lit1_u8 wr ((r : Int) + 128)) (by have := HPL.out; have := HZL.out; simp; omega) (Nat.le_trans HBW.out.size (by simp)) ?_; intro v5 w5 hi5 hg5 ha5; have HI5 := Lib.hid hi5; have HB5 := Lib.hid ((HBW.out.alloc HBW.out.size _).trans (below_of_append (HOWN.out.below ((Below.refl wr.heap.size wr).alloc (Nat.le_refl _) (.cells #[.int .u8 ((r : Int) + 128)] 5))) hg5 (Nat.le_trans HBW.out.size (by simp)))); clear hi5 hg5 ha5))
      go_roundw
      case rel => exact ⟨q, ps ++ [(r : Int) + 128], by first | rfl | (congr 1), by omega, HC2.out, by rw [← List.append_assoc]; exact HI5.out, HB5.out⟩
      case measure => simp [intOf]; omega
    · have d1 : decide (128 ≤ k) = false := decide_eq_false hlt
      have d2 : decide ((128 : Int) ≤ (k : Int)) = false := decide_eq_false (by omega)
      have e3 : IntKind.u8.wrap (k : Int) = (k : Int) := u8_in (by omega) (by omega)
      have HC2 : Hid (cntV n = ps ++ [(k : Int)]) := Lib.hid (by rw [HCNT.out, cnt_small (by omega)])
      go_wp2_with (first | (at_builtin; refine wpList_bytes rfl _ _ rfl w.heap.size _ (zs ++ ps) rfl (HOWN.out.below ((Below.refl wr.heap.size wr).alloc (Nat.le_refl _) _)) (A := some ⟨wr.heap.size, 0, none⟩) (m := 1) (c := 1) (ns := [(k : Int)]) rfl nocap rfl (lit1_u8 wr ((k : Int))) (by have := HPL.out; have := HZL.out; simp; omega) (Nat.le_trans HBW.out.size (by simp)) ?_; intro v5 w5 hi5 hg5 ha5; have HI5 := Lib.hid hi5; have HB5 := Lib.hid ((HBW.out.alloc HBW.out.size _).trans (below_of_append (HOWN.out.below ((Below.refl wr.heap.size wr).alloc (Nat.le_refl _) (.cells #[.int .u8 ((k : Int))] 5))) hg5 (Nat.le_trans HBW.out.size (by simp)))); clear hi5 hg5 ha5))
      go_ret
      exact ⟨_, rfl, by rw [HC2.out, ← List.append_assoc]; exact HI5.out, HB5.out⟩
set_option maxRecDepth 100000 in
set_option maxHeartbeats 16000000 in
theorem folded_any (n : Int) (h : -2305843009213693952 ≤ n ∧ n ≤ 2305843009213693952) (w : World) : Calls Try.prog 76 #[.int .i64 n] w fun e w' => e = .returned (.int .i64 (foldV n : Int)) ∧ w' = w := by
  by_cases h0 : n < 0
  · have d : decide (n < 0) = true := decide_eq_true h0
    have e : ((foldV n : Nat) : Int) = -2 * n - 1 := by unfold foldV; rw [if_pos h0]; omega
    rw [e]
    clear e
    go_enter Try.func76, Try.ntmps76
    go_wp2_with fail
    go_ret
    exact ⟨ret_int (by omega), rfl⟩
  · have d : decide (n < 0) = false := decide_eq_false h0
    have e : ((foldV n : Nat) : Int) = 2 * n := by unfold foldV; rw [if_neg h0]; omega
    rw [e]
    clear e
    go_enter Try.func76, Try.ntmps76
    go_wp2_with fail
    go_ret
    exact ⟨ret_int (by omega), rfl⟩
set_option maxRecDepth 100000 in
set_option maxHeartbeats 16000000 in
theorem rfold_any (n : Int) (h : -2305843009213693952 ≤ n ∧ n ≤ 2305843009213693952) (w : World) : Calls Try.prog 43 #[.int .i64 n] w fun e w' => e = .returned (.int .i64 (foldV n : Int)) ∧ w' = w := by
  by_cases h0 : n < 0
  · have d : decide (n < 0) = true := decide_eq_true h0
    have e : ((foldV n : Nat) : Int) = -2 * n - 1 := by unfold foldV; rw [if_pos h0]; omega
    rw [e]
    clear e
    go_enter Try.func43, Try.ntmps43
    go_wp2_with fail
    go_ret
    exact ⟨ret_int (by omega), rfl⟩
  · have d : decide (n < 0) = false := decide_eq_false h0
    have e : ((foldV n : Nat) : Int) = 2 * n := by unfold foldV; rw [if_neg h0]; omega
    rw [e]
    clear e
    go_enter Try.func43, Try.ntmps43
    go_wp2_with fail
    go_ret
    exact ⟨ret_int (by omega), rfl⟩
set_option maxRecDepth 100000 in
set_option maxHeartbeats 16000000 in
theorem unfolded_any (c : Nat) (h : c ≤ 4611686018427387904) (w : World) : Calls Try.prog 84 #[.int .i64 c] w fun e w' => e = .returned (.int .i64 (unfV c)) ∧ w' = w := by
  have a1 := and_1 (c : Int)
  have t1 : (c : Int).tmod 2 = ((c % 2 : Nat) : Int) := rfl
  have t2 : (c : Int) % 2 = ((c % 2 : Nat) : Int) := by omega
  obtain ⟨q, hq⟩ : ∃ q : Nat, c / 2 = q := ⟨_, rfl⟩
  have s1 : (c : Int) / 2 = (q : Int) := by omega
  have s2 : (c : Int).tdiv 2 = (q : Int) := by rw [← hq]; rfl
  have hqc : q ≤ c := by omega
  by_cases h0 : c % 2 = 1
  · have e : unfV c = -(q : Int) - 1 := by unfold unfV; rw [if_pos h0, hq]
    have s3 : (-((c : Int) + 1)).tdiv 2 = -(q : Int) - 1 := by rw [Int.neg_tdiv]; show -(((c + 1) / 2 : Nat) : Int) = _; omega
    have s4 : (-(1 : Int) + -(c : Int)).tdiv 2 = -(q : Int) - 1 := by rw [← s3]; congr 1; omega
    rw [h0] at t1 t2
    rw [t2] at a1
    rw [e]
    clear e hq
    go_enter Try.func84, Try.ntmps84
    go_wp2_with fail
    go_ret
    exact ⟨ret_int (by omega), rfl⟩
  · have h1 : c % 2 = 0 := by omega
    have e : unfV c = (q : Int) := by unfold unfV; rw [if_neg h0, hq]
    rw [h1] at t1 t2
    rw [t2] at a1
    rw [e]
    clear e hq
    go_enter Try.func84, Try.ntmps84
    go_wp2_with fail
    go_ret
    exact ⟨ret_int (by omega), rfl⟩
set_option maxRecDepth 100000 in
set_option maxHeartbeats 16000000 in
theorem runfold_any (c : Nat) (h : c ≤ 4611686018427387904) (w : World) : Calls Try.prog 90 #[.int .i64 c] w fun e w' => e = .returned (.int .i64 (unfV c)) ∧ w' = w := by
  have a1 := and_1 (c : Int)
  have t1 : (c : Int).tmod 2 = ((c % 2 : Nat) : Int) := rfl
  have t2 : (c : Int) % 2 = ((c % 2 : Nat) : Int) := by omega
  obtain ⟨q, hq⟩ : ∃ q : Nat, c / 2 = q := ⟨_, rfl⟩
  have s1 : (c : Int) / 2 = (q : Int) := by omega
  have s2 : (c : Int).tdiv 2 = (q : Int) := by rw [← hq]; rfl
  have hqc : q ≤ c := by omega
  by_cases h0 : c % 2 = 1
  · have e : unfV c = -(q : Int) - 1 := by unfold unfV; rw [if_pos h0, hq]
    have s3 : (-((c : Int) + 1)).tdiv 2 = -(q : Int) - 1 := by rw [Int.neg_tdiv]; show -(((c + 1) / 2 : Nat) : Int) = _; omega
    have s4 : (-(1 : Int) + -(c : Int)).tdiv 2 = -(q : Int) - 1 := by rw [← s3]; congr 1; omega
    rw [h0] at t1 t2
    rw [t2] at a1
    rw [e]
    clear e hq
    go_enter Try.func90, Try.ntmps90
    go_wp2_with fail
    go_ret
    exact ⟨ret_int (by omega), rfl⟩
  · have h1 : c % 2 = 0 := by omega
    have e : unfV c = (q : Int) := by unfold unfV; rw [if_neg h0, hq]
    rw [h1] at t1 t2
    rw [t2] at a1
    rw [e]
    clear e hq
    go_enter Try.func90, Try.ntmps90
    go_wp2_with fail
    go_ret
    exact ⟨ret_int (by omega), rfl⟩
end Go.Proofs.Ytfinpgkehjbcpaa
/- Chapter 05: sums. -/
namespace Go.Proofs.Ytfinpgkehjbcpaa
open Go.ChangeShapes Go.WideShapes Go.ChangeAt Go.RowKit Go.Deep Go.Joins Go.Maps
set_option linter.unusedVariables false
set_option linter.unusedSimpArgs false
def IsB (zs : List Int) : Prop := ∀ x, x ∈ zs → 0 ≤ x ∧ x ≤ 255
theorem take_snoc {α : Type} {l : List α} {k : Nat} (h : k < l.length) : l.take (k + 1) = l.take k ++ [l[k]] := List.take_succ_eq_append_getElem h
set_option maxRecDepth 100000 in
set_option maxHeartbeats 16000000 in
theorem sum_any {w : World} {A : Option Addr} {c : Nat} {zs : List Int} (hB : Bytes w A zs) (hI : IsB zs) (hz : zs.length ≤ 1000000000) : Calls Try.prog 41 #[.slice A zs.length c] w fun e w' => e = .returned (.int .u32 (sumV zs)) ∧ Below w.heap.size w w' := by
  have HB := Lib.hid hB
  have HI := Lib.hid hI
  obtain ⟨n, hn⟩ : ∃ n, zs.length = n := ⟨_, rfl⟩
  rw [hn] at hz ⊢
  have HN := Lib.hid hn
  clear hB hI hn
  go_enter Try.func41, Try.ntmps41
  go_wp2_with fail
  go_loopw [3, 8] (fun u i wr => ∃ k : Nat, i = .int .i64 k ∧ k ≤ n ∧ u = .int .u32 (sumV (zs.take k)) ∧ Below w.heap.size w wr) (fun _ i _ => n - (intOf i).toNat)
  case atStart => exact ⟨0, rfl, Nat.zero_le _, rfl, Below.refl _ _⟩
  case round =>
    obtain ⟨k, rfl, hk, rfl, hbw⟩ := hrel
    have HBW := Lib.hid hbw
    by_cases hlt : k < n
    · have d1 : decide (k < n) = true := decide_eq_true hlt
      have d2 : decide ((k : Int) < (n : Int)) = true := decide_eq_true (by omega)
      have hkz : k < zs.length := by rw [HN.out]; exact hlt
      obtain ⟨b, off, rfl, hb, hc⟩ := HB.out.below hbw k hkz
      have hx := HI.out zs[k] (List.getElem_mem hkz)
      have hsn := sum_snoc (zs.take k) zs[k]
      rw [← take_snoc hkz] at hsn
      have hbd := sum_bd (zs.take k)
      obtain ⟨s, hs⟩ : ∃ s, sumV (zs.take k) = s := ⟨_, rfl⟩
      obtain ⟨x, hxx⟩ : ∃ x, zs[k] = x := ⟨_, rfl⟩
      rw [hs] at hsn hbd ⊢
      rw [hxx] at hsn hx hc
      obtain ⟨s', hs'⟩ : ∃ s', (31 * s + x) % 4294967296 = s' := ⟨_, rfl⟩
      rw [hs'] at hsn
      have HSN := Lib.hid hsn
      have m1 : IntKind.u32.wrap (31 * s) = (31 * s) % 4294967296 := IntKind.wrap_u32 _
      have m2 : IntKind.u32.wrap ((31 * s) % 4294967296 + x) = s' := by rw [IntKind.wrap_u32, ← hs']; omega
      have m3 : IntKind.u32.wrap x = x := by rw [IntKind.wrap_u32]; omega
      have g0 : (0 : Int) ≤ (k : Int) := by omega
      have g1 : (k : Int) < (n : Int) := by omega
      clear hsn hs hxx hbw hs'
      go_wp2_with fail
      go_roundw
      case rel => exact ⟨k + 1, by go_num, by omega, by rw [HSN.out], HBW.out⟩
      case measure => simp [intOf]; omega
    · have hkn : k = n := by omega
      have d1 : decide (k < n) = false := decide_eq_false hlt
      have d2 : decide ((k : Int) < (n : Int)) = false := decide_eq_false (by omega)
      have HE : Hid (zs.take k = zs) := Lib.hid (List.take_of_length_le (by rw [HN.out]; omega))
      clear hkn hlt hbw
      go_wp2_with fail
      go_ret
      exact ⟨by rw [HE.out]; rfl, HBW.out⟩
set_option maxRecDepth 100000 in
set_option maxHeartbeats 16000000 in
theorem rsum_any {w : World} {A : Option Addr} {c : Nat} {zs : List Int} (hB : Bytes w A zs) (hI : IsB zs) (hz : zs.length ≤ 1000000000) : Calls Try.prog 61 #[.slice A zs.length c] w fun e w' => e = .returned (.int .i64 (sumV zs)) ∧ Below w.heap.size w w' := by
  have HB := Lib.hid hB
  have HI := Lib.hid hI
  obtain ⟨n, hn⟩ : ∃ n, zs.length = n := ⟨_, rfl⟩
  rw [hn] at hz ⊢
  have HN := Lib.hid hn
  clear hB hI hn
  go_enter Try.func61, Try.ntmps61
  go_wp2_with fail
  go_loopw [3, 4] (fun u i wr => ∃ k : Nat, i = .int .i64 k ∧ k ≤ n ∧ u = .int .i64 (sumV (zs.take k)) ∧ Below w.heap.size w wr) (fun _ i _ => n - (intOf i).toNat)
  case atStart => exact ⟨0, rfl, Nat.zero_le _, rfl, Below.refl _ _⟩
  case round =>
    obtain ⟨k, rfl, hk, rfl, hbw⟩ := hrel
    have HBW := Lib.hid hbw
    by_cases hlt : k < n
    · have d1 : decide (k < n) = true := decide_eq_true hlt
      have d2 : decide ((k : Int) < (n : Int)) = true := decide_eq_true (by omega)
      have hkz : k < zs.length := by rw [HN.out]; exact hlt
      obtain ⟨b, off, rfl, hb, hc⟩ := HB.out.below hbw k hkz
      have hx := HI.out zs[k] (List.getElem_mem hkz)
      have hsn := sum_snoc (zs.take k) zs[k]
      rw [← take_snoc hkz] at hsn
      have hbd := sum_bd (zs.take k)
      obtain ⟨s, hs⟩ : ∃ s, sumV (zs.take k) = s := ⟨_, rfl⟩
      obtain ⟨x, hxx⟩ : ∃ x, zs[k] = x := ⟨_, rfl⟩
      rw [hs] at hsn hbd ⊢
      rw [hxx] at hsn hx hc
      obtain ⟨s', hs'⟩ : ∃ s', (31 * s + x) % 4294967296 = s' := ⟨_, rfl⟩
      rw [hs'] at hsn
      have HSN := Lib.hid hsn
      have m1 : IntKind.i64.wrap (31 * s) = 31 * s := IntWalk.i64_in _ ⟨by omega, by omega⟩
      have m2 : IntKind.i64.wrap (31 * s + x) = 31 * s + x := IntWalk.i64_in _ ⟨by omega, by omega⟩
      have m3 : (31 * s + x).tmod 4294967296 = s' := by rw [Int.tmod_eq_emod_of_nonneg (by omega)]; exact hs'
      have m4 : (31 * s + x) % 4294967296 = s' := hs'
      have g0 : (0 : Int) ≤ (k : Int) := by omega
      have g1 : (k : Int) < (n : Int) := by omega
      clear hsn hs hxx hbw hs'
      go_wp2_with fail
      go_roundw
      case rel => exact ⟨k + 1, by go_num, by omega, by rw [HSN.out], HBW.out⟩
      case measure => simp [intOf]; omega
    · have hkn : k = n := by omega
      have d1 : decide (k < n) = false := decide_eq_false hlt
      have d2 : decide ((k : Int) < (n : Int)) = false := decide_eq_false (by omega)
      have HE : Hid (zs.take k = zs) := Lib.hid (List.take_of_length_le (by rw [HN.out]; omega))
      clear hkn hlt hbw
      go_wp2_with fail
      go_ret
      exact ⟨by rw [HE.out]; rfl, HBW.out⟩
def tailN (s : Int) : Nat → List Int
  | 0 => []
  | k + 1 => s % 256 :: tailN (s / 256) k
theorem tail_four (s : Int) (h : 0 ≤ s) : tailN s 4 = tailV s := by
  unfold tailV
  simp only [tailN]
  rw [Int.ediv_ediv_of_nonneg (by omega), Int.ediv_ediv_of_nonneg (by omega)]
  rfl
set_option maxRecDepth 100000 in
set_option maxHeartbeats 16000000 in
theorem rsealed_any {w : World} {A : Option Addr} {c : Nat} {zs : List Int} (hB : Bytes w A zs) (hc0 : A = none → c = 0) (hI : IsB zs) (hz : zs.length ≤ 900000000) : Calls Try.prog 21 #[.slice A zs.length c] w fun e w' => ∃ v', e = .returned v' ∧ BInts w' w.heap.size v' (sealV zs) ∧ Below w.heap.size w w' := by
  have hsum := rsum_any (c := c) hB hI (by omega)
  obtain ⟨sm, hsm⟩ : ∃ s, sumV zs = s := ⟨_, rfl⟩
  have hbd := sum_bd zs
  rw [hsm] at hsum hbd
  have HSE : Hid (sealV zs = zs ++ tailN sm 4) := Lib.hid (by unfold sealV; rw [hsm, tail_four _ hbd.1])
  rw [HSE.out]
  have HSU := Lib.hid hsum
  have HB := Lib.hid hB
  have HC0 := Lib.hid hc0
  have HZL := Lib.hid hz
  have HSB := Lib.hid hbd
  obtain ⟨zl, hzl⟩ : ∃ zl, zs.length = zl := ⟨_, rfl⟩
  rw [hzl] at HSU hz ⊢
  have HZE := Lib.hid hzl
  clear hB hc0 hI hsum hsm hzl hbd
  go_enter Try.func21, Try.ntmps21
  go_wp2_with fail
  (with_reducible refine HSU.out.mono ?_)
  rintro e w1 ⟨rfl, hb1⟩
  have HB1 := Lib.hid (HB.out.below hb1)
  have HBB1 := Lib.hid hb1
  clear hb1
  go_wp2_with (first | (at_builtin; refine wpList_bytes rfl _ _ rfl w.heap.size _ [] rfl (BInts.nil w1 w.heap.size) (A := A) (m := zl) (c := c) (ns := zs) rfl HC0.out HZE.out HB1.out (by simp; omega) HBB1.out.size ?_; intro v2 w2 hi2 hg2 ha2; have HI2 := Lib.hid hi2; have HB2 := Lib.hid (HBB1.out.trans (below_of_append (BInts.nil w1 w.heap.size) hg2 HBB1.out.size)); clear hi2 hg2 ha2))
  go_loopw [3, 4, 5] (fun s u i wr => ∃ (k : Nat) (ps : List Int) (sk : Int), i = .int .i64 k ∧ k ≤ 4 ∧ s = .int .i64 sk ∧ (0 ≤ sk ∧ sk ≤ 4294967295) ∧ ps.length = k ∧ tailN sm 4 = ps ++ tailN sk (4 - k) ∧ BInts wr w.heap.size u (zs ++ ps) ∧ Below w.heap.size w wr) (fun _ _ i _ => 4 - (intOf i).toNat)
  case atStart => exact ⟨0, [], sm, rfl, by omega, rfl, by have := HSB.out; omega, by simp, rfl, by rw [List.append_nil]; exact HI2.out, HB2.out⟩
  case round =>
    obtain ⟨k, ps, sk, rfl, hk, rfl, hsk, hpl, htail, hown, hbw⟩ := hrel
    have HOWN := Lib.hid hown
    have HBW := Lib.hid hbw
    have HT := Lib.hid htail
    have HPL := Lib.hid hpl
    clear htail hown hbw hpl
    by_cases hlt : k < 4
    · have d1 : decide (k < 4) = true := decide_eq_true hlt
      have d2 : decide ((k : Int) < 4) = true := decide_eq_true (by omega)
      have HT2 : Hid (tailN sm 4 = (ps ++ [sk % 256]) ++ tailN (sk / 256) (4 - (k + 1))) := Lib.hid (by rw [HT.out, show 4 - k = 4 - (k + 1) + 1 by omega, tailN]; simp)
      obtain ⟨r, hr⟩ : ∃ r, sk % 256 = r := ⟨_, rfl⟩
      obtain ⟨q, hq⟩ : ∃ q, sk / 256 = q := ⟨_, rfl⟩
      have e1 : sk.tmod 256 = r := by rw [Int.tmod_eq_emod_of_nonneg (by omega)]; exact hr
      have e2 : sk.tdiv 256 = q := by rw [Int.tdiv_eq_ediv_of_nonneg (by omega)]; exact hq
      have e3 : IntKind.u8.wrap r = r := u8_in (by omega) (by omega)
      have hqb : 0 ≤ q ∧ q ≤ 4294967295 := by omega
      rw [hr, hq] at HT2
      go_wp2_with (first | (at_builtin; refine wpList_bytes rfl _ _ rfl w.heap.size _ (zs ++ ps) rfl (HOWN.out.below ((Below.refl wr.heap.size wr).alloc (Nat.le_refl _) _)) (A := some ⟨wr.heap.size, 0, none⟩) (m := 1) (c := 1) (ns := [r]) rfl nocap rfl (lit1_u8 wr r) (by have := HPL.out; have := HZL.out; simp; omega) (Nat.le_trans HBW.out.size (by simp)) ?_; intro v5 w5 hi5 hg5 ha5; have HI5 := Lib.hid hi5; have HB5 := Lib.hid ((HBW.out.alloc HBW.out.size _).trans (below_of_append (HOWN.out.below ((Below.refl wr.heap.size wr).alloc (Nat.le_refl _) (.cells #[.int .u8 r] 5))) hg5 (Nat.le_trans HBW.out.size (by simp)))); clear hi5 hg5 ha5))
      go_roundw
      case rel => exact ⟨k + 1, ps ++ [r], q, by go_num, by omega, by first | rfl | (congr 1), hqb, by have := HPL.out; simp; omega, HT2.out, by rw [← List.append_assoc]; exact HI5.out, HB5.out⟩
      case measure => simp [intOf]; omega
    · have hk4 : k = 4 := by omega
      subst hk4
      have HT2 : Hid (tailN sm 4 = ps) := Lib.hid (by rw [HT.out]; simp [tailN])
      go_wp2_with fail
      go_ret
      exact ⟨_, rfl, by rw [HT2.out]; exact HOWN.out, HBW.out⟩
end Go.Proofs.Ytfinpgkehjbcpaa
