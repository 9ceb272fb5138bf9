/- Chapter 09: bytes read as instructions. -/
import Derived.Test.YtclndbiljhbbkaaDoorC6
namespace Go.Proofs.YtclndbiljhbbkaaDoor
open Go.ChangeShapes Go.WideShapes Go.ChangeAt Go.RowKit Go.Deep Go.Joins
set_option linter.unusedVariables false
set_option linter.unusedSimpArgs false
theorem neqI (x y z : Int) (w : World) : (binOp .neq 31 (.agg #[.int .i64 x, .int .i64 y, .int .i64 z]) (.agg #[.int .i64 x, .int .i64 y, .int .i64 z])).run Tryd.prog w = .ok (.bool false) w := by
  simp [go_sem]
theorem code_same {w0 w : World} {A B : Option Addr} {n c d : Nat} {C : Nat → Ins} (hA : IsCode w0 A n C) (hA' : IsCode w0 B n C) (hn : n ≤ 1000) (hB : Below w0.heap.size w0 w) :
    Calls Tryd.prog 26 #[.slice A n c, .slice B n d] w fun e w' => e = .returned (.bool true) ∧ Below w.heap.size w w' := by
  have hI : Inv w0 w w w := Inv.start hB (Below.refl _ _)
  clear hB
  go_enter Tryd.func26, Tryd.ntmps26
  go_wp2_with fail
  go_loopw [5] (fun i wr => ∃ k : Nat, k ≤ n ∧ i = .int .i64 k ∧ Inv w0 w w wr) (fun i _ => n - (intOf i).toNat)
  case atStart => exact ⟨0, Nat.zero_le _, rfl, hI⟩
  case round =>
    clear hI
    obtain ⟨k, hk, rfl, hI⟩ := hrel
    by_cases hlt : k < n
    · have hlt' : decide (k < n) = true := decide_eq_true hlt
      obtain ⟨g, off, rfl, hgl, c0, c1, c2⟩ := hA.at_ hI.b0 hlt
      obtain ⟨g', off', rfl, hgl', e0, e1, e2⟩ := hA'.at_ hI.b0 hlt
      obtain ⟨i, hi⟩ : ∃ i, C k = i := ⟨_, rfl⟩
      rw [hi] at c0 c1 c2 e0 e1 e2
      have hq := neqI
      clear hA hA' hi
      go_wp2_with fail
      go_quiet (fail)
      go_wp2
      go_roundw
      case rel => exact ⟨k + 1, by omega, by go_num, hI.go (by (repeat' (first | (with_reducible exact Below.refl _ _) | (with_reducible assumption) | (with_reducible refine below_drewN ?_ _) | (with_reducible refine Below.alloc ?_ ?_ _) | (with_reducible refine Below.drew ?_) | (with_reducible refine Below.setCell ?_ ?_ _) | go_size)))⟩
      case measure => simp [intOf]; omega
    · have hkn : k = n := by omega
      have hlt' : decide (k < n) = false := decide_eq_false hlt
      go_wp2
      go_ret
      exact ⟨rfl, hI.bw⟩
theorem lit3_i64 (w : World) (x y z : Int) : ∀ (j : Nat) (u : Value), (rowsL 1 3 (fun _ => insCell ⟨x, y, z⟩))[j]? = some u → (w.alloc (.cells #[.int .i64 x, .int .i64 y, .int .i64 z] 31)).cell? ((⟨w.heap.size, 0, none⟩ : Addr).add j) = some u := by
  have h := heap_alloc_new w (.cells #[.int .i64 x, .int .i64 y, .int .i64 z] 31)
  intro j u hu
  rw [add_plain, Nat.zero_add]
  unfold World.cell?
  rw [h]
  match j, hu with
  | 0, hu => exact hu
  | 1, hu => exact hu
  | 2, hu => exact hu
  | _ + 3, hu => simp [rowsL] at hu
/-- one instruction more -/
theorem row_more {w' : World} {base k : Nat} {v' : Value} {C : Nat → Ins} {x y z : Int} (hC : C k = ⟨x, y, z⟩) (h : w'.ownsRow base 31 3 v' (k + 1) (rowsL k 3 (fun i => insCell (C i)) ++ rowsL 1 3 (fun _ => insCell ⟨x, y, z⟩))) : IRow w' base v' (k + 1) C := by
  unfold IRow
  rw [rowsL_succ, hC]
  exact h
theorem wpList_ins {w : World} {ops : Array Oper} {rest : List Oper} {o : Oper} {a : Act} {Q : Exit → Act → World → Prop} (hgd : o.guard = none) (s x : Operand)
    (ho : o.op = .call { callee := .builtin .append, args := #[s, x], argTypes := #[22, 22] })
    (base : Nat) (v : Value) (k : Nat) (C : Nat → Ins) (hs : a.eval s = v) (hown : IRow w base v k C) {B c : Nat} {p q r : Int}
    (hx : a.eval x = .slice (some ⟨B, 0, none⟩) 1 c) (hc : ∀ (j : Nat) (u : Value), (rowsL 1 3 (fun _ => insCell ⟨p, q, r⟩))[j]? = some u → w.cell? ((⟨B, 0, none⟩ : Addr).add j) = some u) (hb : k + 1 ≤ 1000000) (hbase : base ≤ w.heap.size) (hC : C k = ⟨p, q, r⟩)
    (h : ∀ v' w', IRow w' base v' (k + 1) C → Below base w w' → wpList Tryd.prog ops Q rest (a.put o.dst v') w') : wpList Tryd.prog ops Q (o :: rest) a w := by
  obtain ⟨i0, hi, hz0, hz1, hz2⟩ := info_parts infoC
  refine wpList_append_own (P := Tryd.prog) _ hgd s x 22 ho base 31 i0 (.agg #[.int .i64 0, .int .i64 0, .int .i64 0]) 3 24 Tryd.underlying22 hi hz0 hz1 hz2 rfl (by decide) v k _ hs hown ⟨B, 0, none⟩ 1 c (rowsL 1 3 (fun _ => insCell ⟨p, q, r⟩)) hx (rowsL_len _ _ _) hc (rowsL_one (fun i _ j _ => ins_one _ j)) (by unfold maxLen; omega) (by omega) hbase ?_
  intro v' w' h2 h3 _
  exact h v' w' (row_more hC h2) (below_of_append hown h3 hbase)
theorem step_ins {ops : Array Oper} {o : Oper} {a : Act} {w : World} {K : Act → World → Prop} {Q : Exit → Act → World → Prop} {E : Prop} (hg : o.guard = none) (s x : Operand)
    (ho : o.op = .call { callee := .builtin .append, args := #[s, x], argTypes := #[22, 22] })
    (base : Nat) (v : Value) (k : Nat) (C : Nat → Ins) (hs : a.eval s = v) (hown : IRow w base v k C) {B c : Nat} {p q r : Int}
    (hx : a.eval x = .slice (some ⟨B, 0, none⟩) 1 c) (hc : ∀ (j : Nat) (u : Value), (rowsL 1 3 (fun _ => insCell ⟨p, q, r⟩))[j]? = some u → w.cell? ((⟨B, 0, none⟩ : Addr).add j) = some u) (hb : k + 1 ≤ 1000000) (hbase : base ≤ w.heap.size) (hC : C k = ⟨p, q, r⟩)
    (hK : ∀ v' w', IRow w' base v' (k + 1) C → Below base w w' → K (a.put o.dst v') w') : if Region.wanted o (yielded ops a.tmps) = true then Oper.wp Tryd.prog o a w K Q else E := by
  obtain ⟨i0, hi, hz0, hz1, hz2⟩ := info_parts infoC
  rw [if_pos (by simp [Region.wanted, hg])]
  refine wp_append_own (P := Tryd.prog) _ s x 22 ho base 31 i0 (.agg #[.int .i64 0, .int .i64 0, .int .i64 0]) 3 24 Tryd.underlying22 hi hz0 hz1 hz2 rfl (by decide) v k _ hs hown ⟨B, 0, none⟩ 1 c (rowsL 1 3 (fun _ => insCell ⟨p, q, r⟩)) hx (rowsL_len _ _ _) hc (rowsL_one (fun i _ j _ => ins_one _ j)) (by unfold maxLen; omega) (by omega) hbase ?_
  intro v' w' h2 h3 _
  exact hK v' w' (row_more hC h2) (below_of_append hown h3 hbase)
/-- the instructions that bytes are -/
def insB (F : Nat → Int) (i : Nat) : Ins := ⟨F (3 * i), F (3 * i + 1), F (3 * i + 2)⟩
/-- how many instructions are read, and what is told -/
def readV (F : Nat → Int) (n : Nat) : Nat × Int := if n % 3 = 0 ∧ n ≤ 1200 ∧ mayTo (insB F) (n / 3) = true then (n / 3, 0) else (0, 19)
def ReadP (w : World) (F : Nat → Int) (n : Nat) (e : Ending) (w' : World) : Prop := ∃ v, e = .returned (.tuple #[v, .int .i64 (readV F n).2]) ∧ IRow w' w.heap.size v (readV F n).1 (insB F) ∧ Below w.heap.size w w'
def IsBytes (w : World) (p : Option Addr) (n : Nat) (F : Nat → Int) : Prop := Row w p n 1 (fun i _ => .int .u8 (F i))
theorem IsBytes.at_ {w0 w : World} {p : Option Addr} {n : Nat} {F : Nat → Int} (h : IsBytes w0 p n F) (hB : Below w0.heap.size w0 w) (hn : 0 < n) : ∃ b off, p = some ⟨b, off, none⟩ ∧ b < w0.heap.size ∧ ∀ i, i < n → w.cell? ⟨b, off + i, none⟩ = some (.int .u8 (F i)) := by
  obtain ⟨b, off, e, hlt, hc⟩ := h hn
  exact ⟨b, off, e, hlt, fun i hi => (hB.cell (p := ⟨b, off + i, none⟩) hlt).trans (by have := hc i hi 0 (by decide); simpa using this)⟩
set_option maxRecDepth 100000 in
set_option maxHeartbeats 16000000 in
theorem read_any {w : World} {p : Option Addr} {n c : Nat} {F : Nat → Int} (hC : IsBytes w p n F) (hF : ∀ i, i < n → 0 ≤ F i ∧ F i ≤ 255) (hn : n ≤ 2000) (hc : n ≤ c) (hc2 : c ≤ 9223372036854775807) : Calls Tryd.prog 24 #[.slice p n c] w (ReadP w F n) := by
  have HC := Lib.hid hC
  have HF := Lib.hid hF
  clear hC hF
  go_enter Tryd.func24, Tryd.ntmps24
  go_wp2_with fail
  go_loopw [0, 4] (fun b v wr => ∃ (k m d : Nat) (q : Option Addr), b = .slice q m d ∧ m + 3 * k = n ∧ m ≤ d ∧ d ≤ c ∧ (∀ bb off, p = some ⟨bb, off, none⟩ → 0 < m → q = some ⟨bb, off + 3 * k, none⟩) ∧ IRow wr w.heap.size v k (insB F) ∧ Below w.heap.size w wr) (fun b _ _ => match b with | .slice _ m _ => m | _ => 0)
  case atStart => exact ⟨0, n, c, p, rfl, by omega, hc, Nat.le_refl _, fun bb off e _ => e, IRow.nil _ _ _, Below.refl _ _⟩
  case round =>
    obtain ⟨k, m, d, q, rfl, hmk, hmd, hdc, hq, hown, hbw⟩ := hrel
    have HOWN := Lib.hid hown
    have HBW := Lib.hid hbw
    have HQ := Lib.hid hq
    have hbs := hbw.size
    by_cases h3 : 3 ≤ m
    · have d1 : decide (3 ≤ m) = true := decide_eq_true h3
      have d2 : decide ((3 : Int) ≤ (m : Int)) = true := decide_eq_true (by omega)
      obtain ⟨bb, off, hp, hlt0, hcell⟩ := HC.out.at_ hbw (show 0 < n by omega)
      have hqq := HQ.out bb off hp (by omega)
      clear HQ hq
      subst hqq
      have c0 := hcell (3 * k) (by omega)
      have c1 := hcell (3 * k + 1) (by omega)
      have c2 := hcell (3 * k + 2) (by omega)
      rw [← Nat.add_assoc] at c1 c2
      obtain ⟨x, hx⟩ : ∃ x, F (3 * k) = x := ⟨_, rfl⟩
      obtain ⟨y, hy⟩ : ∃ x, F (3 * k + 1) = x := ⟨_, rfl⟩
      obtain ⟨z, hz⟩ : ∃ x, F (3 * k + 2) = x := ⟨_, rfl⟩
      have HIN : Hid (insB F k = ⟨x, y, z⟩) := Lib.hid (by unfold insB; rw [hx, hy, hz])
      rw [hx] at c0
      rw [hy] at c1
      rw [hz] at c2
      have bx := HF.out (3 * k) (by omega)
      have by_ := HF.out (3 * k + 1) (by omega)
      have bz := HF.out (3 * k + 2) (by omega)
      rw [hx] at bx
      rw [hy] at by_
      rw [hz] at bz
      obtain ⟨o, ho⟩ : ∃ o, off + 3 * k = o := ⟨_, rfl⟩
      rw [ho] at c0 c1 c2 ⊢
      have hlt1 : bb < wr.heap.size := Nat.lt_of_lt_of_le hlt0 hbs
      have g1 : (1 : Int) < (m : Int) := by omega
      have g2 : (2 : Int) < (m : Int) := by omega
      have g0 : (0 : Int) < (m : Int) := by omega
      have wx : IntKind.i64.wrap x = x := IntWalk.i64_in _ ⟨by omega, by omega⟩
      have wy : IntKind.i64.wrap y = y := IntWalk.i64_in _ ⟨by omega, by omega⟩
      have wz : IntKind.i64.wrap z = z := IntWalk.i64_in _ ⟨by omega, by omega⟩
      have HP := Lib.hid hp
      have HO := Lib.hid ho
      have HCC : Hid (∀ w', Below w.heap.size w w' → w'.cell? ⟨bb, o, none⟩ = some (.int .u8 x) ∧ w'.cell? ⟨bb, o + 1, none⟩ = some (.int .u8 y) ∧ w'.cell? ⟨bb, o + 2, none⟩ = some (.int .u8 z)) := Lib.hid (fun w' hb => by
        obtain ⟨b2, off2, e2, _, hc2⟩ := HC.out.at_ hb (show 0 < n by omega)
        rw [hp] at e2
        cases e2
        refine ⟨by rw [← ho, hc2 _ (by omega), hx], by rw [← ho, Nat.add_assoc, hc2 _ (by omega), hy], by rw [← ho, Nat.add_assoc, hc2 _ (by omega), hz]⟩)
      clear hcell hx hy hz hown hp ho
      go_wp2_with fail
      go_region_held_law (fun w' => w'.cell? ⟨bb, o, none⟩ = some (.int .u8 x) ∧ w'.cell? ⟨bb, o + 1, none⟩ = some (.int .u8 y) ∧ w'.cell? ⟨bb, o + 2, none⟩ = some (.int .u8 z)) (first | assumption | (refine ⟨?_, ?_, ?_⟩ <;> first | assumption | (refine alloc_keep ?_; assumption) | (simp [go_sem, *]; done)) | (simp [go_sem, *]; done)) (first | (refine step_ins rfl _ _ rfl w.heap.size u4 k (insB F) (by simp [Act.eval, Act.put]) (HOWN.out.below (show Below wr.heap.size wr _ by exact Below.drew ((Below.refl _ _).alloc (Nat.le_refl _) _))) (B := wr.heap.size) (c := 1) (p := x) (q := y) (r := z) (by simp [Act.eval, Act.put]) (lit3_i64 wr x y z) (by omega) (Nat.le_trans hbs (by simp)) HIN.out ?_; intro v5 w5 hi5 hb5; have HI5 := Lib.hid hi5; have HB5 := Lib.hid ((show Below w.heap.size w _ by exact Below.drew ((HBW.out).alloc HBW.out.size _)).trans hb5); have s1 := HCC.out _ HB5.out; clear hi5 hb5))
      go_wp2_with fail
      go_roundw
      case rel =>
        refine ⟨k + 1, m - 3, d - 3, _, rfl, by omega, by omega, by omega, fun bb' off' e h => ?_, HI5.out, HB5.out⟩
        rw [HP.out] at e
        cases e
        rw [if_neg (by omega), ← HO.out, Nat.mul_add, Nat.add_assoc]
      case measure => simp; omega
    · have d1 : decide (3 ≤ m) = false := decide_eq_false h3
      have d2 : decide ((3 : Int) ≤ (m : Int)) = false := decide_eq_false (by omega)
      have hk3 : n / 3 = k := by omega
      obtain ⟨A, cA, rfl, hA1, hA2, hcode⟩ := hown.code
      have HCODE := Lib.hid hcode
      clear hown hq hcode
      cases hok : decide (k ≤ 400 ∧ mayTo (insB F) k = true)
      · have HP : Hid (putV (insB F) k = ([], 19)) := Lib.hid (by unfold putV; rw [if_neg (of_decide_eq_false hok)])
        have HV : Hid (readV F n = (0, 19)) := Lib.hid (by unfold readV; rw [if_neg (fun q => of_decide_eq_false hok ⟨by omega, by rw [← hk3]; exact q.2.2⟩)])
        clear hok
        go_wp2_with fail
        (with_reducible refine (put_any (c := cA) HCODE.out).mono ?_)
        rintro e w2 ⟨v2, rfl, _, hb2⟩
        rw [HP.out]
        have hB2 := HBW.out.trans (hb2.mono HBW.out.size)
        go_wp2_with fail
        go_returns
        try unfold ReadP
        rw [HV.out]
        exact ⟨_, rfl, IRow.nil _ _ _, hB2⟩
      · have HP : Hid (putV (insB F) k = (bytesV (insB F) k, 0)) := Lib.hid (by unfold putV; rw [if_pos (of_decide_eq_true hok)])
        by_cases h0 : 0 < m
        · have d3 : decide (0 < m) = true := decide_eq_true h0
          have d4 : decide ((0 : Int) < (m : Int)) = true := decide_eq_true (by omega)
          have HV : Hid (readV F n = (0, 19)) := Lib.hid (by unfold readV; rw [if_neg (fun q => by have := q.1; omega)])
          clear hok
          go_wp2_with fail
          (with_reducible refine (put_any (c := cA) HCODE.out).mono ?_)
          rintro e w2 ⟨v2, rfl, _, hb2⟩
          rw [HP.out]
          have hB2 := HBW.out.trans (hb2.mono HBW.out.size)
          go_wp2_with fail
          go_returns
          try unfold ReadP
          rw [HV.out]
          exact ⟨_, rfl, IRow.nil _ _ _, hB2⟩
        · obtain rfl : m = 0 := by omega
          have HV : Hid (readV F n = (k, 0)) := Lib.hid (by unfold readV; rw [if_pos ⟨by omega, by have := (of_decide_eq_true hok).1; omega, by rw [hk3]; exact (of_decide_eq_true hok).2⟩, hk3])
          clear hok
          go_wp2_with fail
          (with_reducible refine (put_any (c := cA) HCODE.out).mono ?_)
          rintro e w2 ⟨v2, rfl, _, hb2⟩
          rw [HP.out]
          have hB2 := HBW.out.trans (hb2.mono HBW.out.size)
          have HOWN2 := Lib.hid (HOWN.out.below hb2)
          go_wp2_with fail
          go_returns
          try unfold ReadP
          rw [HV.out]
          exact ⟨_, rfl, HOWN2.out, hB2⟩
end Go.Proofs.YtclndbiljhbbkaaDoor
