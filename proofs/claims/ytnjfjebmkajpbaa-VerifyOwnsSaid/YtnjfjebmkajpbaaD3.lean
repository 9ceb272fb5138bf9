/- The depths of a code: the walk. -/
import Derived.Test.YtnjfjebmkajpbaaD2
import Derived.Deep.RegionHeld3
namespace Go.Proofs.Ytnjfjebmkajpbaa
open Go.ChangeShapes Go.WideShapes Go.ChangeAt Go.RowKit
set_option linter.unusedVariables false
set_option linter.unusedSimpArgs false

theorem DT.start (w : World) (p po : Option Addr) (n c co : Nat) (hn : n ≤ 100000) {M : Array Value} (hM : madeCells #[Value.int .i64 0] n = M) : DT w.heap.size p po n c co (List.replicate n 0) [] (.slice none 0 0) (((((w.alloc (.cells #[.slice p n c] 23)).alloc (.cells #[.slice po n co] 29)).alloc (.cells M 3)).alloc (.cells #[.slice (some ⟨w.heap.size + 2, 0, none⟩) n n] 29)).alloc (.cells #[.slice none 0 0] 29)) := by
  have b1 : Below (w.alloc (.cells #[.slice p n c] 23)).heap.size (w.alloc (.cells #[.slice p n c] 23)) (((((w.alloc (.cells #[.slice p n c] 23)).alloc (.cells #[.slice po n co] 29)).alloc (.cells M 3)).alloc (.cells #[.slice (some ⟨w.heap.size + 2, 0, none⟩) n n] 29)).alloc (.cells #[.slice none 0 0] 29)) := by (repeat' (first | (with_reducible exact Below.refl _ _) | (with_reducible assumption) | (with_reducible refine below_drewN ?_ _) | (with_reducible refine Below.alloc ?_ ?_ _) | (with_reducible refine Below.drew ?_) | (with_reducible refine Below.setCell ?_ ?_ _) | go_size))
  have b2 : Below ((w.alloc (.cells #[.slice p n c] 23)).alloc (.cells #[.slice po n co] 29)).heap.size ((w.alloc (.cells #[.slice p n c] 23)).alloc (.cells #[.slice po n co] 29)) (((((w.alloc (.cells #[.slice p n c] 23)).alloc (.cells #[.slice po n co] 29)).alloc (.cells M 3)).alloc (.cells #[.slice (some ⟨w.heap.size + 2, 0, none⟩) n n] 29)).alloc (.cells #[.slice none 0 0] 29)) := by (repeat' (first | (with_reducible exact Below.refl _ _) | (with_reducible assumption) | (with_reducible refine below_drewN ?_ _) | (with_reducible refine Below.alloc ?_ ?_ _) | (with_reducible refine Below.drew ?_) | (with_reducible refine Below.setCell ?_ ?_ _) | go_size))
  have b3 : Below (((w.alloc (.cells #[.slice p n c] 23)).alloc (.cells #[.slice po n co] 29)).alloc (.cells M 3)).heap.size (((w.alloc (.cells #[.slice p n c] 23)).alloc (.cells #[.slice po n co] 29)).alloc (.cells M 3)) (((((w.alloc (.cells #[.slice p n c] 23)).alloc (.cells #[.slice po n co] 29)).alloc (.cells M 3)).alloc (.cells #[.slice (some ⟨w.heap.size + 2, 0, none⟩) n n] 29)).alloc (.cells #[.slice none 0 0] 29)) := by (repeat' (first | (with_reducible exact Below.refl _ _) | (with_reducible assumption) | (with_reducible refine below_drewN ?_ _) | (with_reducible refine Below.alloc ?_ ?_ _) | (with_reducible refine Below.drew ?_) | (with_reducible refine Below.setCell ?_ ?_ _) | go_size))
  have b4 : Below ((((w.alloc (.cells #[.slice p n c] 23)).alloc (.cells #[.slice po n co] 29)).alloc (.cells M 3)).alloc (.cells #[.slice (some ⟨w.heap.size + 2, 0, none⟩) n n] 29)).heap.size ((((w.alloc (.cells #[.slice p n c] 23)).alloc (.cells #[.slice po n co] 29)).alloc (.cells M 3)).alloc (.cells #[.slice (some ⟨w.heap.size + 2, 0, none⟩) n n] 29)) (((((w.alloc (.cells #[.slice p n c] 23)).alloc (.cells #[.slice po n co] 29)).alloc (.cells M 3)).alloc (.cells #[.slice (some ⟨w.heap.size + 2, 0, none⟩) n n] 29)).alloc (.cells #[.slice none 0 0] 29)) := by (repeat' (first | (with_reducible exact Below.refl _ _) | (with_reducible assumption) | (with_reducible refine below_drewN ?_ _) | (with_reducible refine Below.alloc ?_ ?_ _) | (with_reducible refine Below.drew ?_) | (with_reducible refine Below.setCell ?_ ?_ _) | go_size))
  have e1 := heap_alloc_new w (.cells #[.slice p n c] 23)
  have e2 := heap_alloc_new (w.alloc (.cells #[.slice p n c] 23)) (.cells #[.slice po n co] 29)
  have e4 := heap_alloc_new (((w.alloc (.cells #[.slice p n c] 23)).alloc (.cells #[.slice po n co] 29)).alloc (.cells M 3)) (.cells #[.slice (some ⟨w.heap.size + 2, 0, none⟩) n n] 29)
  have e5 := heap_alloc_new ((((w.alloc (.cells #[.slice p n c] 23)).alloc (.cells #[.slice po n co] 29)).alloc (.cells M 3)).alloc (.cells #[.slice (some ⟨w.heap.size + 2, 0, none⟩) n n] 29)) (.cells #[.slice none 0 0] 29)
  have o3 := own_made ((w.alloc (.cells #[.slice p n c] 23)).alloc (.cells #[.slice po n co] 29)) (base := w.heap.size + 2) n (by simp) hn hM
  simp only [World.size_alloc] at e1 e2 e4 e5 o3
  exact ⟨(b1.block _ (lt_of_block e1)).trans e1, (b2.block _ (lt_of_block e2)).trans e2, o3.below b3, (b4.block _ (lt_of_block e4)).trans e4, e5, World.ownsRow_nil _ _ _ _⟩
theorem own_cap {w : World} {base : Nat} {e : TypeId} {size n g cap m : Nat} {xs : List Value} (h : w.ownsRow base e size (.slice (some ⟨g, 0, none⟩) m cap) n xs) : n ≤ cap := by
  rcases h.2 with ⟨h', _⟩ | ⟨g', cap', cur, h', _, _, h1, _⟩
  · cases h'
  · cases h'; exact h1
theorem below_cell {X Y : World} {b o : Nat} {v : Value} (hb : Below X.heap.size X Y) (h : X.cell? ⟨b, o, none⟩ = some v) : Y.cell? ⟨b, o, none⟩ = some v := (hb.cell (p := ⟨b, o, none⟩) (cell_lt h)).trans h
theorem three_cells {w : World} {b : Nat} {x y z : Value} {t : TypeId} (h : w.heap[b]? = some (.cells #[x, y, z] t (0, 0))) : w.cell? ⟨b, 0, none⟩ = some x ∧ w.cell? ⟨b, 1, none⟩ = some y ∧ w.cell? ⟨b, 2, none⟩ = some z := by
  refine ⟨?_, ?_, ?_⟩ <;> simp [World.cell?, h]
def CutR (b0 R : Nat) (p po : Option Addr) (n c co : Nat) (ys : List Int) (wt : List Nat) (rt : Bool) (w wx : World) : Prop := ∃ v', DS b0 R p po n c co ys wt v' rt wx ∧ Below b0 w wx
def L2 (C : Nat → Ins) (w : World) (p po : Option Addr) (n c co R g : Nat) (wr : World) : Prop :=
  ∃ ys wt v rt, DS w.heap.size R p po n c co ys wt v rt wr ∧ (rt = true → Work n C ys wt (fun _ => False)) ∧ (rt = false → BadD n C) ∧ 2 * negs ys + wt.length ≤ g ∧ Below w.heap.size w wr
def L1 (C : Nat → Ins) (w : World) (p po : Option Addr) (n c co k : Nat) (wr : World) : Prop :=
  ∃ ys v, DT w.heap.size p po n c co ys ((List.range k).filter (rootD C)) v wr ∧ (∀ j, j < k → ys.getD j 0 = startF C j) ∧ Below w.heap.size w wr
theorem set_start {C : Nat → Ins} {ys : List Int} {k : Nat} {d : Int} (hl : k < ys.length) (h : ∀ j, j < k → ys.getD j 0 = startF C j) (hd : d = startF C k) : ∀ j, j < k + 1 → (ys.set k d).getD j 0 = startF C j := fun j hj => by
  by_cases e : k = j
  · subst e; rw [← hd]; exact gF_set_same d hl
  · have := gF_set_other (ys := ys) (q := k) (p := j) d e
    unfold gF at this
    rw [this]; exact h j (by omega)
theorem filt_yes {C : Nat → Ins} {k : Nat} (h : rootD C k = true) : (List.range (k + 1)).filter (rootD C) = (List.range k).filter (rootD C) ++ [k] := by rw [List.range_succ, List.filter_append]; simp [h]
theorem filt_no {C : Nat → Ins} {k : Nat} (h : rootD C k = false) : (List.range (k + 1)).filter (rootD C) = (List.range k).filter (rootD C) := by rw [List.range_succ, List.filter_append]; simp [h]
theorem filt_le (C : Nat → Ins) (k : Nat) : ((List.range k).filter (rootD C)).length ≤ k := by have := List.length_filter_le (rootD C) (List.range k); simpa using this

set_option maxRecDepth 100000 in
set_option maxHeartbeats 16000000 in
theorem depths_any {w0 w : World} {p po : Option Addr} {n c co : Nat} {C : Nat → Ins} (hC : IsCode w0 p n C) (hO : Row w0 po n 1 (fun i _ => .int .i64 (ownV n C i))) (hB : Below w0.heap.size w0 w) (hm : AllMay n C) (hsh : ∀ q, q < n → (C q).op = 18 → (q : Int) + 2 < endV n C q) (hn : n ≤ 100000) :
    Calls Try.prog 24 #[.slice p n c, .slice po n co] w (DepPost n C w) := by
  have hmk := fun w' => make_ints w' n hn
  obtain ⟨M, hM⟩ : ∃ M, madeCells #[Value.int .i64 0] n = M := ⟨_, rfl⟩
  rw [hM] at hmk
  have HM := Lib.hid hM
  clear hM
  have HSH := Lib.hid hsh
  have HMA := Lib.hid hm
  have HO := Lib.hid hO
  have HC := Lib.hid hC
  obtain ⟨i0, hi, hz0, hz1, hz2⟩ := info_parts infoI
  clear hsh hm hO hC
  go_enter Try.func24, Try.ntmps24
  go_wp2_with fail
  go_step3
  go_wp2_with fail
  simp only [Nat.add_assoc, Nat.reduceAdd]
  clear hmk
  go_loopw [20] (fun i wr => ∃ k : Nat, k ≤ n ∧ i = .int .i64 k ∧ L1 C w p po n c co k wr) (fun i _ => n - (intOf i).toNat)
  case atStart =>
    refine ⟨0, Nat.zero_le _, rfl, _, _, DT.start w p po n c co hn HM.out, fun j hj => absurd hj (by omega), ?_⟩
    (repeat' (first | (with_reducible exact Below.refl _ _) | (with_reducible assumption) | (with_reducible refine below_drewN ?_ _) | (with_reducible refine Below.alloc ?_ ?_ _) | (with_reducible refine Below.drew ?_) | (with_reducible refine Below.setCell ?_ ?_ _) | go_size))
  case round =>
    obtain ⟨k, hk, rfl, ys, v, hT, hys, hBw⟩ := hrel
    have HT := Lib.hid hT
    have HYS := Lib.hid hys
    clear hys
    have hws := hBw.size
    by_cases hlt : k < n
    · have d1 : decide (k < n) = true := decide_eq_true hlt
      have hlen := hT.own.len
      have cl := cell_of_one hT.l
      have co' := cell_of_one hT.o
      have cu := cell_of_one hT.u
      have cx := cell_of_one hT.x
      have fx := free_of_one hT.x
      have cy := hT.own.cell hlt
      have fy := hT.own.free k
      have hsz := hT.size
      have g0 : (0 : Int) ≤ (k : Int) := by omega
      have g1 : (k : Int) < (n : Int) := by omega
      have HB0 := Lib.hid (hB.trans (hBw.mono hB.size))
      match k, hk, hlt, d1, HT, HYS, hT, cy, fy, g0, g1 with
      | 0, hk, hlt, d1, HT, HYS, hT, cy, fy, g0, g1 =>
        have HRT : Hid (rootD C 0 = true) := rfl
        have hput := (hT.put (0) (-1)).put (0) 0
        have HP := Lib.hid hput
        have HP1 := Lib.hid (hT.put (0) (-1))
        have hlenw := filt_le C (0)
        obtain ⟨wt, hwt⟩ : ∃ wt, (List.range (0)).filter (rootD C) = wt := ⟨_, rfl⟩
        have HWT := Lib.hid hwt
        rw [hwt] at hput hlenw
        have HPP := Lib.hid (hput.below (Below.refl _ _ |>.alloc (Nat.le_refl _) (.cells #[.int .i64 ((0 : Nat) : Int)] 3)))
        have HW2 := Lib.hid hput.wait
        clear hwt hput
        go_wp2_with (at_builtin; refine wpList_append_own _ rfl _ _ 29 rfl (w.heap.size + 5) 3 i0 (.int .i64 0) 1 8 Try.underlying29 hi hz0 hz1 hz2 rfl (by decide) _ _ _ rfl (HW2.out.alloc _) ⟨wr.heap.size, 0, none⟩ 1 1 [.int .i64 ((0 : Nat) : Int)] rfl rfl (cells_newN _ _ _ _ (by simp)) (by simp [Value.oneCell']) (by unfold maxLen; omega) (by omega) (by simp; omega) ?_; intro v3 w3 hown3 hg3 _; obtain ⟨g3, cap3, rfl⟩ := own_shape hown3; have hxx := (hg3.block (w.heap.size + 4) (lt_of_block HPP.out.x) (fun e => by have := (HPP.out.wait.lt _ e.symm).1; omega)).trans HPP.out.x; have HXX := Lib.hid hxx; have cxx := cell_of_one hxx; have fxx := free_of_one hxx; clear hxx cx fx)
        go_roundw
        case rel =>
          have hpush := HPP.out.push hg3 (wt' := wt ++ [0]) (by rw [List.length_append, List.map_append, List.map_append]; exact hown3)
          have hset : (ys.set (0) (-1)).set (0) 0 = ys.set (0) 0 := List.set_set ..
          rw [hset] at hpush
          refine ⟨0 + 1, by omega, by go_num, ys.set (0) 0, _, by rw [filt_yes HRT.out, HWT.out]; exact hpush, set_start (by rw [hlen]; exact hlt) HYS.out (by unfold startF; rw [HRT.out]; rfl), ?_⟩
          have hbel : Below w.heap.size w w3 := ((show Below w.heap.size w (((wr.setCell ⟨w.heap.size + 2, 0, none⟩ (.int .i64 (-1))).setCell ⟨w.heap.size + 2, 0, none⟩ (.int .i64 0)).alloc (.cells #[.int .i64 ((0 : Nat) : Int)] 3)) by (repeat' (first | (with_reducible exact Below.refl _ _) | (with_reducible assumption) | (with_reducible refine below_drewN ?_ _) | (with_reducible refine Below.alloc ?_ ?_ _) | (with_reducible refine Below.drew ?_) | (with_reducible refine Below.setCell ?_ ?_ _) | go_size))).trans ((below_of_append (HW2.out.alloc _) hg3 (by simp; omega)).mono (by omega)))
          (repeat' (first | (with_reducible exact Below.refl _ _) | (with_reducible assumption) | (with_reducible refine below_drewN ?_ _) | (with_reducible refine Below.alloc ?_ ?_ _) | (with_reducible refine Below.drew ?_) | (with_reducible refine Below.setCell ?_ ?_ _) | go_size))
        case measure => simp [intOf]; omega
      | 1, hk, hlt, d1, HT, HYS, hT, cy, fy, g0, g1 =>
        have HRT : Hid (rootD C 1 = false) := rfl
        have hput := hT.put (1) (-1)
        have HP := Lib.hid hput
        clear hput
        go_wp2
        go_roundw
        case rel => exact ⟨1 + 1, by omega, by go_num, ys.set (1) (-1), v, by rw [filt_no HRT.out]; exact HP.out, set_start (by rw [hlen]; exact hlt) HYS.out (by unfold startF; rw [HRT.out]; rfl), by (repeat' (first | (with_reducible exact Below.refl _ _) | (with_reducible assumption) | (with_reducible refine below_drewN ?_ _) | (with_reducible refine Below.alloc ?_ ?_ _) | (with_reducible refine Below.drew ?_) | (with_reducible refine Below.setCell ?_ ?_ _) | go_size))⟩
        case measure => simp [intOf]; omega
      | j + 2, hk, hlt, d1, HT, HYS, hT, cy, fy, g0, g1 =>
        have hj : j < n := by omega
        obtain ⟨bb, off, rfl, hlt0, c0, _, _⟩ := HC.out.at_ HB0.out hj
        obtain ⟨b2, off2, rfl, hlt2, v0⟩ := row_int HO.out HB0.out hlt
        have hbs := hB.size
        have e1 : ¬ bb = w.heap.size + 2 := by omega
        have e2 : ¬ w.heap.size + 2 = bb := by omega
        have e3 : ¬ b2 = w.heap.size + 2 := by omega
        have e4 : ¬ w.heap.size + 2 = b2 := by omega
        have g2 : (0 : Int) ≤ (j : Int) := by omega
        have g3 : (j : Int) < (n : Int) := by omega
        have g4 : (j : Int) + 2 < (n : Int) := by omega
        have g5 : ((j : Int) + 2).toNat = j + 2 := by omega
        have g6 : ((j : Int) + 2 == 0) = false := by simp; omega
        have g7 : decide (1 < (j : Int) + 2) = true := decide_eq_true (by omega)
        have g8 : (0 : Int) ≤ (j : Int) + 2 := by omega
        have g9 : (1 : Int) < (j : Int) + 2 := by omega
        cases q18 : (C j).op == 18
        · have HRT : Hid (rootD C (j + 2) = false) := by show _ = _; unfold rootD; simp [q18]
          have hput := hT.put (j + 2) (-1)
          have HP := Lib.hid hput
          clear hput
          go_wp2
          go_roundw
          case rel => exact ⟨j + 2 + 1, by omega, by go_num, ys.set (j + 2) (-1), v, by rw [filt_no HRT.out]; exact HP.out, set_start (by rw [hlen]; exact hlt) HYS.out (by unfold startF; rw [HRT.out]; rfl), by (repeat' (first | (with_reducible exact Below.refl _ _) | (with_reducible assumption) | (with_reducible refine below_drewN ?_ _) | (with_reducible refine Below.alloc ?_ ?_ _) | (with_reducible refine Below.drew ?_) | (with_reducible refine Below.setCell ?_ ?_ _) | go_size))⟩
          case measure => simp [intOf]; omega
        · have h18 : (C j).op = 18 := by simpa using q18
          have HRT : Hid (rootD C (j + 2) = true) := by show _ = _; unfold rootD; simp [q18]
          rw [own_first hlt (HSH.out j hj h18)] at v0
          clear h18
          have hput := (hT.put (j + 2) (-1)).put (j + 2) 0
          have HP := Lib.hid hput
          have HP1 := Lib.hid (hT.put (j + 2) (-1))
          have hlenw := filt_le C (j + 2)
          obtain ⟨wt, hwt⟩ : ∃ wt, (List.range (j + 2)).filter (rootD C) = wt := ⟨_, rfl⟩
          have HWT := Lib.hid hwt
          rw [hwt] at hput hlenw
          have HPP := Lib.hid (hput.below (Below.refl _ _ |>.alloc (Nat.le_refl _) (.cells #[.int .i64 ((j + 2 : Nat) : Int)] 3)))
          have HW2 := Lib.hid hput.wait
          clear hwt hput
          go_wp2_with (at_builtin; refine wpList_append_own _ rfl _ _ 29 rfl (w.heap.size + 5) 3 i0 (.int .i64 0) 1 8 Try.underlying29 hi hz0 hz1 hz2 rfl (by decide) _ _ _ rfl (HW2.out.alloc _) ⟨wr.heap.size, 0, none⟩ 1 1 [.int .i64 ((j + 2 : Nat) : Int)] rfl rfl (cells_newN _ _ _ _ (by simp)) (by simp [Value.oneCell']) (by unfold maxLen; omega) (by omega) (by simp; omega) ?_; intro v3 w3 hown3 hg3 _; obtain ⟨g3, cap3, rfl⟩ := own_shape hown3; have hxx := (hg3.block (w.heap.size + 4) (lt_of_block HPP.out.x) (fun e => by have := (HPP.out.wait.lt _ e.symm).1; omega)).trans HPP.out.x; have HXX := Lib.hid hxx; have cxx := cell_of_one hxx; have fxx := free_of_one hxx; clear hxx cx fx)
          go_roundw
          case rel =>
            have hpush := HPP.out.push hg3 (wt' := wt ++ [j + 2]) (by rw [List.length_append, List.map_append, List.map_append]; exact hown3)
            have hset : (ys.set (j + 2) (-1)).set (j + 2) 0 = ys.set (j + 2) 0 := List.set_set ..
            rw [hset] at hpush
            refine ⟨j + 2 + 1, by omega, by go_num, ys.set (j + 2) 0, _, by rw [filt_yes HRT.out, HWT.out]; exact hpush, set_start (by rw [hlen]; exact hlt) HYS.out (by unfold startF; rw [HRT.out]; rfl), ?_⟩
            have hbel : Below w.heap.size w w3 := ((show Below w.heap.size w (((wr.setCell ⟨w.heap.size + 2, j + 2, none⟩ (.int .i64 (-1))).setCell ⟨w.heap.size + 2, j + 2, none⟩ (.int .i64 0)).alloc (.cells #[.int .i64 ((j + 2 : Nat) : Int)] 3)) by (repeat' (first | (with_reducible exact Below.refl _ _) | (with_reducible assumption) | (with_reducible refine below_drewN ?_ _) | (with_reducible refine Below.alloc ?_ ?_ _) | (with_reducible refine Below.drew ?_) | (with_reducible refine Below.setCell ?_ ?_ _) | go_size))).trans ((below_of_append (HW2.out.alloc _) hg3 (by simp; omega)).mono (by omega)))
            (repeat' (first | (with_reducible exact Below.refl _ _) | (with_reducible assumption) | (with_reducible refine below_drewN ?_ _) | (with_reducible refine Below.alloc ?_ ?_ _) | (with_reducible refine Below.drew ?_) | (with_reducible refine Below.setCell ?_ ?_ _) | go_size))
          case measure => simp [intOf]; omega
    · have hkn : k = n := by omega
      have d1 : decide (k < n) = false := decide_eq_false hlt
      clear hlt
      subst hkn
      obtain ⟨wa, hwa⟩ : ∃ wa : World, wa = wr := ⟨_, rfl⟩
      rw [← hwa] at hT HT hBw hws ⊢
      have cu := cell_of_one hT.u
      have hDS := hT.right
      have hW := work_start hT.own.len HYS.out
      have HDS := Lib.hid hDS
      have HW := Lib.hid hW
      have hwaz := hT.size
      clear hwa hT hDS hW HYS HT
      go_wp2_with fail
      go_step3
      go_wp2_with fail
      go_loopg [] (2 * negs ys + ((List.range k).filter (rootD C)).length) (fun g wr => L2 C w p po k c co wa.heap.size g wr)
      case atStart =>
        refine ⟨ys, _, v, true, HDS.out, fun _ => HW.out, (fun h => by cases h), Nat.le_refl _, ?_⟩
        (repeat' (first | (with_reducible exact Below.refl _ _) | (with_reducible assumption) | (with_reducible refine below_drewN ?_ _) | (with_reducible refine Below.alloc ?_ ?_ _) | (with_reducible refine Below.drew ?_) | (with_reducible refine Below.setCell ?_ ?_ _) | go_size))
      case round =>
        obtain ⟨ys, wt, v, rt, hD, hWk, hBad, hgk, hBw⟩ := hrel
        have HD := Lib.hid hD
        have HWK := Lib.hid hWk
        have HBAD := Lib.hid hBad
        have HGK := Lib.hid hgk
        clear hWk hBad hgk HDS HW hws
        have hws := hBw.size
        have cl := cell_of_one hD.l
        have co' := cell_of_one hD.o
        have cu := cell_of_one hD.u
        have cx := cell_of_one hD.x
        have fx := free_of_one hD.x
        have cr := cell_of_one hD.r
        have hsz := hD.sizes
        rcases List.eq_nil_or_concat wt with hwt | ⟨wt0, q, hwt⟩
        · subst hwt
          have hv : ∃ A c', v = .slice A 0 c' := by
            rcases hD.wait.2 with ⟨rfl, _⟩ | ⟨g, cap, cur, rfl, _⟩
            · exact ⟨_, _, rfl⟩
            · exact ⟨_, _, rfl⟩
          obtain ⟨A, c', rfl⟩ := hv
          clear hD
          go_wp2_with fail
          go_quiet (fail)
          go_wp2_with fail
          rw [Exit.noGoto_ret]
          go_ret2
          refine ⟨by (repeat' (first | (with_reducible exact Below.refl _ _) | (with_reducible assumption) | (with_reducible refine below_drewN ?_ _) | (with_reducible refine Below.alloc ?_ ?_ _) | (with_reducible refine Below.drew ?_) | (with_reducible refine Below.setCell ?_ ?_ _) | go_size)), ?_⟩
          cases rt
          · exact .inr ⟨HBAD.out rfl, _, _, _, rfl⟩
          · have hWD := HWK.out rfl
            refine .inl ⟨_, gF ys, rfl, ?_, hWD.sound, work_end hWD⟩
            obtain ⟨p', c', h1, h2, h3, h4, h5⟩ := HD.out.own.row (F := gF ys) (fun j hj => rfl)
            exact ⟨p', c', h1, h2, h3, h4.below (Below.refl _ _ |> fun z => below_drewN z _), fun b off e => ⟨Nat.le_trans (by omega) (h5 b off e).1, (h5 b off e).2⟩⟩
        · rw [List.concat_eq_append] at hwt
          subst hwt
          have hv : ∃ g cap, v = .slice (some ⟨g, 0, none⟩) (wt0.length + 1) cap := by
            have := hD.wait
            rw [List.length_append] at this
            exact own_shape this
          obtain ⟨g, cap, rfl⟩ := hv
          have ct := hD.top
          cases rt
          · clear hD
            go_wp2_with fail
            go_quiet (fail)
            go_wp2_with fail
            rw [Exit.noGoto_ret]
            go_ret2
            exact ⟨by (repeat' (first | (with_reducible exact Below.refl _ _) | (with_reducible assumption) | (with_reducible refine below_drewN ?_ _) | (with_reducible refine Below.alloc ?_ ?_ _) | (with_reducible refine Below.drew ?_) | (with_reducible refine Below.setCell ?_ ?_ _) | go_size)), .inr ⟨HBAD.out (by simp), _, _, _, rfl⟩⟩
          · have hWD := HWK.out rfl
            obtain ⟨hWP, hqn, hq0⟩ := work_pop hWD
            have hcnt := hWD.cnt
            rw [List.length_append] at hcnt
            simp only [List.length_cons, List.length_nil] at hcnt
            have hwl : wt0.length ≤ 100000 := by omega
            have HWP := Lib.hid hWP
            have HPOP := Lib.hid hD.pop
            have k1 : (0 : Int) ≤ (wt0.length : Int) := by omega
            have k2 : (wt0.length : Int) < (wt0.length : Int) + 1 := by omega
            have k3 : (wt0.length : Int) ≤ (wt0.length : Int) + 1 := by omega
            have k4 : wt0.length ≤ cap := by have h := hD.wait; rw [List.length_append] at h; have := own_cap h; simp at this; omega
            have s0 : w.heap.size < wr.heap.size := by omega
            have s1 : w.heap.size + 1 < wr.heap.size := by omega
            have s2 : w.heap.size + 2 < wr.heap.size := by omega
            have s3 : w.heap.size + 3 < wr.heap.size := by omega
            have s4 : w.heap.size + 4 < wr.heap.size := by omega
            have s5 : wa.heap.size < wr.heap.size := by omega
            clear hWD hWP hcnt hD
            have hB0 := hB.trans (hBw.mono hB.size)
            have hbs := hB.size
            obtain ⟨bb, off, rfl, hlt0, c0, c1, c2⟩ := HC.out.at_ hB0 hqn
            have cy := HD.out.own.cell hqn
            have g0 : (0 : Int) ≤ (q : Int) := by omega
            have g1 : (q : Int) < (k : Int) := by omega
            have s6 : bb < wr.heap.size := by omega
            have e1 : ¬ bb = w.heap.size + 4 := by omega
            have e2 : ¬ w.heap.size + 4 = bb := by omega
            obtain ⟨i, hi'⟩ : ∃ i, C q = i := ⟨_, rfl⟩
            have HI := Lib.hid hi'
            rw [hi'] at c0 c1 c2
            obtain ⟨d, hd⟩ : ∃ d, gF ys q = d := ⟨_, rfl⟩
            have HDD := Lib.hid hd
            rw [show ys.getD q 0 = d from hd] at cy
            rw [hd] at hq0
            have hm := HMA.out q hqn
            rw [hi'] at hm
            obtain ⟨m1, m2, m3, m4, m5, m6⟩ := may_bounds hm
            have HM1 := Lib.hid hm
            clear hi' hd hm
            go_wp2_with fail
            go_region
            obtain ⟨wc, hwc⟩ : ∃ wc, ((wr.setCell ⟨w.heap.size + 4, 0, none⟩ (.slice (some ⟨g, 0, none⟩) wt0.length cap)).alloc (.cells #[.int .i64 i.op, .int .i64 i.a, .int .i64 i.b] 37)).drew = wc := ⟨_, rfl⟩
            rw [hwc]
            have hb5 : Below wr.heap.size (wr.setCell ⟨w.heap.size + 4, 0, none⟩ (.slice (some ⟨g, 0, none⟩) wt0.length cap)) wc := by rw [← hwc]; (repeat' (first | (with_reducible exact Below.refl _ _) | (with_reducible assumption) | (with_reducible refine below_drewN ?_ _) | (with_reducible refine Below.alloc ?_ ?_ _) | (with_reducible refine Below.drew ?_) | (with_reducible refine Below.setCell ?_ ?_ _) | go_size))
            have hD5 : DS w.heap.size wa.heap.size (some ⟨bb, off, none⟩) po k c co ys wt0 (.slice (some ⟨g, 0, none⟩) wt0.length cap) true wc := HPOP.out.below (by simpa using hb5)
            have hB5 : Below w.heap.size w wc := by rw [← hwc]; (repeat' (first | (with_reducible exact Below.refl _ _) | (with_reducible assumption) | (with_reducible refine below_drewN ?_ _) | (with_reducible refine Below.alloc ?_ ?_ _) | (with_reducible refine Below.drew ?_) | (with_reducible refine Below.setCell ?_ ?_ _) | go_size))
            have i0 : wc.cell? ⟨wr.heap.size, 0, none⟩ = some (.int .i64 i.op) := by rw [← hwc]; simp [go_sem]
            have i1 : wc.cell? ⟨wr.heap.size, 1, none⟩ = some (.int .i64 i.a) := by rw [← hwc]; simp [go_sem]
            have i2 : wc.cell? ⟨wr.heap.size, 2, none⟩ = some (.int .i64 i.b) := by rw [← hwc]; simp [go_sem]
            have kb5 : wc.heap[wr.heap.size]? = some (.cells #[.int .i64 i.op, .int .i64 i.a, .int .i64 i.b] 37 (0, 0)) := by rw [← hwc]; have h := heap_alloc_new (wr.setCell ⟨w.heap.size + 4, 0, none⟩ (.slice (some ⟨g, 0, none⟩) wt0.length cap)) (.cells #[.int .i64 i.op, .int .i64 i.a, .int .i64 i.b] 37); simp only [World.size_setCell] at h; exact h
            have hRI : wa.heap.size < wr.heap.size := hsz.2
            have hbI : w.heap.size + 5 ≤ wr.heap.size ∧ wr.heap.size < wc.heap.size := ⟨by omega, cell_lt i0⟩
            obtain ⟨bI, hbIe⟩ : ∃ bI, wr.heap.size = bI := ⟨_, rfl⟩
            rw [hbIe] at i0 i1 i2 hbI kb5 hRI ⊢
            have hR := hD5.sizes
            have HD5 := Lib.hid hD5
            obtain ⟨hgb1, hgb2⟩ := grows_bd HM1.out
            obtain ⟨hnb1, hnb2⟩ := needs_bd HM1.out
            have hd24 : d ≤ 24 := by have := reach_le (HWP.out.sound.1 q hqn (by rw [HDD.out]; exact hq0)); rw [HDD.out] at this; exact this
            have hgk' : 2 * negs ys + wt0.length ≤ gk - 1 ∧ 1 ≤ gk := by have h := HGK.out; rw [List.length_append] at h; simp only [List.length_cons, List.length_nil] at h; omega
            obtain ⟨hgk1, hgk2⟩ := hgk'
            obtain ⟨gr, hgr⟩ : ∃ gr, growsV ⟨i.op, i.a, i.b⟩ = gr := ⟨_, rfl⟩
            obtain ⟨nd, hnd⟩ : ∃ nd, needsV ⟨i.op, i.a, i.b⟩ = nd := ⟨_, rfl⟩
            have HGR := Lib.hid hgr
            have HND := Lib.hid hnd
            rw [show growsV i = gr from hgr] at hgb1 hgb2
            rw [show needsV i = nd from hnd] at hnb1 hnb2
            have z1 : -1000000 ≤ i.b := by omega
            have z2 : i.b ≤ 1000000 := by omega
            have CK : Hid (chkD k C q (gF ys q) = (decide (nd ≤ d) && decide (d + gr ≤ 24) && (if i.op = 19 then d == 1 && decide (0 ≤ ownV k C q) else true))) := by
              show _ = _
              unfold chkD
              rw [HI.out, HDD.out, show growsV i = gr from HGR.out, show needsV i = nd from HND.out]
            clear hwc hb5 hD5 hbIe hgr hnd c0 c1 c2 cy cl co' cu cx fx cr ct hws hsz s0 s1 s2 s3 s4 s5 s6 e1 e2 hBw HD HWK HBAD HPOP HGK
            go_wp2_with fail
            (with_reducible refine (grows_any _ _ _ _ z1 z2).mono ?_)
            rw [HGR.out]
            rintro e w6 ⟨rfl, hb6⟩
            have i0' := below_cell hb6 i0
            have i1' := below_cell hb6 i1
            have i2' := below_cell hb6 i2
            have hB6 := hB5.trans (hb6.mono hB5.size)
            have HD6 := Lib.hid (HD5.out.below hb6)
            have kb6 := (hb6.block bI (lt_of_block kb5)).trans kb5
            have KB6 := Lib.hid kb6
            clear i0 i1 i2 hb6 HD5 kb5 kb6
            go_wp2_with fail
            (with_reducible refine (needs_any _ _ _ _ z1 z2).mono ?_)
            rw [HND.out]
            rintro e w7 ⟨rfl, hb7⟩
            have i0 := below_cell hb7 i0'
            have i1 := below_cell hb7 i1'
            have i2 := below_cell hb7 i2'
            have hB7 := hB6.trans (hb7.mono hB6.size)
            have HD7 := Lib.hid (HD6.out.below hb7)
            have KB7 := Lib.hid ((hb7.block bI (lt_of_block KB6.out)).trans KB6.out)
            clear KB6 i0' i1' i2' hb7 HD6 hB6 hB5
            by_cases hc1 : d < nd
            · have f1 : decide (d < nd) = true := decide_eq_true hc1
              have hbad := bad_chk HWP.out hqn (by rw [HDD.out]; exact hq0) (by rw [CK.out, decide_eq_false (by omega)]; rfl)
              have HBAD := Lib.hid hbad
              go_wp2_with fail
              rw [Exit.noGoto_ret]
              go_ret2
              exact ⟨by (repeat' (first | (with_reducible exact Below.refl _ _) | (with_reducible assumption) | (with_reducible refine below_drewN ?_ _) | (with_reducible refine Below.alloc ?_ ?_ _) | (with_reducible refine Below.drew ?_) | (with_reducible refine Below.setCell ?_ ?_ _) | go_size)), .inr ⟨HBAD.out, _, _, _, rfl⟩⟩
            · have f1 : decide (d < nd) = false := decide_eq_false hc1
              have f1' : decide (nd ≤ d) = true := decide_eq_true (by omega)
              by_cases hc2 : 24 < d + gr
              · have f2 : decide (24 < d + gr) = true := decide_eq_true hc2
                have hbad := bad_chk HWP.out hqn (by rw [HDD.out]; exact hq0) (by rw [CK.out, decide_eq_false (show ¬ d + gr ≤ 24 by omega)]; simp)
                have HBAD := Lib.hid hbad
                go_wp2_with fail
                rw [Exit.noGoto_ret]
                go_ret2
                exact ⟨by (repeat' (first | (with_reducible exact Below.refl _ _) | (with_reducible assumption) | (with_reducible refine below_drewN ?_ _) | (with_reducible refine Below.alloc ?_ ?_ _) | (with_reducible refine Below.drew ?_) | (with_reducible refine Below.setCell ?_ ?_ _) | go_size)), .inr ⟨HBAD.out, _, _, _, rfl⟩⟩
              · have f2 : decide (24 < d + gr) = false := decide_eq_false hc2
                have f2' : decide (d + gr ≤ 24) = true := decide_eq_true (by omega)
                have CK2 : Hid (chkD k C q (gF ys q) = (if i.op = 19 then d == 1 && decide (0 ≤ ownV k C q) else true)) := by show _ = _; rw [CK.out, f1', f2']; rfl
                have hBO := hB.trans (hB7.mono hB.size)
                have hB7s := hB7.size
                obtain ⟨b2, off2, e2, hlt2, v0⟩ := row_int HO.out hBO hqn
                subst e2
                obtain ⟨o, ho⟩ : ∃ o, ownV k C q = o := ⟨_, rfl⟩
                rw [ho] at v0
                have HOQ := Lib.hid ho
                clear ho
                have co7 := cell_of_one HD7.out.o
                have hR7 := HD7.out.sizes
                have hwtl : wt0.length ≤ 100000 := by omega
                have RA : Hid (∀ (r : Nat), r ≤ 300000 → ∀ w', Below w7.heap.size w7 w' → Calls Try.prog 38 #[.int .i64 r, .int .i64 o, .int .i64 (d + gr), .pointer (some ⟨w.heap.size, 0, none⟩), .pointer (some ⟨w.heap.size + 1, 0, none⟩), .pointer (some ⟨w.heap.size + 3, 0, none⟩), .pointer (some ⟨wa.heap.size, 0, none⟩), .pointer (some ⟨w.heap.size + 4, 0, none⟩)] w' (ReachPost w.heap.size wa.heap.size _ _ k c co (reachV k (ownV k C) ys wt0 true r o (d + gr)) w')) :=
                  fun r hr w' hw' => reach_any HO.out (hBO.trans (hw'.mono hBO.size)) hbs hn hwtl (HD7.out.below hw') r o (d + gr) hr
                have WD : Hid (∀ (C' : Unit), chkD k C q (gF ys q) = true → succD C q = [] → Work k C ys wt0 (fun _ => False)) := fun _ h1 h2 => work_done HWP.out h1 (by rw [h2]; intro r hr; cases hr)
                by_cases h19 : i.op = 19
                · have e19 : (i.op == 19) = true := by simpa using h19
                  have hsu : succD C q = [] := by unfold succD leadsB; rw [HI.out, h19]; rfl
                  by_cases hd1 : d = 1
                  · have f3 : (d != 1) = false := by simpa using hd1
                    have hdd : (d == 1) = true := by simpa using hd1
                    by_cases ho0 : o < 0
                    · have f4 : decide (o < 0) = true := decide_eq_true ho0
                      have hbad := bad_chk HWP.out hqn (by rw [HDD.out]; exact hq0) (by rw [CK2.out, if_pos h19, HOQ.out, decide_eq_false (show ¬ 0 ≤ o by omega)]; simp)
                      have HBAD := Lib.hid hbad
                      have H1 := Lib.hid hd1
                      clear hsu hbad hd1 hdd h19
                      go_wp2_with fail
                      rw [Exit.noGoto_ret]
                      go_ret2
                      exact ⟨by (repeat' (first | (with_reducible exact Below.refl _ _) | (with_reducible assumption) | (with_reducible refine below_drewN ?_ _) | (with_reducible refine Below.alloc ?_ ?_ _) | (with_reducible refine Below.drew ?_) | (with_reducible refine Below.setCell ?_ ?_ _) | go_size)), .inr ⟨HBAD.out, _, _, _, rfl⟩⟩
                    · have f4 : decide (o < 0) = false := decide_eq_false ho0
                      have hw := WD.out () (by rw [CK2.out, if_pos h19, HOQ.out, hdd, decide_eq_true (show 0 ≤ o by omega)]; rfl) hsu
                      have HWF := Lib.hid hw
                      have H1 := Lib.hid hd1
                      clear hsu hw hd1 hdd h19
                      go_wp2_with fail
                      go_roundg (gk - 1)
                      case measure => omega
                      case rel => exact ⟨ys, wt0, _, true, HD7.out, fun _ => HWF.out, (fun h => by cases h), hgk1, by (repeat' (first | (with_reducible exact Below.refl _ _) | (with_reducible assumption) | (with_reducible refine below_drewN ?_ _) | (with_reducible refine Below.alloc ?_ ?_ _) | (with_reducible refine Below.drew ?_) | (with_reducible refine Below.setCell ?_ ?_ _) | go_size))⟩
                  · have f3 : (d != 1) = true := by simpa using hd1
                    have hbad := bad_chk HWP.out hqn (by rw [HDD.out]; exact hq0) (by rw [CK2.out, if_pos h19]; simp [hd1])
                    have HBAD := Lib.hid hbad
                    clear hsu hbad hd1 h19
                    go_wp2_with fail
                    rw [Exit.noGoto_ret]
                    go_ret2
                    exact ⟨by (repeat' (first | (with_reducible exact Below.refl _ _) | (with_reducible assumption) | (with_reducible refine below_drewN ?_ _) | (with_reducible refine Below.alloc ?_ ?_ _) | (with_reducible refine Below.drew ?_) | (with_reducible refine Below.setCell ?_ ?_ _) | go_size)), .inr ⟨HBAD.out, _, _, _, rfl⟩⟩
                · have e19 : (i.op == 19) = false := by simpa using h19
                  have CK3 : Hid (chkD k C q (gF ys q) = true) := by show _ = _; rw [CK2.out, if_neg h19]
                  by_cases h20 : i.op = 20
                  · have e20 : (i.op == 20) = true := by simpa using h20
                    have hsu : succD C q = [] := by unfold succD leadsB; rw [HI.out, h20]; rfl
                    have HWF := Lib.hid (WD.out () CK3.out hsu)
                    clear hsu h20 h19
                    go_wp2_with fail
                    go_roundg (gk - 1)
                    case measure => omega
                    case rel => exact ⟨ys, wt0, _, true, HD7.out, fun _ => HWF.out, (fun h => by cases h), hgk1, by (repeat' (first | (with_reducible exact Below.refl _ _) | (with_reducible assumption) | (with_reducible refine below_drewN ?_ _) | (with_reducible refine Below.alloc ?_ ?_ _) | (with_reducible refine Below.drew ?_) | (with_reducible refine Below.setCell ?_ ?_ _) | go_size))⟩
                  · have e20 : (i.op == 20) = false := by simpa using h20
                    by_cases h16 : i.op = 16
                    · have e16 : (i.op == 16) = true := by simpa using h16
                      have ht0 : targetV (C q) = i.a + i.b * 256 := by unfold targetV leadsB; rw [HI.out, e16]; rfl
                      obtain ⟨tn, htn⟩ : ∃ tn : Nat, i.a + i.b * 256 = (tn : Int) := ⟨(i.a + i.b * 256).toNat, by omega⟩
                      have htb : tn ≤ 100000 := by omega
                      have hsu : succD C q = [(tn : Int)] := by unfold succD leadsB; rw [HI.out, if_pos (.inl h16), e16, ← HI.out, ht0, htn]; rfl
                      have HTV : Hid (targetV ⟨i.op, i.a, i.b⟩ = (tn : Int)) := by show targetV i = _; rw [← HI.out, ht0, htn]
                      have HSU := Lib.hid hsu
                      obtain ⟨ys1, wt1, rt1, hq1, hW1, hg1, hm1, hT1, hF1, _⟩ := reach_two HWP.out HMA.out hqn (by rw [HDD.out]; exact hq0) CK3.out (q := tn) (by rw [hsu]; simp) true
                      rw [HOQ.out, show aftD C q (gF ys q) = d + gr by unfold aftD; rw [HI.out, HDD.out, show growsV i = gr from HGR.out]] at hq1
                      have R1 := RA.out tn (by omega)
                      rw [hq1] at R1
                      have HW1 := Lib.hid hW1
                      have HG1 := Lib.hid hg1
                      have HT1 := Lib.hid hT1
                      have HF1 := Lib.hid hF1
                      have HRR := Lib.hid R1
                      have y1 : -1000000 ≤ i.a := by omega
                      have y2 : i.a ≤ 1000000 := by omega
                      have b20 : b2 < w7.heap.size := by omega
                      have hb2w : b2 < w.heap.size := by omega
                      clear hsu hq1 hW1 hg1 hT1 hF1 R1 h19 h20 h16 ht0 htn
                      go_wp2_with fail
                      go_cut [] (fun wx => CutR w.heap.size wa.heap.size (some ⟨bb, off, none⟩) (some ⟨b2, off2, none⟩) k c co ys1 wt1 rt1 w wx)
                      case first =>
                        go_region_held3 (fun w' => w'.cell? ⟨bI, 0, none⟩ = some (.int .i64 i.op) ∧ w'.cell? ⟨bI, 1, none⟩ = some (.int .i64 i.a) ∧ w'.cell? ⟨bI, 2, none⟩ = some (.int .i64 i.b) ∧ w'.cell? ⟨w.heap.size + 1, 0, none⟩ = some (.slice (some ⟨b2, off2, none⟩) k co) ∧ w'.cell? ⟨b2, off2 + q, none⟩ = some (.int .i64 o)) (first | assumption | (simp [go_sem]; done) | (simp [go_sem, *]; done)) (first | (go_at_call 37; (with_reducible refine (target_any _ _ _ _ y1 y2 z1 z2).mono ?_); rw [HTV.out]; rintro e w8 ⟨rfl, hb8⟩; have hb8' := (show Below w7.heap.size w7 _ by (repeat' (first | (with_reducible exact Below.refl _ _) | (with_reducible assumption) | (with_reducible refine below_drewN ?_ _) | (with_reducible refine Below.alloc ?_ ?_ _) | (with_reducible refine Below.drew ?_) | (with_reducible refine Below.setCell ?_ ?_ _) | go_size))).trans (hb8.mono (Nat.le_refl _)); have j0 := below_cell hb8' i0; have j1 := below_cell hb8' i1; have j2 := below_cell hb8' i2; have j3 := below_cell hb8' co7; have j4 := below_cell hb8' v0; have KB8 := Lib.hid ((hb8'.block bI (lt_of_block KB7.out)).trans KB7.out)) | (go_at_call 38; (with_reducible refine (HRR.out _ ?_).mono ?_); (focus (first | assumption | (repeat' (first | (with_reducible exact Below.refl _ _) | (with_reducible assumption) | (with_reducible refine below_drewN ?_ _) | (with_reducible refine Below.alloc ?_ ?_ _) | (with_reducible refine Below.drew ?_) | (with_reducible refine Below.setCell ?_ ?_ _) | go_size)))); rintro e w9 ⟨rfl, v9, hD9, hb9, ho9⟩; have KB9 := Lib.hid (ho9 bI _ _ KB8.out (by decide) (by omega) (by omega)); obtain ⟨l0, l1, l2⟩ := three_cells KB9.out; have l3 := cell_of_one hD9.o; have l4 := (hb9.cell (p := ⟨b2, off2 + q, none⟩) hb2w).trans j4; have HD9 := Lib.hid hD9; have HB9 := Lib.hid hb9; have HO9 := Lib.hid ho9; clear hD9 hb9 ho9))
                        go_wp2_with fail
                        go_meet
                        have z8 := hB7.trans (hb8'.mono hB7.size)
                        have z9 := (show Below w.heap.size w _ by (repeat' (first | (with_reducible exact Below.refl _ _) | (with_reducible assumption) | (with_reducible refine below_drewN ?_ _) | (with_reducible refine Below.alloc ?_ ?_ _) | (with_reducible refine Below.drew ?_) | (with_reducible refine Below.setCell ?_ ?_ _) | go_size))).trans HB9.out
                        exact ⟨v9, HD9.out, z9⟩
                      case rest =>
                        obtain ⟨v8, hD8, hB8⟩ := hcut
                        have HD8 := Lib.hid hD8
                        clear hD8 i0 i1 i2 co7 v0
                        go_wp2_with fail
                        go_roundg (gk - 1)
                        case measure => omega
                        case rel =>
                          refine ⟨ys1, wt1, v8, rt1, HD8.out, fun h => ?_, fun h => ?_, by omega, by (repeat' (first | (with_reducible exact Below.refl _ _) | (with_reducible assumption) | (with_reducible refine below_drewN ?_ _) | (with_reducible refine Below.alloc ?_ ?_ _) | (with_reducible refine Below.drew ?_) | (with_reducible refine Below.setCell ?_ ?_ _) | go_size))⟩
                          · have hc := CK3.out
                            rw [← HG1.out] at hc
                            refine work_done HW1.out hc (fun r hr => ?_)
                            rw [HSU.out] at hr
                            have : r = (tn : Int) := by simpa using hr
                            rw [this]
                            exact (HT1.out h).2
                          · rcases HF1.out h with h' | h'
                            · cases h'
                            · exact h'
                    · have e16 : (i.op == 16) = false := by simpa using h16
                      by_cases h17 : i.op = 17
                      · have e17 : (i.op == 17) = true := by simpa using h17
                        have ht0 : targetV (C q) = i.a + i.b * 256 := by unfold targetV leadsB; rw [HI.out, e16, e17]; rfl
                        obtain ⟨tn, htn⟩ : ∃ tn : Nat, i.a + i.b * 256 = (tn : Int) := ⟨(i.a + i.b * 256).toNat, by omega⟩
                        have htb : tn ≤ 100000 := by omega
                        have hsu : succD C q = [(q : Int) + 1, (tn : Int)] := by unfold succD leadsB; rw [HI.out, if_neg (by omega), e16, e17, ← HI.out, ht0, htn]; rfl
                        have HTV : Hid (targetV ⟨i.op, i.a, i.b⟩ = (tn : Int)) := by show targetV i = _; rw [← HI.out, ht0, htn]
                        have HSU := Lib.hid hsu
                        obtain ⟨ys1, wt1, rt1, hq1, hW1, hg1, hm1, hT1, hF1, _⟩ := reach_two HWP.out HMA.out hqn (by rw [HDD.out]; exact hq0) CK3.out (q := tn) (by rw [hsu]; simp) true
                        rw [HOQ.out, show aftD C q (gF ys q) = d + gr by unfold aftD; rw [HI.out, HDD.out, show growsV i = gr from HGR.out]] at hq1
                        have R1 := RA.out tn (by omega)
                        rw [hq1] at R1
                        have HW1 := Lib.hid hW1
                        have HG1 := Lib.hid hg1
                        have HT1 := Lib.hid hT1
                        have HF1 := Lib.hid hF1
                        have HRR := Lib.hid R1
                        have y1 : -1000000 ≤ i.a := by omega
                        have y2 : i.a ≤ 1000000 := by omega
                        have b20 : b2 < w7.heap.size := by omega
                        have hb2w : b2 < w.heap.size := by omega
                        clear hsu hq1 hW1 hg1 hT1 hF1 R1 h19 h20 h16 h17 ht0 htn
                        go_wp2_with fail
                        go_region_held3 (fun w' => w'.cell? ⟨bI, 0, none⟩ = some (.int .i64 i.op) ∧ w'.cell? ⟨bI, 1, none⟩ = some (.int .i64 i.a) ∧ w'.cell? ⟨bI, 2, none⟩ = some (.int .i64 i.b) ∧ w'.cell? ⟨w.heap.size + 1, 0, none⟩ = some (.slice (some ⟨b2, off2, none⟩) k co) ∧ w'.cell? ⟨b2, off2 + q, none⟩ = some (.int .i64 o)) (first | assumption | (simp [go_sem]; done) | (simp [go_sem, *]; done)) (first | (go_at_call 37; (with_reducible refine (target_any _ _ _ _ y1 y2 z1 z2).mono ?_); rw [HTV.out]; rintro e w8 ⟨rfl, hb8⟩; have hb8' := (show Below w7.heap.size w7 _ by (repeat' (first | (with_reducible exact Below.refl _ _) | (with_reducible assumption) | (with_reducible refine below_drewN ?_ _) | (with_reducible refine Below.alloc ?_ ?_ _) | (with_reducible refine Below.drew ?_) | (with_reducible refine Below.setCell ?_ ?_ _) | go_size))).trans (hb8.mono (Nat.le_refl _)); have j0 := below_cell hb8' i0; have j1 := below_cell hb8' i1; have j2 := below_cell hb8' i2; have j3 := below_cell hb8' co7; have j4 := below_cell hb8' v0; have KB8 := Lib.hid ((hb8'.block bI (lt_of_block KB7.out)).trans KB7.out)) | (go_at_call 38; (with_reducible refine (HRR.out _ ?_).mono ?_); (focus (first | assumption | (repeat' (first | (with_reducible exact Below.refl _ _) | (with_reducible assumption) | (with_reducible refine below_drewN ?_ _) | (with_reducible refine Below.alloc ?_ ?_ _) | (with_reducible refine Below.drew ?_) | (with_reducible refine Below.setCell ?_ ?_ _) | go_size)))); rintro e w9 ⟨rfl, v9, hD9, hb9, ho9⟩; have KB9 := Lib.hid (ho9 bI _ _ KB8.out (by decide) (by omega) (by omega)); obtain ⟨l0, l1, l2⟩ := three_cells KB9.out; have l3 := cell_of_one hD9.o; have l4 := (hb9.cell (p := ⟨b2, off2 + q, none⟩) hb2w).trans j4; have HD9 := Lib.hid hD9; have HB9 := Lib.hid hb9; have HO9 := Lib.hid ho9; clear hD9 hb9 ho9))
                        have z8 := hB7.trans (hb8'.mono hB7.size)
                        have z9 := (show Below w.heap.size w _ by (repeat' (first | (with_reducible exact Below.refl _ _) | (with_reducible assumption) | (with_reducible refine below_drewN ?_ _) | (with_reducible refine Below.alloc ?_ ?_ _) | (with_reducible refine Below.drew ?_) | (with_reducible refine Below.setCell ?_ ?_ _) | go_size))).trans HB9.out
                        have hBO9 := hB.trans (z9.mono hB.size)
                        have hz9s := z9.size
                        have hc1 : chkD k C q (gF ys1 q) = true := by rw [HG1.out]; exact CK3.out
                        obtain ⟨ys2, wt2, rt2, hq2, hW2, hg2, hm2, hT2, hF2, hK2⟩ := reach_two HW1.out HMA.out hqn (by rw [HG1.out, HDD.out]; exact hq0) hc1 (q := q + 1) (by rw [HSU.out]; simp) rt1
                        rw [HOQ.out, show aftD C q (gF ys1 q) = d + gr by unfold aftD; rw [HI.out, HG1.out, HDD.out, show growsV i = gr from HGR.out]] at hq2
                        have hcn1 : wt1.length ≤ 100000 := by have := HW1.out.cnt; omega
                        have R2 : ∀ w', Below w9.heap.size w9 w' → Calls Try.prog 38 #[.int .i64 ((q : Int) + 1), .int .i64 o, .int .i64 (d + gr), .pointer (some ⟨w.heap.size, 0, none⟩), .pointer (some ⟨w.heap.size + 1, 0, none⟩), .pointer (some ⟨w.heap.size + 3, 0, none⟩), .pointer (some ⟨wa.heap.size, 0, none⟩), .pointer (some ⟨w.heap.size + 4, 0, none⟩)] w' (ReachPost w.heap.size wa.heap.size _ _ k c co (ys2, wt2, rt2) w') := fun w' hw' => by
                          have := reach_any HO.out (hBO9.trans (hw'.mono hBO9.size)) hbs hn hcn1 (HD9.out.below hw') (q + 1) o (d + gr) (by omega)
                          rw [hq2] at this
                          exact this
                        have HW2 := Lib.hid hW2
                        have HC1 := Lib.hid hc1
                        have HG2 := Lib.hid hg2
                        have HT2 := Lib.hid hT2
                        have HF2 := Lib.hid hF2
                        have HK2 := Lib.hid hK2
                        have HR2 := Lib.hid R2
                        clear i0 i1 i2 co7 v0 hc1 hq2 hW2 hg2 hT2 hF2 hK2 R2 hcn1
                        go_wp2_with fail
                        (with_reducible refine (HR2.out _ ?_).mono ?_)
                        · (repeat' (first | (with_reducible exact Below.refl _ _) | (with_reducible assumption) | (with_reducible refine below_drewN ?_ _) | (with_reducible refine Below.alloc ?_ ?_ _) | (with_reducible refine Below.drew ?_) | (with_reducible refine Below.setCell ?_ ?_ _) | go_size))
                        rintro e w10 ⟨rfl, v10, hD10, hb10, _⟩
                        have HD10 := Lib.hid hD10
                        have hB10 := (show Below w.heap.size w _ by (repeat' (first | (with_reducible exact Below.refl _ _) | (with_reducible assumption) | (with_reducible refine below_drewN ?_ _) | (with_reducible refine Below.alloc ?_ ?_ _) | (with_reducible refine Below.drew ?_) | (with_reducible refine Below.setCell ?_ ?_ _) | go_size))).trans hb10
                        clear hD10 hb10
                        go_wp2_with fail
                        go_roundg (gk - 1)
                        case measure => omega
                        case rel =>
                          refine ⟨ys2, wt2, v10, rt2, HD10.out, fun h => ?_, fun h => ?_, by omega, by (repeat' (first | (with_reducible exact Below.refl _ _) | (with_reducible assumption) | (with_reducible refine below_drewN ?_ _) | (with_reducible refine Below.alloc ?_ ?_ _) | (with_reducible refine Below.drew ?_) | (with_reducible refine Below.setCell ?_ ?_ _) | go_size))⟩
                          · have hc := HC1.out
                            rw [← HG2.out] at hc
                            refine work_done HW2.out hc (fun r hr => ?_)
                            rw [HSU.out] at hr
                            rcases (show r = (q : Int) + 1 ∨ r = (tn : Int) by simpa using hr) with rfl | rfl
                            · exact (HT2.out h).2
                            · exact HK2.out _ (HT1.out (HT2.out h).1).2
                          · rcases HF2.out h with h' | h'
                            · rcases HF1.out h' with h'' | h''
                              · cases h''
                              · exact h''
                            · exact h'
                      · have e17 : (i.op == 17) = false := by simpa using h17
                        have hsu : succD C q = [(q : Int) + 1] := by unfold succD leadsB; rw [HI.out, if_neg (by omega), e16, e17]; rfl
                        have HSU := Lib.hid hsu
                        obtain ⟨ys1, wt1, rt1, hq1, hW1, hg1, hm1, hT1, hF1, _⟩ := reach_two HWP.out HMA.out hqn (by rw [HDD.out]; exact hq0) CK3.out (q := q + 1) (by rw [hsu]; simp) true
                        rw [HOQ.out, show aftD C q (gF ys q) = d + gr by unfold aftD; rw [HI.out, HDD.out, show growsV i = gr from HGR.out]] at hq1
                        have R1 := RA.out (q + 1) (by omega) w7 (Below.refl _ _)
                        rw [hq1, show (((q + 1 : Nat)) : Int) = (q : Int) + 1 by omega] at R1
                        have HW1 := Lib.hid hW1
                        have HG1 := Lib.hid hg1
                        have HT1 := Lib.hid hT1
                        have HF1 := Lib.hid hF1
                        have HRR := Lib.hid R1
                        clear hsu hq1 hW1 hg1 hT1 hF1 R1 h19 h20 h16 h17
                        go_wp2_with fail
                        (with_reducible refine HRR.out.mono ?_)
                        rintro e w8 ⟨rfl, v8, hD8, hb8, _⟩
                        have HD8 := Lib.hid hD8
                        have hB8 := hB7.trans hb8
                        clear hD8 hb8
                        go_wp2_with fail
                        go_roundg (gk - 1)
                        case measure => omega
                        case rel =>
                          refine ⟨ys1, wt1, v8, rt1, HD8.out, fun h => ?_, fun h => ?_, by omega, by (repeat' (first | (with_reducible exact Below.refl _ _) | (with_reducible assumption) | (with_reducible refine below_drewN ?_ _) | (with_reducible refine Below.alloc ?_ ?_ _) | (with_reducible refine Below.drew ?_) | (with_reducible refine Below.setCell ?_ ?_ _) | go_size))⟩
                          · have hc := CK3.out
                            rw [← HG1.out] at hc
                            refine work_done HW1.out hc (fun r hr => ?_)
                            rw [HSU.out] at hr
                            have : r = (q : Int) + 1 := by simpa using hr
                            rw [this]
                            exact (HT1.out h).2
                          · rcases HF1.out h with h' | h'
                            · cases h'
                            · exact h'
end Go.Proofs.Ytnjfjebmkajpbaa
