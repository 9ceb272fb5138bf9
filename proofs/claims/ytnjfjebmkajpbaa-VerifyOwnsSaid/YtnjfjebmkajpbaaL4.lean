/- Contracts: which block owns a place. -/
import Derived.Test.YtnjfjebmkajpbaaL3
import Derived.Maps.AppendAt
namespace Go.Proofs.Ytnjfjebmkajpbaa
open Go.ChangeShapes Go.WideShapes Go.ChangeAt Go.RowKit
set_option linter.unusedVariables false
set_option linter.unusedSimpArgs false

/-- a slice of ints of the call's own (from base on) -/
def IntRow (w : World) (base : Nat) (v : Value) (n : Nat) (F : Nat → Int) : Prop :=
  ∃ p c, v = .slice p n c ∧ n ≤ c ∧ c ≤ 9223372036854775807 ∧ Row w p n 1 (fun i _ => .int .i64 (F i)) ∧ ∀ b off, p = some ⟨b, off, none⟩ → base ≤ b ∧ ∀ j, w.frozen? ⟨b, j, none⟩ = false
theorem own_step (n : Nat) (C : Nat → Ins) (at_ k : Nat) (hk : k + 2 ≤ at_) : ownK n C at_ (k + 1) = if insB n C k && decide ((at_ : Int) < insT n C k) then (k : Int) else ownK n C at_ k := by
  rw [ownK, ins_end]
  cases h : insB n C k
  · rw [if_neg (by rintro ⟨_, h⟩; simp at h; omega)]; simp
  · by_cases h2 : (at_ : Int) < insT n C k
    · rw [if_pos ⟨hk, h2⟩, decide_eq_true h2]; rfl
    · rw [if_neg (fun q => h2 q.2), decide_eq_false h2]; rfl

set_option maxHeartbeats 4000000 in
theorem owner_any {w0 w : World} {p : Option Addr} {n c b at_ : Nat} {C : Nat → Ins} (hC : IsCode w0 p n C) (hB : Below w0.heap.size w0 w) (hS : Small n C) (hn : n ≤ 100000) (ha : at_ < n) (hl : w.cell? ⟨b, 0, none⟩ = some (.slice p n c)) :
    Calls Try.prog 30 #[.int .i64 at_, .pointer (some ⟨b, 0, none⟩)] w fun e w' => e = .returned (.int .i64 (ownV n C at_)) ∧ Below w.heap.size w w' := by
  have hbw : b < w.heap.size := cell_lt hl
  have hI : Inv w0 w w w := Inv.start hB (Below.refl _ _)
  have HL := Lib.hid hl
  clear hl hB
  go_enter Try.func30, Try.ntmps30
  go_wp2_with fail
  go_loopw [4, 5] (fun o i wr => ∃ k : Nat, k ≤ at_ ∧ i = .int .i64 k ∧ o = .int .i64 (ownK n C at_ k) ∧ Inv w0 w w wr) (fun _ i _ => at_ - (intOf i).toNat)
  case atStart => exact ⟨0, Nat.zero_le _, rfl, rfl, hI⟩
  case round =>
    clear hI
    obtain ⟨k, hk, rfl, rfl, hI⟩ := hrel
    by_cases hlt : k + 2 ≤ at_
    · have d1 : decide (k + 2 ≤ at_) = true := decide_eq_true hlt
      have d2 : decide ((k : Int) + 2 ≤ (at_ : Int)) = true := decide_eq_true (by omega)
      have c0 := (hI.bw.cell (p := ⟨b, 0, none⟩) hbw).trans HL.out
      have HST := Lib.hid (own_step n C at_ k hlt)
      obtain ⟨q, hq⟩ : ∃ q, ownK n C at_ k = q := ⟨_, rfl⟩
      obtain ⟨t, ht⟩ : ∃ t, insT n C k = t := ⟨_, rfl⟩
      have HQ := Lib.hid hq
      have HT := Lib.hid ht
      rw [hq]
      clear hq ht
      have hkn : k < n := by omega
      cases hb : insB n C k
      · have HB := Lib.hid hb
        clear hb
        go_wp2_with (go_at_call 31; (with_reducible refine (inside_any hC hI.b0 hS hkn hn).mono ?_); rw [HT.out, HB.out]; rintro e w3 ⟨rfl, hb3⟩; clear c0)
        go_roundw
        case rel => exact ⟨k + 1, by omega, by go_num, by rw [HST.out, HB.out, HQ.out]; rfl, hI.go (by (repeat' (first | (with_reducible exact Below.refl _ _) | (with_reducible assumption) | (with_reducible refine below_drewN ?_ _) | (with_reducible refine Below.alloc ?_ ?_ _) | (with_reducible refine Below.drew ?_) | (with_reducible refine Below.setCell ?_ ?_ _) | go_size)))⟩
        case measure => simp [intOf]; omega
      · have HB := Lib.hid hb
        clear hb
        by_cases hgt : (at_ : Int) < t
        · have d3 : decide ((at_ : Int) < t) = true := decide_eq_true hgt
          go_wp2_with (go_at_call 31; (with_reducible refine (inside_any hC hI.b0 hS hkn hn).mono ?_); rw [HT.out, HB.out]; rintro e w3 ⟨rfl, hb3⟩; clear c0)
          go_roundw
          case rel => exact ⟨k + 1, by omega, by go_num, by rw [HST.out, HB.out, HT.out, decide_eq_true hgt]; rfl, hI.go (by (repeat' (first | (with_reducible exact Below.refl _ _) | (with_reducible assumption) | (with_reducible refine below_drewN ?_ _) | (with_reducible refine Below.alloc ?_ ?_ _) | (with_reducible refine Below.drew ?_) | (with_reducible refine Below.setCell ?_ ?_ _) | go_size)))⟩
          case measure => simp [intOf]; omega
        · have d3 : decide ((at_ : Int) < t) = false := decide_eq_false hgt
          have D3 := Lib.hid d3
          go_wp2_with (go_at_call 31; (with_reducible refine (inside_any hC hI.b0 hS hkn hn).mono ?_); rw [HT.out, HB.out]; rintro e w3 ⟨rfl, hb3⟩; clear c0)
          go_roundw
          case rel => exact ⟨k + 1, by omega, by go_num, by rw [HST.out, HB.out, HT.out, HQ.out, D3.out]; rfl, hI.go (by (repeat' (first | (with_reducible exact Below.refl _ _) | (with_reducible assumption) | (with_reducible refine below_drewN ?_ _) | (with_reducible refine Below.alloc ?_ ?_ _) | (with_reducible refine Below.drew ?_) | (with_reducible refine Below.setCell ?_ ?_ _) | go_size)))⟩
          case measure => simp [intOf]; omega
    · have d1 : decide (k + 2 ≤ at_) = false := decide_eq_false hlt
      have d2 : decide ((k : Int) + 2 ≤ (at_ : Int)) = false := decide_eq_false (by omega)
      have F : Hid (ownV n C at_ = ownK n C at_ k) := ownK_far n C at_ k n (by omega) (by omega)
      go_wp2_with fail
      go_ret
      exact ⟨ret_int F.out.symm, hI.bw⟩

theorem infoI : (Try.prog.info? 3).map (fun i => (i.zero, i.size, i.bytes)) = some (some (.int .i64 0), 1, 8) := by kernel_rfl
/-- a row of ints of the call's own -/
def OwnI (w : World) (base g n cap : Nat) (ys : List Int) : Prop := w.ownsRow base 3 1 (.slice (some ⟨g, 0, none⟩) n cap) n (ys.map (Value.int .i64))
theorem OwnI.len {w : World} {base g n cap : Nat} {ys : List Int} (h : OwnI w base g n cap ys) : ys.length = n := by have := h.1; simpa using this
theorem OwnI.cell {w : World} {base g n cap : Nat} {ys : List Int} (h : OwnI w base g n cap ys) {j : Nat} (hj : j < n) : w.cell? ⟨g, j, none⟩ = some (.int .i64 (ys.getD j 0)) := by
  have hl : j < ys.length := by rw [h.len]; exact hj
  rw [World.ownsRow.cellAt h j (by omega), List.getElem?_map, List.getElem?_eq_getElem hl, List.getD_eq_getElem?_getD, List.getElem?_eq_getElem hl]; rfl
theorem OwnI.free {w : World} {base g n cap : Nat} {ys : List Int} (h : OwnI w base g n cap ys) (j : Nat) : w.frozen? ⟨g, j, none⟩ = false := World.ownsRow.frozenAt h j
theorem OwnI.put {w : World} {base g n cap : Nat} {ys : List Int} (h : OwnI w base g n cap ys) (j : Nat) (x : Int) : OwnI (w.setCell ⟨g, j, none⟩ (.int .i64 x)) base g n cap (ys.set j x) := by
  have := (World.ownsRow.stored h j (.int .i64 x)).1
  unfold OwnI; rw [List.map_set]; exact this
theorem OwnI.below {w w' : World} {base g n cap : Nat} {ys : List Int} (h : OwnI w base g n cap ys) (hb : Below w.heap.size w w') : OwnI w' base g n cap ys := ownsRow_below h hb
theorem OwnI.base_le {w : World} {base g n cap : Nat} {ys : List Int} (h : OwnI w base g n cap ys) : base ≤ g ∧ g < w.heap.size := World.ownsRow.lt h g rfl
theorem OwnI.cap_le {w : World} {base g n cap : Nat} {ys : List Int} (h : OwnI w base g n cap ys) : n ≤ cap ∧ cap ≤ 9223372036854775807 := by
  rcases h.2 with ⟨h', _⟩ | ⟨g', cap', cur, h', _, _, h1, h2, _⟩
  · cases h'
  · cases h'; exact ⟨h1, h2⟩
theorem OwnI.row {w : World} {base g n cap : Nat} {ys : List Int} (h : OwnI w base g n cap ys) {F : Nat → Int} (hF : ∀ j, j < n → ys.getD j 0 = F j) : IntRow w base (.slice (some ⟨g, 0, none⟩) n cap) n F := by
  refine ⟨_, _, rfl, h.cap_le.1, h.cap_le.2, fun h0 => ⟨g, 0, rfl, h.base_le.2, fun i hi j hj => ?_⟩, fun b off e => by cases e; exact ⟨h.base_le.1, h.free⟩⟩
  have hj0 : j = 0 := by omega
  subst hj0
  rw [show 0 + i * 1 + 0 = i by omega, h.cell hi, hF i hi]
theorem own_made (w : World) {base : Nat} (n : Nat) (hb : base ≤ w.heap.size) (hn : n ≤ 100000) {M : Array Value} (hM : madeCells #[Value.int .i64 0] n = M) : OwnI (w.alloc (.cells M 3)) base w.heap.size n n (List.replicate n 0) := by
  have h := World.ownsRow_lit (base := base) (e := 3) (size := 1) w M n hb (by unfold maxLen; omega) (by rw [← hM, size_madeCells]; omega)
  have e : M.toList = (List.replicate n (0 : Int)).map (Value.int .i64) := by
    rw [← hM]; apply List.ext_getElem
    · simp [madeCells]
    · intro i h1 h2
      simp [madeCells, Nat.mod_one]
  unfold OwnI; rw [← e]; exact h
theorem make_ints (w : World) (n : Nat) (hn : n ≤ 100000) : (Instr.makeSlice 29 (.int .i64 (n : Int)) (.int .i64 (n : Int))).run Try.prog w = .ok (.slice (some ⟨w.heap.size, 0, none⟩) n n) (w.alloc (.cells (madeCells #[Value.int .i64 0] n) 3)) := by
  obtain ⟨i0, hi, hz0, hz1, hz2⟩ := info_parts infoI
  have := run_make (P := Try.prog) w 29 3 i0 (.int .i64 0) Try.underlying29 hi hz0 .i64 .i64 (n : Int) (n : Int) (by omega) (Int.le_refl _) (by rw [hz2]; omega) (by omega)
  simpa [hz1, Value.cells] using this

set_option maxHeartbeats 4000000 in
theorem owners_any {w0 w : World} {p : Option Addr} {n c : Nat} {C : Nat → Ins} (hC : IsCode w0 p n C) (hB : Below w0.heap.size w0 w) (hS : Small n C) (hn : n ≤ 100000) :
    Calls Try.prog 13 #[.slice p n c] w fun e w' => ∃ v, e = .returned v ∧ IntRow w' w.heap.size v n (ownV n C) ∧ Below w.heap.size w w' := by
  have hmk := fun w' => make_ints w' n hn
  obtain ⟨M, hM⟩ : ∃ M, madeCells #[Value.int .i64 0] n = M := ⟨_, rfl⟩
  rw [hM] at hmk
  have HM := Lib.hid hM
  clear hM
  go_enter Try.func13, Try.ntmps13
  go_wp2_with fail
  clear hmk
  go_loopw [12] (fun i wr => ∃ (k : Nat) (ys : List Int), k ≤ n ∧ i = .int .i64 k ∧ OwnI wr (w.heap.size + 1) (w.heap.size + 1) n n ys ∧ (∀ j, j < k → ys.getD j 0 = ownV n C j) ∧ wr.cell? ⟨w.heap.size, 0, none⟩ = some (.slice p n c) ∧ Below w.heap.size w wr) (fun i _ => n - (intOf i).toNat)
  case atStart =>
    refine ⟨0, List.replicate n 0, Nat.zero_le _, rfl, ?_, fun j hj => absurd hj (by omega), ?_, ?_⟩
    · have := own_made (w.alloc (.cells #[.slice p n c] 23)) (base := w.heap.size + 1) n (by simp) hn HM.out
      simpa using this
    · simp [go_sem]
    · (repeat' (first | (with_reducible exact Below.refl _ _) | (with_reducible assumption) | (with_reducible refine below_drewN ?_ _) | (with_reducible refine Below.alloc ?_ ?_ _) | (with_reducible refine Below.drew ?_) | (with_reducible refine Below.setCell ?_ ?_ _) | go_size))
  case round =>
    obtain ⟨k, ys, hk, rfl, hown, hys, hcl, hBw⟩ := hrel
    have HOWN := Lib.hid hown
    have HYS := Lib.hid hys
    have HCL := Lib.hid hcl
    have hws := hBw.size
    clear hown hys hcl
    by_cases hlt : k < n
    · have d1 : decide (k < n) = true := decide_eq_true hlt
      have g0 : (0 : Int) ≤ (k : Int) := by omega
      have g1 : (k : Int) < (n : Int) := by omega
      have hB0 := hB.trans (hBw.mono hB.size)
      go_wp2_with (go_at_call 30; (with_reducible refine (owner_any hC hB0 hS hn hlt HCL.out).mono ?_); rintro e w3 ⟨rfl, hb3⟩; have hown3 := HOWN.out.below hb3; have cA := hown3.cell hlt; have fA := hown3.free k)
      have hs3 := hb3.size
      have hlen := HOWN.out.len
      go_roundw
      case rel =>
        refine ⟨k + 1, ys.set k (ownV n C k), by omega, by go_num, hown3.put k _, fun j hj => ?_, ?_, ?_⟩
        · by_cases hjk : j = k
          · subst hjk
            rw [List.getD_eq_getElem?_getD, List.getElem?_set_self (by omega)]; rfl
          · rw [List.getD_eq_getElem?_getD, List.getElem?_set_ne (by omega), ← List.getD_eq_getElem?_getD]
            exact HYS.out j (by omega)
        · rw [World.cell?_setCell_other _ _ _ _ (by simp)]
          exact (hb3.cell (p := ⟨w.heap.size, 0, none⟩) (cell_lt HCL.out)).trans HCL.out
        · have hx := hBw.trans (hb3.mono hws)
          (repeat' (first | (with_reducible exact Below.refl _ _) | (with_reducible assumption) | (with_reducible refine below_drewN ?_ _) | (with_reducible refine Below.alloc ?_ ?_ _) | (with_reducible refine Below.drew ?_) | (with_reducible refine Below.setCell ?_ ?_ _) | go_size))
      case measure => simp [intOf]; omega
    · have hkn : k = n := by omega
      have d1 : decide (k < n) = false := decide_eq_false hlt
      clear hlt
      subst hkn
      go_wp2_with fail
      go_ret
      exact ⟨_, rfl, by obtain ⟨p', c', h1, h2, h3, h4, h5⟩ := HOWN.out.row (F := ownV k C) (fun j hj => HYS.out j hj); exact ⟨p', c', h1, h2, h3, h4, fun b off e => ⟨Nat.le_trans (by omega) (h5 b off e).1, (h5 b off e).2⟩⟩, hBw⟩

theorem own_stepR (n : Nat) (C : Nat → Ins) (at_ k : Nat) : ownK n C at_ (k + 1) = if decide (k + 2 ≤ at_) && decide ((at_ : Int) < endV n C k) then (k : Int) else ownK n C at_ k := by
  rw [ownK]
  by_cases h1 : k + 2 ≤ at_
  · by_cases h2 : (at_ : Int) < endV n C k
    · rw [if_pos ⟨h1, h2⟩, decide_eq_true h1, decide_eq_true h2]; rfl
    · rw [if_neg (fun q => h2 q.2), decide_eq_true h1, decide_eq_false h2]; rfl
  · rw [if_neg (fun q => h1 q.1), decide_eq_false h1]; rfl
theorem own_row_ints {w : World} {base n : Nat} {v : Value} {ys : List Int} (h : w.ownsRow base 3 1 v n (ys.map (Value.int .i64))) {F : Nat → Int} (hF : ∀ j, j < n → ys.getD j 0 = F j) : IntRow w base v n F := by
  rcases h.2 with ⟨rfl, h0⟩ | ⟨g, cap, cur, rfl, hg, _⟩
  · subst h0
    exact ⟨none, 0, rfl, Nat.le_refl _, by omega, fun q => absurd q (by omega), fun _ _ e => by cases e⟩
  · exact OwnI.row (ys := ys) h hF
theorem byte_nat {a b : Int} {t : Nat} (h : (.int .i64 a : Value) = .int .i64 b) : a = b := by cases h; rfl

set_option maxHeartbeats 4000000 in
theorem rowners_any {w0 w : World} {p : Option Addr} {n c : Nat} {C : Nat → Ins} (hC : IsCode w0 p n C) (hB : Below w0.heap.size w0 w) (hS : Small n C) (hn : n ≤ 100000) :
    Calls Try.prog 14 #[.slice p n c] w fun e w' => ∃ v, e = .returned v ∧ IntRow w' w.heap.size v n (ownV n C) ∧ Below w.heap.size w w' := by
  obtain ⟨i0, hi, hz0, hz1, hz2⟩ := info_parts infoI
  go_enter Try.func14, Try.ntmps14
  go_wp2_with fail
  go_loopw [3, 4] (fun v i wr => ∃ k : Nat, k ≤ n ∧ i = .int .i64 k ∧ wr.ownsRow w.heap.size 3 1 v k (((List.range k).map (ownV n C)).map (Value.int .i64)) ∧ Below w.heap.size w wr) (fun _ i _ => n - (intOf i).toNat)
  case atStart => exact ⟨0, Nat.zero_le _, rfl, World.ownsRow_nil _ _ _ _, by (repeat' (first | (with_reducible exact Below.refl _ _) | (with_reducible assumption) | (with_reducible refine below_drewN ?_ _) | (with_reducible refine Below.alloc ?_ ?_ _) | (with_reducible refine Below.drew ?_) | (with_reducible refine Below.setCell ?_ ?_ _) | go_size))⟩
  case round =>
    obtain ⟨k, hk, rfl, hown, hBw⟩ := hrel
    have hws := hBw.size
    by_cases hlt : k < n
    · have d1 : decide (k < n) = true := decide_eq_true hlt
      obtain ⟨wo, hwo⟩ : ∃ wo : World, wo = wr := ⟨_, rfl⟩
      rw [← hwo] at hown hBw hws ⊢
      have HOWN := Lib.hid hown
      clear hwo hown
      go_wp2_with fail
      go_loopw [5, 6] (fun o i wx => ∃ q : Nat, q ≤ n ∧ i = .int .i64 q ∧ o = .int .i64 (ownK n C k q) ∧ Below wo.heap.size wo wx) (fun _ i _ => n - (intOf i).toNat)
      case atStart => exact ⟨0, Nat.zero_le _, rfl, rfl, Below.refl _ _⟩
      case round =>
        obtain ⟨q, hq, rfl, rfl, hBx⟩ := hrel
        by_cases hqn : q < n
        · have d2 : decide (q < n) = true := decide_eq_true hqn
          have hB2 := (hB.trans (hBw.mono hB.size)).trans (hBx.mono (by have := hB.size; omega))
          have HST := Lib.hid (own_stepR n C k q)
          obtain ⟨o, ho⟩ : ∃ o, ownK n C k q = o := ⟨_, rfl⟩
          obtain ⟨t, ht⟩ : ∃ t, endV n C q = t := ⟨_, rfl⟩
          have HO := Lib.hid ho
          have HE := Lib.hid ht
          rw [ho]
          clear ho ht
          have hxs := hBx.size
          by_cases h2 : q + 2 ≤ k
          · have d3 : decide (q + 2 ≤ k) = true := decide_eq_true h2
            have d4 : decide ((q : Int) + 2 ≤ (k : Int)) = true := decide_eq_true (by omega)
            by_cases h3 : (k : Int) < t
            · have d5 : decide ((k : Int) < t) = true := decide_eq_true h3
              have F : Hid (ownK n C k (q + 1) = (q : Int)) := by show _ = _; rw [HST.out, HE.out, d3, d5]; rfl
              go_wp2_with (go_at_call 32; (with_reducible refine (end_any hC hB2 hS hqn hn).mono ?_); rw [HE.out]; rintro e w3 ⟨rfl, hb3⟩; have hb4 := hBx.trans (hb3.mono hxs))
              go_roundw
              case rel => exact ⟨q + 1, by omega, by go_num, by rw [F.out], by (repeat' (first | (with_reducible exact Below.refl _ _) | (with_reducible assumption) | (with_reducible refine below_drewN ?_ _) | (with_reducible refine Below.alloc ?_ ?_ _) | (with_reducible refine Below.drew ?_) | (with_reducible refine Below.setCell ?_ ?_ _) | go_size))⟩
              case measure => simp [intOf]; omega
            · have d5 : decide ((k : Int) < t) = false := decide_eq_false h3
              have F : Hid (ownK n C k (q + 1) = o) := by show _ = _; rw [HST.out, HE.out, HO.out, d3, d5]; rfl
              go_wp2_with (go_at_call 32; (with_reducible refine (end_any hC hB2 hS hqn hn).mono ?_); rw [HE.out]; rintro e w3 ⟨rfl, hb3⟩; have hb4 := hBx.trans (hb3.mono hxs))
              go_roundw
              case rel => exact ⟨q + 1, by omega, by go_num, by rw [F.out], by (repeat' (first | (with_reducible exact Below.refl _ _) | (with_reducible assumption) | (with_reducible refine below_drewN ?_ _) | (with_reducible refine Below.alloc ?_ ?_ _) | (with_reducible refine Below.drew ?_) | (with_reducible refine Below.setCell ?_ ?_ _) | go_size))⟩
              case measure => simp [intOf]; omega
          · have d3 : decide (q + 2 ≤ k) = false := decide_eq_false h2
            have d4 : decide ((q : Int) + 2 ≤ (k : Int)) = false := decide_eq_false (by omega)
            have F : Hid (ownK n C k (q + 1) = o) := by show _ = _; rw [HST.out, HO.out, d3]; rfl
            go_wp2_with (go_at_call 32; (with_reducible refine (end_any hC hB2 hS hqn hn).mono ?_); rw [HE.out]; rintro e w3 ⟨rfl, hb3⟩; have hb4 := hBx.trans (hb3.mono hxs))
            go_roundw
            case rel => exact ⟨q + 1, by omega, by go_num, by rw [F.out], by (repeat' (first | (with_reducible exact Below.refl _ _) | (with_reducible assumption) | (with_reducible refine below_drewN ?_ _) | (with_reducible refine Below.alloc ?_ ?_ _) | (with_reducible refine Below.drew ?_) | (with_reducible refine Below.setCell ?_ ?_ _) | go_size))⟩
            case measure => simp [intOf]; omega
        · have hqn' : q = n := by omega
          have d2 : decide (q < n) = false := decide_eq_false hqn
          clear hqn
          subst hqn'
          have hown2 := ownsRow_below HOWN.out hBx
          have hxs := hBx.size
          obtain ⟨o, ho⟩ : ∃ o, ownK q C k q = o := ⟨_, rfl⟩
          rw [ho]
          have HO := Lib.hid ho
          clear ho
          go_wp2_with (at_builtin; refine wpList_append_own _ rfl _ _ 29 rfl w.heap.size 3 i0 (.int .i64 0) 1 8 Try.underlying29 hi hz0 hz1 hz2 rfl (by decide) _ _ _ rfl (hown2.alloc _) ⟨wr.heap.size, 0, none⟩ 1 1 [.int .i64 o] rfl rfl (cells_new _ _ _) (by simp [Value.oneCell']) (by unfold maxLen; omega) (by omega) (by simp only [World.size_alloc]; omega) ?_; intro v2 w2 hown3 hg2 _)
          go_roundw
          case rel =>
            have hb2 := below_of_append (hown2.alloc (.cells #[.int .i64 o] 3)) hg2 (by simp only [World.size_alloc]; omega)
            refine ⟨k + 1, hlt, by go_num, ?_, ?_⟩
            · rw [List.range_succ, List.map_append, List.map_append]
              simp only [List.map_cons, List.map_nil]
              rw [show ownV q C k = o from HO.out]
              exact hown3
            · have h3 := hBw.trans (hBx.mono hws)
              have h4 : Below w.heap.size w (wr.alloc (.cells #[.int .i64 o] 3)) := by (repeat' (first | (with_reducible exact Below.refl _ _) | (with_reducible assumption) | (with_reducible refine below_drewN ?_ _) | (with_reducible refine Below.alloc ?_ ?_ _) | (with_reducible refine Below.drew ?_) | (with_reducible refine Below.setCell ?_ ?_ _) | go_size))
              exact h4.trans (hb2.mono (by omega))
          case measure => simp [intOf]; omega
    · have hkn : k = n := by omega
      have d1 : decide (k < n) = false := decide_eq_false hlt
      clear hlt
      subst hkn
      go_wp2_with fail
      go_ret
      exact ⟨_, rfl, own_row_ints hown (fun j hj => by rw [List.getD_eq_getElem?_getD, List.getElem?_map, List.getElem?_range hj]; rfl), hBw⟩
end Go.Proofs.Ytnjfjebmkajpbaa
