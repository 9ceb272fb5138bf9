/- Chapter 04: the library's slices, and the reference's at. -/
import Derived.Test.YthonodimjglnfaaRT2
import Derived.Test.YthonodimjglnfaaLW1
import Derived.Deep.RegionLaw
import Derived.Deep.AppendLies
import Derived.Lib.AppendZeros
import Derived.Lib.BufferMore
import Derived.Laws.AppendOwnNone
namespace Go.Proofs.Ythonodimjglnfaa
open Go.ChangeShapes Go.WideShapes Go.ChangeAt Go.RowKit Go.Deep Go.Joins Go.Maps
set_option linter.unusedVariables false
set_option linter.unusedSimpArgs false
theorem inI_of {n : Int} (h1 : -9223372036854775808 ≤ n) (h2 : n ≤ 9223372036854775807) : InI n := ⟨h1, h2⟩
set_option maxRecDepth 100000 in
set_option maxHeartbeats 16000000 in
theorem index_of {w : World} {A : Option Addr} {l : List Int} {n c : Nat} (hA : Nums w A l) (hn : l.length = n) (hll : n ≤ 1000000000) (x : Int) : Calls Try.prog 70 #[.slice A n c, .int .i64 x] w fun e w' => e = .returned (.int .i64 (findV l x)) ∧ w' = w := by
  have HA := Lib.hid hA
  have HN := Lib.hid hn
  clear hA hn
  go_enter Try.func70, Try.ntmps70
  go_wp2_with fail
  go_loop [8] (fun i => ∃ k : Nat, k ≤ n ∧ i = .int .i64 k ∧ ∀ j (hj : j < k) (hl : j < l.length), l[j] ≠ x) (fun i => n - (intOf i).toNat)
  case atStart => exact ⟨0, Nat.zero_le _, rfl, fun j hj => absurd hj (by omega)⟩
  case round =>
    obtain ⟨k, hk, rfl, hall⟩ := hrel
    have HALL := Lib.hid hall
    clear hall
    by_cases hlt : k < n
    · have d1 : decide (k < n) = true := decide_eq_true hlt
      have hkl : k < l.length := by rw [HN.out]; exact hlt
      obtain ⟨ga, offa, rfl, hgl, hca⟩ := HA.out k hkl
      obtain ⟨y, hy⟩ : ∃ y, l[k] = y := ⟨_, rfl⟩
      have HY := Lib.hid hy
      rw [hy] at hca
      have g0 : (0 : Int) ≤ (k : Int) := by omega
      have g1 : (k : Int) < (n : Int) := by omega
      clear hy
      by_cases e : y = x
      · have e1 : (y == x) = true := by simpa using e
        have e2 : (x == y) = true := by simpa using e.symm
        have HV : Hid (findV l x = (k : Int)) := by
          show _ = _
          unfold findV
          rw [findN_first hkl (by rw [HY.out]; exact e) (fun j hj => HALL.out j hj (by omega))]
        clear e
        go_wp2_with fail
        go_ret
        exact ⟨ret_int HV.out.symm, rfl⟩
      · have e1 : (y == x) = false := by simpa using e
        have e2 : (x == y) = false := by simpa using fun z => e z.symm
        have HE := Lib.hid e
        clear e
        go_wp2_with fail
        go_round
        case rel => exact ⟨k + 1, by omega, by go_num, fun j hj hl => (by
            rcases Nat.lt_or_ge j k with h | h
            · exact HALL.out j h hl
            · obtain rfl : j = k := by omega
              rw [HY.out]; exact HE.out)⟩
        case measure => simp [intOf]; omega
    · have hkn : k = n := by omega
      have d1 : decide (k < n) = false := decide_eq_false hlt
      clear hlt
      subst hkn
      have HV : Hid (findV l x = -1) := by
        show _ = _
        unfold findV
        rw [findN_none.2 (fun hm => by
          obtain ⟨j, hj, e⟩ := List.mem_iff_getElem.1 hm
          exact HALL.out j (by rw [← HN.out]; exact hj) hj e)]
      go_wp2_with fail
      go_ret
      exact ⟨ret_int HV.out.symm, rfl⟩
set_option maxRecDepth 100000 in
set_option maxHeartbeats 16000000 in
theorem at_of {w : World} {A : Option Addr} {l : List Int} {n c : Nat} (hA : Nums w A l) (hn : l.length = n) (hll : n ≤ 1000000000) (x : Int) : Calls Try.prog 45 #[.slice A n c, .int .i64 x] w fun e w' => e = .returned (.int .i64 (findV l x)) ∧ w' = w := by
  have HA := Lib.hid hA
  have HN := Lib.hid hn
  clear hA hn
  go_enter Try.func45, Try.ntmps45
  go_wp2_with fail
  go_loop [5] (fun i => ∃ k : Nat, k ≤ n ∧ i = .int .i64 k ∧ ∀ j (hj : j < k) (hl : j < l.length), l[j] ≠ x) (fun i => n - (intOf i).toNat)
  case atStart => exact ⟨0, Nat.zero_le _, rfl, fun j hj => absurd hj (by omega)⟩
  case round =>
    obtain ⟨k, hk, rfl, hall⟩ := hrel
    have HALL := Lib.hid hall
    clear hall
    by_cases hlt : k < n
    · have d1 : decide (k < n) = true := decide_eq_true hlt
      have hkl : k < l.length := by rw [HN.out]; exact hlt
      obtain ⟨ga, offa, rfl, hgl, hca⟩ := HA.out k hkl
      obtain ⟨y, hy⟩ : ∃ y, l[k] = y := ⟨_, rfl⟩
      have HY := Lib.hid hy
      rw [hy] at hca
      have g0 : (0 : Int) ≤ (k : Int) := by omega
      have g1 : (k : Int) < (n : Int) := by omega
      clear hy
      by_cases e : y = x
      · have e1 : (y == x) = true := by simpa using e
        have e2 : (x == y) = true := by simpa using e.symm
        have HV : Hid (findV l x = (k : Int)) := by
          show _ = _
          unfold findV
          rw [findN_first hkl (by rw [HY.out]; exact e) (fun j hj => HALL.out j hj (by omega))]
        clear e
        go_wp2_with fail
        go_ret
        exact ⟨ret_int HV.out.symm, rfl⟩
      · have e1 : (y == x) = false := by simpa using e
        have e2 : (x == y) = false := by simpa using fun z => e z.symm
        have HE := Lib.hid e
        clear e
        go_wp2_with fail
        go_round
        case rel => exact ⟨k + 1, by omega, by go_num, fun j hj hl => (by
            rcases Nat.lt_or_ge j k with h | h
            · exact HALL.out j h hl
            · obtain rfl : j = k := by omega
              rw [HY.out]; exact HE.out)⟩
        case measure => simp [intOf]; omega
    · have hkn : k = n := by omega
      have d1 : decide (k < n) = false := decide_eq_false hlt
      clear hlt
      subst hkn
      have HV : Hid (findV l x = -1) := by
        show _ = _
        unfold findV
        rw [findN_none.2 (fun hm => by
          obtain ⟨j, hj, e⟩ := List.mem_iff_getElem.1 hm
          exact HALL.out j (by rw [← HN.out]; exact hj) hj e)]
      go_wp2_with fail
      go_ret
      exact ⟨ret_int HV.out.symm, rfl⟩
theorem findV_has (l : List Int) (x : Int) : decide (0 ≤ findV l x) = l.contains x := by
  cases hf : findN l x with
  | none =>
    have h1 := findN_none.1 hf
    have : l.contains x = false := by simpa using h1
    rw [this]; unfold findV; rw [hf]; rfl
  | some k =>
    obtain ⟨hk, e, _⟩ := findN_some hf
    have : l.contains x = true := List.contains_iff_mem.2 (e ▸ List.getElem_mem hk)
    rw [this]; unfold findV; rw [hf]
    exact decide_eq_true (Int.natCast_nonneg _)
set_option maxRecDepth 100000 in
set_option maxHeartbeats 16000000 in
theorem has_any {w : World} {A : Option Addr} {l : List Int} {n c : Nat} (hA : Nums w A l) (hn : l.length = n) (hll : n ≤ 1000000000) (x : Int) : Calls Try.prog 51 #[.slice A n c, .int .i64 x] w fun e w' => e = .returned (.bool (l.contains x)) ∧ w' = w := by
  have H := Lib.hid (index_of (c := c) hA hn hll x)
  obtain ⟨v, hv⟩ : ∃ v, findV l x = v := ⟨_, rfl⟩
  have HV := Lib.hid hv
  have HH : Hid (decide (0 ≤ v) = l.contains x) := Lib.hid (by rw [← hv]; exact findV_has l x)
  clear hA hn hv
  go_enter Try.func51, Try.ntmps51
  go_wp2_with (go_at_call 70; (with_reducible refine H.out.mono ?_); rw [HV.out]; rintro e w1 ⟨rfl, hw1⟩; replace hw1 := hw1.symm; subst hw1)
  go_ret
  exact ⟨ret_bool HH.out, rfl⟩
theorem news_of {w : World} {tb toff : Nat} {l : List Int} (h : Nums w (some ⟨tb, toff, none⟩) l) : ∀ (j : Nat) (u : Value), (l.map (.int .i64))[j]? = some u → w.cell? ((⟨tb, toff, none⟩ : Addr).add j) = some u := by
  intro j u hu
  rw [add_plain]
  rw [List.getElem?_map] at hu
  obtain ⟨a, ha, rfl⟩ := Option.map_eq_some_iff.1 hu
  obtain ⟨hjl, rfl⟩ := List.getElem?_eq_some_iff.1 ha
  obtain ⟨b', off', e', _, hc⟩ := h j hjl
  cases e'
  exact hc
/-- a slice's address is plain, or it is empty -/
theorem nums_form {w : World} {A : Option Addr} {l : List Int} (h : Nums w A l) : l = [] ∨ ∃ b off, A = some ⟨b, off, none⟩ := by
  rcases Nat.eq_zero_or_pos l.length with h0 | h0
  · exact .inl (List.length_eq_zero_iff.1 h0)
  · obtain ⟨b, off, e, _⟩ := h 0 h0
    exact .inr ⟨b, off, e⟩
set_option maxRecDepth 100000 in
set_option maxHeartbeats 16000000 in
theorem clone_any {w : World} {A : Option Addr} {l : List Int} {n c : Nat} (hA : Nums w A l) (hn : l.length = n) (hll : n ≤ 1000000000) (hz : A = none ∨ 0 < n) : Calls Try.prog 69 #[.slice A n c] w fun e w' => ∃ v, e = .returned v ∧ (l = [] → v = .slice none 0 0) ∧ Ints w' w.heap.size v l ∧ Below w.heap.size w w' := by
  obtain ⟨i0, hi, hz0, hz1, hz2⟩ := info_parts infoI
  have HN := Lib.hid hn
  cases A with
  | none =>
    have h0 : l = [] := by
      rcases nums_form hA with h | ⟨b, off, e⟩
      · exact h
      · cases e
    have hn0 : n = 0 := by rw [← hn, h0]; rfl
    have heq : ∀ W : World, (binOp .eql 28 (.slice none n c) (.slice none 0 0)).run Try.prog W = .ok (.bool true) W := fun W => Lib.run_eql_slice_nil_nil W n c Try.underlying28
    subst h0
    clear hA hn hz hn0 hll HN
    go_enter Try.func69, Try.ntmps69
    go_wp2_with fail
    go_ret
    exact ⟨_, rfl, fun _ => rfl, World.ownsRow_nil _ _ _ _, Below.refl _ _⟩
  | some ad =>
    have hp : 0 < n := hz.resolve_left (fun e => by cases e)
    obtain ⟨b, off, e, -⟩ := hA 0 (by omega)
    cases e
    have hnews := news_of (hA.below ((Below.refl _ _).alloc (Nat.le_refl _) (.cells #[] 3)))
    have hlen1 : (l.map (Value.int .i64)).length = n * 1 := by rw [List.length_map, hn, Nat.mul_one]
    have hone1 : ∀ u ∈ l.map (Value.int .i64), u.oneCell' = true := by simp [Value.oneCell']
    have hnl := World.ownsRow_lit (size := 1) w #[] 0 (e := 3) (Nat.le_refl _) (by decide) rfl
    have HNL := Lib.hid hnl
    have hbase : w.heap.size ≤ (w.alloc (.cells #[] 3)).heap.size := by simp
    have heq : ∀ W : World, (binOp .eql 28 (.slice (some ⟨b, off, none⟩) n c) (.slice none 0 0)).run Try.prog W = .ok (.bool false) W := fun W => Lib.run_eql_slice_some_nil W _ n c Try.underlying28
    clear hA hn hnl hz
    go_enter Try.func69, Try.ntmps69
    go_wp2_with (at_builtin; refine wpList_append_own _ rfl _ _ 28 rfl (w.heap.size) 3 i0 (.int .i64 0) 1 8 Try.underlying28 hi hz0 hz1 hz2 rfl (by decide) _ _ _ rfl (HNL.out) ⟨b, off, none⟩ n c (l.map (.int .i64)) rfl hlen1 hnews hone1 (by unfold maxLen; omega) (by omega) hbase ?_; intro v2 w2 hown2 hg2 _)
    go_ret
    simp only [Nat.zero_add, List.nil_append] at hown2
    refine ⟨_, rfl, fun e => absurd (HN.out) (by rw [e]; exact fun q => by simp at q; omega), ?_, ?_⟩
    · unfold Ints; rw [HN.out]; exact hown2
    · exact ((Below.refl _ _).alloc (Nat.le_refl _) _).trans (below_of_append HNL.out hg2 (by simp))
theorem zeros_size (z : Value) (n : Nat) (hz : z.cells.size = 1) : (Builtin.zeroCells z.cells n).size = n := by unfold Builtin.zeroCells; simp [hz]
set_option maxRecDepth 100000 in
set_option maxHeartbeats 16000000 in
theorem grow_any {w : World} {k : Nat} (h0 : 0 < k) (hk : k ≤ 1000000000) : Calls Try.prog 66 #[.slice none 0 0, .int .i64 (k : Int)] w fun e w' => ∃ v, e = .returned v ∧ w'.ownsRow w.heap.size 3 1 v 0 [] ∧ Below w.heap.size w w' := by
  obtain ⟨i0, hi, hz0, hz1, hz2⟩ := info_parts infoI
  have hrun := Lib.run_append_nil_zeros (P := Try.prog) w 28 3 28 3 i0 (.int .i64 0) .i64 .i64 Try.underlying28 Try.underlying3 hi hz0 k h0 (by rw [hz1]; decide) (by omega) (by rw [hz2]; omega)
  obtain ⟨cp, hcp⟩ : ∃ cp, grownCap w k 0 3 = cp := ⟨_, rfl⟩
  have hc1 : k ≤ cp := by rw [← hcp]; exact grownCap_ge _ _ _ _
  have hc2 : cp ≤ maxLen := by rw [← hcp]; exact grownCap_le_maxLen _ _ _ _ (by unfold maxLen; omega)
  obtain ⟨cs, hcs⟩ : ∃ cs, Builtin.zeroCells (Value.int .i64 0).cells k ++ Builtin.zeroCells (Value.int .i64 0).cells (grownCap w k 0 3 - k) = cs := ⟨_, rfl⟩
  have hcz : cs.size = cp * 1 := by rw [← hcs, Array.size_append, zeros_size _ _ rfl, zeros_size _ _ rfl, hcp]; omega
  rw [hcs, hcp] at hrun
  have HRUN := Lib.hid hrun
  obtain ⟨w2, hw2⟩ : ∃ w2, w.drew.alloc (.cells cs 3) = w2 := ⟨_, rfl⟩
  have hbk : w2.heap[w.heap.size]? = some (.cells cs 3 (0, 0)) := by rw [← hw2]; exact (MapKept.heap_alloc w.drew _).1
  have hbel : Below w.heap.size w w2 := by rw [← hw2]; exact (Below.drew (Below.refl _ _)).alloc (Nat.le_refl _) _
  have HOWN : Hid (w2.ownsRow w.heap.size 3 1 (.slice (some ⟨w.heap.size, 0, none⟩) 0 cp) 0 []) := Lib.hid ⟨rfl, .inr ⟨w.heap.size, cp, cs, rfl, Nat.le_refl _, hbk, Nat.zero_le _, hc2, hcz, by simp⟩⟩
  have HBEL := Lib.hid hbel
  rw [hw2] at hrun
  replace HRUN := Lib.hid hrun
  have d1 : decide ((k : Int) < 0) = false := decide_eq_false (by omega)
  have d2 : decide ((0 : Int) < (k : Int)) = true := decide_eq_true (by omega)
  have d3 : decide (0 < k) = true := decide_eq_true h0
  have hc3 : cp ≤ 9223372036854775807 := hc2
  clear hcs hcp hcz hbk hbel hw2 hc2 hrun
  go_enter Try.func66, Try.ntmps66
  go_wp2_with (at_builtin; refine Lib.wpList_append_run _ rfl _ _ _ _ rfl _ _ rfl rfl _ _ HRUN.out ?_)
  go_ret
  exact ⟨_, rfl, HOWN.out, HBEL.out⟩
set_option maxRecDepth 100000 in
set_option maxHeartbeats 16000000 in
theorem grow_none {w : World} : Calls Try.prog 66 #[.slice none 0 0, .int .i64 0] w fun e w' => ∃ v, e = .returned v ∧ w'.ownsRow w.heap.size 3 1 v 0 [] ∧ Below w.heap.size w w' := by
  go_enter Try.func66, Try.ntmps66
  go_wp2_with fail
  go_ret
  exact ⟨_, rfl, World.ownsRow_nil _ _ _ _, Below.refl _ _⟩
theorem grow_all {w : World} {k : Nat} (hk : k ≤ 1000000000) : Calls Try.prog 66 #[.slice none 0 0, .int .i64 (k : Int)] w fun e w' => ∃ v, e = .returned v ∧ w'.ownsRow w.heap.size 3 1 v 0 [] ∧ Below w.heap.size w w' := by
  rcases Nat.eq_zero_or_pos k with h | h
  · subst h; exact grow_none
  · exact grow_any h hk
set_option maxRecDepth 100000 in
set_option maxHeartbeats 16000000 in
theorem concat_any {w : World} {p : Nat} {A B : Option Addr} {a b : List Int} {na nb ca cb : Nat} (c0 : w.cell? ⟨p, 0, none⟩ = some (.slice A na ca)) (c1 : w.cell? ⟨p, 1, none⟩ = some (.slice B nb cb)) (hA : Nums w A a) (hB : Nums w B b) (la : a.length = na) (lb : b.length = nb) (ha : na ≤ 1000000) (hb : nb ≤ 1000000) (za : (A = none ∧ na = 0 ∧ ca = 0) ∨ 0 < na) (zb : (B = none ∧ nb = 0 ∧ cb = 0) ∨ 0 < nb) :
    Calls Try.prog 47 #[.slice (some ⟨p, 0, none⟩) 2 2] w fun e w' => ∃ v, e = .returned v ∧ Ints w' w.heap.size v (a ++ b) ∧ Below w.heap.size w w' := by
  obtain ⟨i0, hi, hz0, hz1, hz2⟩ := info_parts infoI
  have HA := Lib.hid hA
  have HB := Lib.hid hB
  have HLA := Lib.hid la
  have HLB := Lib.hid lb
  have HZA := Lib.hid za
  have HZB := Lib.hid zb
  have hs0 : ((na : Int) + (nb : Int)) = ((na + nb : Nat) : Int) := by omega
  have HC0 := Lib.hid c0
  have HC1 := Lib.hid c1
  have HS0 := Lib.hid hs0
  clear hA hB la lb za zb hs0
  go_enter Try.func47, Try.ntmps47
  go_wp2_with fail
  go_loop [3, 11] (fun z i => (z = .int .i64 0 ∧ i = .int .i64 0) ∨ (z = .int .i64 (na : Int) ∧ i = .int .i64 1) ∨ (z = .int .i64 ((na + nb : Nat) : Int) ∧ i = .int .i64 2)) (fun _ i => 2 - (intOf i).toNat)
  case atStart => exact .inl ⟨rfl, rfl⟩
  case round =>
    rcases hrel with ⟨rfl, rfl⟩ | ⟨rfl, rfl⟩ | ⟨rfl, rfl⟩
    · have d0 : decide ((na : Int) < 0) = false := decide_eq_false (by omega)
      go_wp2_with fail
      go_round
      case rel => exact .inr (.inl ⟨by go_num, rfl⟩)
      case measure => simp [intOf]
    · have d0 : decide (((na + nb : Nat) : Int) < 0) = false := decide_eq_false (by omega)
      have hw : IntKind.i64.wrap ((na : Int) + (nb : Int)) = ((na + nb : Nat) : Int) := by rw [IntKind.wrap_i64]; omega
      go_wp2_with fail
      go_round
      case rel => exact .inr (.inr ⟨by go_num, rfl⟩)
      case measure => simp [intOf]
    · clear c0 c1
      obtain ⟨t, ht⟩ : ∃ t, na + nb = t := ⟨_, rfl⟩
      have htb : t ≤ 1000000000 := by omega
      have HT := Lib.hid ht
      rw [ht]
      go_wp2_with (go_at_call 66; (with_reducible refine (grow_all htb).mono ?_); rintro e w1 ⟨v1, rfl, hown, hbel⟩)
      have HOWN1 := Lib.hid hown
      have HBF1 := Lib.hid hbel
      have cc0 := (hbel.cell (cell_lt HC0.out)).trans HC0.out
      have cc1 := (hbel.cell (cell_lt HC1.out)).trans HC1.out
      obtain ⟨W0, hW0⟩ : ∃ W0, W0 = w := ⟨_, rfl⟩
      have HW0 := Lib.hid hW0
      clear hown hbel hW0 ht
      go_loopw [6, 27] (fun v i wr => Below W0.heap.size W0 wr ∧ ((i = .int .i64 0 ∧ wr.ownsRow W0.heap.size 3 1 v 0 []) ∨ (i = .int .i64 1 ∧ wr.ownsRow W0.heap.size 3 1 v na (a.map (.int .i64))) ∨ (i = .int .i64 2 ∧ wr.ownsRow W0.heap.size 3 1 v (na + nb) ((a ++ b).map (.int .i64))))) (fun _ i _ => 2 - (intOf i).toNat)
      case atStart => exact ⟨by rw [HW0.out]; exact HBF1.out, .inl ⟨rfl, by rw [HW0.out]; exact HOWN1.out⟩⟩
      case round =>
        obtain ⟨hbw, hrel⟩ := hrel
        have HBW := Lib.hid hbw
        have HBF : Hid (Below w.heap.size w wr) := Lib.hid (by rw [← HW0.out]; exact hbw)
        have c0 := (HBF.out.cell (cell_lt HC0.out)).trans HC0.out
        have c1 := (HBF.out.cell (cell_lt HC1.out)).trans HC1.out
        clear hbw
        rcases hrel with ⟨rfl, hown⟩ | ⟨rfl, hown⟩ | ⟨rfl, hown⟩
        · have HOWN := Lib.hid hown
          clear hown
          rcases HZA.out with ⟨hA0, hl0, hc0⟩ | hp
          · subst hA0
            obtain rfl : ca = 0 := hc0
            obtain rfl : na = 0 := hl0
            have hnil0 : a = [] := List.length_eq_zero_iff.1 HLA.out
            have HNIL := Lib.hid hnil0
            clear hnil0
            go_wp2_with (at_builtin; refine wpList_append_own_none rfl _ _ 28 rfl W0.heap.size 3 i0 1 Try.underlying28 hi _ 0 ([]) rfl HOWN.out rfl ?_)
            go_roundw
            case rel => exact ⟨HBW.out, .inr (.inl ⟨rfl, by rw [HNIL.out]; exact HOWN.out⟩)⟩
            case measure => simp [intOf]
          · obtain ⟨tb, toff, e, -⟩ := HA.out 0 (by rw [HLA.out]; exact hp)
            subst e
            have hnews := news_of (HA.out.below HBF.out)
            have hlen1 : (a.map (Value.int .i64)).length = na * 1 := by rw [List.length_map, HLA.out, Nat.mul_one]
            have hone1 : ∀ u ∈ a.map (Value.int .i64), u.oneCell' = true := by simp [Value.oneCell']
            have hbase := HBW.out.size
            clear hp
            go_wp2_with (at_builtin; refine wpList_append_own _ rfl _ _ 28 rfl W0.heap.size 3 i0 (.int .i64 0) 1 8 Try.underlying28 hi hz0 hz1 hz2 rfl (by decide) _ 0 ([]) rfl HOWN.out ⟨tb, toff, none⟩ na ca (a.map (.int .i64)) rfl hlen1 hnews hone1 (by unfold maxLen; omega) (by omega) hbase ?_; intro v2 w2 hown2 hg2 _)
            go_roundw
            case rel => exact ⟨HBW.out.trans (below_of_append HOWN.out hg2 hbase), .inr (.inl ⟨rfl, by simpa using hown2⟩)⟩
            case measure => simp [intOf]
        · have HOWN := Lib.hid hown
          clear hown
          rcases HZB.out with ⟨hA0, hl0, hc0⟩ | hp
          · subst hA0
            obtain rfl : cb = 0 := hc0
            obtain rfl : nb = 0 := hl0
            have hnil0 : b = [] := List.length_eq_zero_iff.1 HLB.out
            have HNIL := Lib.hid hnil0
            clear hnil0
            go_wp2_with (at_builtin; refine wpList_append_own_none rfl _ _ 28 rfl W0.heap.size 3 i0 1 Try.underlying28 hi _ na (a.map (.int .i64)) rfl HOWN.out rfl ?_)
            go_roundw
            case rel => exact ⟨HBW.out, .inr (.inr ⟨rfl, by rw [HNIL.out, List.append_nil]; exact HOWN.out⟩)⟩
            case measure => simp [intOf]
          · obtain ⟨tb, toff, e, -⟩ := HB.out 0 (by rw [HLB.out]; exact hp)
            subst e
            have hnews := news_of (HB.out.below HBF.out)
            have hlen1 : (b.map (Value.int .i64)).length = nb * 1 := by rw [List.length_map, HLB.out, Nat.mul_one]
            have hone1 : ∀ u ∈ b.map (Value.int .i64), u.oneCell' = true := by simp [Value.oneCell']
            have hbase := HBW.out.size
            clear hp
            go_wp2_with (at_builtin; refine wpList_append_own _ rfl _ _ 28 rfl W0.heap.size 3 i0 (.int .i64 0) 1 8 Try.underlying28 hi hz0 hz1 hz2 rfl (by decide) _ na (a.map (.int .i64)) rfl HOWN.out ⟨tb, toff, none⟩ nb cb (b.map (.int .i64)) rfl hlen1 hnews hone1 (by unfold maxLen; omega) (by omega) hbase ?_; intro v2 w2 hown2 hg2 _)
            go_roundw
            case rel => exact ⟨HBW.out.trans (below_of_append HOWN.out hg2 hbase), .inr (.inr ⟨rfl, by rw [List.map_append]; exact hown2⟩)⟩
            case measure => simp [intOf]
        · have HOWN := Lib.hid hown
          clear hown
          go_wp2_with fail
          go_ret
          refine ⟨_, rfl, ?_, HBF.out⟩
          unfold Ints
          rw [List.length_append, HLA.out, HLB.out, ← HW0.out]
          exact HOWN.out
end Go.Proofs.Ythonodimjglnfaa
