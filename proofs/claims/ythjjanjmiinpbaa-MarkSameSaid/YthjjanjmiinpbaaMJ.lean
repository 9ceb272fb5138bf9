/- Chapter 03: the statements' example; steps of the laws on both memories. -/
import Derived.Test.YthjjanjmiinpbaaSH
import Derived.Test.YthjjanjmiinpbaaMG
import Derived.Deep.RegionLaw
import Derived.Test.YthjjanjmiinpbaaLW1
namespace Go.Proofs.Ythjjanjmiinpbaa
open Go.ChangeShapes Go.WideShapes Go.ChangeAt Go.RowKit Go.Deep Go.Joins Go.Maps
set_option linter.unusedVariables false
set_option linter.unusedSimpArgs false
theorem Ints.at_ {w : World} {base n c : Nat} {A : Option Addr} {l : List Int} (h : Ints w base (.slice A n c) l) (hn : l.length = n) {j : Nat} (hj : j < n) : ∃ g, A = some ⟨g, 0, none⟩ ∧ base ≤ g ∧ w.cell? ⟨g, j, none⟩ = some (.int .i64 (l.getD j 0)) ∧ w.frozen? ⟨g, j, none⟩ = false := by
  have h' := h
  rcases h.2 with ⟨hv, h0⟩ | ⟨g, cap, cur, hv, hg, hh, h1, h2, h3, h4⟩
  · omega
  · cases hv
    refine ⟨g, rfl, hg, ?_, by simp [World.frozen?, hh]⟩
    rw [World.ownsRow.cellAt h' j (by omega), List.getElem?_map, List.getElem?_eq_getElem (by omega), List.getD_eq_getElem?_getD, List.getElem?_eq_getElem (by omega)]
    rfl
/-- the example's things -/
def liveT (A B : Option Addr) : Nat → ThT
  | 0 => ⟨0, 0, none, 0, 0, []⟩
  | 1 => ⟨0, 0, A, 1, 1, [-1]⟩
  | _ => ⟨0, 0, B, 1, 1, [-3]⟩
def live0 : Hp := ⟨2000, 3, [⟨0, 0, 1, []⟩, ⟨0, 0, 2, [6]⟩, ⟨0, 0, 3, [20]⟩]⟩
def live1 : Hp := ⟨2000, 3, [⟨0, 0, 1, []⟩, ⟨0, 0, 2, [6]⟩]⟩
set_option maxRecDepth 100000 in
theorem live_made (A B : Option Addr) : madeV (liveT A B) 3 = live0 := by kernel_rfl
theorem live_reach : reachL live0.L [12] = [6, 12] := by
  have hk6 : kids live0.L 6 = [0] := by rfl
  have hk12 : kids live0.L 12 = [0, 6] := by rfl
  have h0 : isV live0.L 0 = false := by rfl
  have h12 : Rch live0.L [12] 12 := .root (by simp) (by rfl)
  have h := reach_filter (L := live0.L) (rs := [12]) (p := fun x => x == 6 || x == 12) (fun x => by
    constructor
    · intro hx
      simp only [Bool.or_eq_true, beq_iff_eq] at hx
      rcases hx with rfl | rfl
      · exact .step h12 (by rw [hk12]; simp) (by rfl)
      · exact h12
    · intro hx
      refine hx.to (S := fun x => ((x == 6 || x == 12) = true)) (fun x hx _ => ?_) (fun o ho x hx v => ?_)
      · rw [List.mem_singleton.1 hx]; rfl
      · simp only [Bool.or_eq_true, beq_iff_eq] at ho ⊢
        rcases ho with rfl | rfl
        · rw [hk6, List.mem_singleton] at hx
          rw [hx, h0] at v; cases v
        · rw [hk12] at hx
          rcases List.mem_cons.1 hx with e | e
          · rw [e, h0] at v; cases v
          · exact .inl (List.mem_singleton.1 e))
  rw [← h]
  rfl
set_option maxRecDepth 100000 in
theorem live_keep : keepV live0 [6, 12] = (live1, [6, 12], 0) := by rfl
theorem live_c1 : collectV live0 [12] = (live1, [12], 0) := by
  have ha : [12].all (mayV live0.L) = true := by rfl
  have hw : [12].map (colW live0.L [6, 12]) = [12] := by rfl
  unfold collectV
  rw [ha, if_pos rfl, live_reach, live_keep, if_pos rfl, hw]
theorem live_c2 : collectV live1 [8] = (live1, [], 1) := by
  have ha : [8].all (mayV live1.L) = false := by rfl
  unfold collectV
  rw [ha]
  rfl
set_option maxRecDepth 100000 in
theorem live_g : getV live1.L 12 0 = (6, 0) := by rfl
theorem live_things (w : World) : Calls Try.prog 9 #[.slice (some ⟨w.heap.size + 2, 0, none⟩) 3 3] (((w.alloc (.cells #[.int .i64 (-1)] 3)).alloc (.cells #[.int .i64 (-3)] 3)).alloc (.cells #[.int .i64 0, .int .i64 0, .slice none 0 0, .int .i64 0, .int .i64 0, .slice (some ⟨w.heap.size, 0, none⟩) 1 1, .int .i64 0, .int .i64 0, .slice (some ⟨w.heap.size + 1, 0, none⟩) 1 1] 50)) fun e w' => ∃ s r, e = .returned (.tuple #[.pointer (some ⟨s, 0, none⟩), .pointer (some ⟨r, 0, none⟩), .bool true]) ∧ ∃ bw bm, PM w' s bw bm live0 ∧ (∀ k, pset s bw bm k → w.heap.size ≤ k) ∧ Below w.heap.size w w' := by
  have s1 : (w.alloc (.cells #[.int .i64 (-1)] 3)).heap.size = w.heap.size + 1 := by simp
  have s2 : ((w.alloc (.cells #[.int .i64 (-1)] 3)).alloc (.cells #[.int .i64 (-3)] 3)).heap.size = w.heap.size + 2 := by simp
  have h0 : (((w.alloc (.cells #[.int .i64 (-1)] 3)).alloc (.cells #[.int .i64 (-3)] 3)).alloc (.cells #[.int .i64 0, .int .i64 0, .slice none 0 0, .int .i64 0, .int .i64 0, .slice (some ⟨w.heap.size, 0, none⟩) 1 1, .int .i64 0, .int .i64 0, .slice (some ⟨w.heap.size + 1, 0, none⟩) 1 1] 50)).heap[w.heap.size]? = some (.cells #[.int .i64 (-1)] 3 (0, 0)) := by
    rw [Below.heap_alloc _ _ _ (by rw [s2]; omega), Below.heap_alloc _ _ _ (by rw [s1]; omega)]
    exact heap_alloc_new w _
  have h1 : (((w.alloc (.cells #[.int .i64 (-1)] 3)).alloc (.cells #[.int .i64 (-3)] 3)).alloc (.cells #[.int .i64 0, .int .i64 0, .slice none 0 0, .int .i64 0, .int .i64 0, .slice (some ⟨w.heap.size, 0, none⟩) 1 1, .int .i64 0, .int .i64 0, .slice (some ⟨w.heap.size + 1, 0, none⟩) 1 1] 50)).heap[w.heap.size + 1]? = some (.cells #[.int .i64 (-3)] 3 (0, 0)) := by
    rw [Below.heap_alloc _ _ _ (by rw [s2]; omega), ← s1]
    exact heap_alloc_new _ _
  have h2 : (((w.alloc (.cells #[.int .i64 (-1)] 3)).alloc (.cells #[.int .i64 (-3)] 3)).alloc (.cells #[.int .i64 0, .int .i64 0, .slice none 0 0, .int .i64 0, .int .i64 0, .slice (some ⟨w.heap.size, 0, none⟩) 1 1, .int .i64 0, .int .i64 0, .slice (some ⟨w.heap.size + 1, 0, none⟩) 1 1] 50)).heap[w.heap.size + 2]? = some (.cells #[.int .i64 0, .int .i64 0, .slice none 0 0, .int .i64 0, .int .i64 0, .slice (some ⟨w.heap.size, 0, none⟩) 1 1, .int .i64 0, .int .i64 0, .slice (some ⟨w.heap.size + 1, 0, none⟩) 1 1] 50 (0, 0)) := by
    rw [← s2]
    exact heap_alloc_new _ _
  have hbl : Below w.heap.size w (((w.alloc (.cells #[.int .i64 (-1)] 3)).alloc (.cells #[.int .i64 (-3)] 3)).alloc (.cells #[.int .i64 0, .int .i64 0, .slice none 0 0, .int .i64 0, .int .i64 0, .slice (some ⟨w.heap.size, 0, none⟩) 1 1, .int .i64 0, .int .i64 0, .slice (some ⟨w.heap.size + 1, 0, none⟩) 1 1] 50)) := (((Below.refl _ _).alloc (Nat.le_refl _) _).alloc (by rw [s1]; omega) _).alloc (by rw [s2]; omega) _
  obtain ⟨W, hW⟩ : ∃ W, (((w.alloc (.cells #[.int .i64 (-1)] 3)).alloc (.cells #[.int .i64 (-3)] 3)).alloc (.cells #[.int .i64 0, .int .i64 0, .slice none 0 0, .int .i64 0, .int .i64 0, .slice (some ⟨w.heap.size, 0, none⟩) 1 1, .int .i64 0, .int .i64 0, .slice (some ⟨w.heap.size + 1, 0, none⟩) 1 1] 50)) = W := ⟨_, rfl⟩
  rw [hW] at h0 h1 h2 hbl ⊢
  clear hW s1 s2
  have cells : ∀ j v, #[.int .i64 0, .int .i64 0, .slice none 0 0, .int .i64 0, .int .i64 0, .slice (some ⟨w.heap.size, 0, none⟩) 1 1, .int .i64 0, .int .i64 0, .slice (some ⟨w.heap.size + 1, 0, none⟩) 1 1][j]? = some v → W.cell? ⟨w.heap.size + 2, j, none⟩ = some v := fun j v hj => by unfold World.cell?; rw [h2]; exact hj
  have lb := lt_of_block h2
  have IZ : InI 0 := inI_of (by decide) (by decide)
  have raw : RawT W (some ⟨w.heap.size + 2, 0, none⟩) 3 3 (liveT (some ⟨w.heap.size, 0, none⟩) (some ⟨w.heap.size + 1, 0, none⟩)) := by
    refine ⟨Nat.le_refl _, by decide, fun i hi => ?_, fun i hi => ?_⟩
    · match i, hi with
      | 0, _ => exact ⟨_, 0, rfl, lb, cells 0 _ rfl, cells 1 _ rfl, cells 2 _ rfl⟩
      | 1, _ => exact ⟨_, 0, rfl, lb, cells 3 _ rfl, cells 4 _ rfl, cells 5 _ rfl⟩
      | 2, _ => exact ⟨_, 0, rfl, lb, cells 6 _ rfl, cells 7 _ rfl, cells 8 _ rfl⟩
    · match i, hi with
      | 0, _ => exact ⟨IZ, IZ, rfl, Nat.le_refl _, (show 0 ≤ maxLen by decide), fun k hk => absurd hk (by simp [liveT]), fun x hx => absurd hx (by simp [liveT])⟩
      | 1, _ => exact ⟨IZ, IZ, rfl, Nat.le_refl _, (show 1 ≤ maxLen by decide), fun k hk => ⟨_, 0, rfl, lt_of_block h0, by
          obtain rfl : k = 0 := by have : k < 1 := hk; omega
          unfold World.cell?; rw [h0]; rfl⟩, fun x hx => by rw [List.mem_singleton.1 hx]; exact inI_of (by decide) (by decide)⟩
      | 2, _ => exact ⟨IZ, IZ, rfl, Nat.le_refl _, (show 1 ≤ maxLen by decide), fun k hk => ⟨_, 0, rfl, lt_of_block h1, by
          obtain rfl : k = 0 := by have : k < 1 := hk; omega
          unfold World.cell?; rw [h1]; rfl⟩, fun x hx => by rw [List.mem_singleton.1 hx]; exact inI_of (by decide) (by decide)⟩
  refine (things_any raw).mono ?_
  rintro e w' ⟨s, r, rfl, hg⟩
  rw [live_made] at hg
  obtain ⟨bw, bm, R, ⟨lv, fv, P, Q, _, h4⟩, hb, q⟩ := hg
  refine ⟨s, r, rfl, bw, bm, P, fun k hk => ?_, hbl.trans (hb.mono hbl.size)⟩
  rcases Nat.lt_or_ge k w.heap.size with z | z
  · exact absurd hk (h4 k (Nat.lt_of_lt_of_le z hbl.size)).1
  · exact z
theorem collect_lit {w : World} {s bw bm : Nat} {m : Hp} (h : PM w s bw bm m) (x : Int) (hx : InI x) : Calls Try.prog 10 #[.pointer (some ⟨s, 0, none⟩), .slice (some ⟨w.heap.size, 0, none⟩) 1 1] (w.alloc (.cells #[.int .i64 x] 3)) (CollPost w s bw bm (collectV m [x])) := by
  have hb : Below w.heap.size w (w.alloc (.cells #[.int .i64 x] 3)) := (Below.refl _ _).alloc (Nat.le_refl _) _
  refine (collect_any (c := 1) (h.below hb) (nums_lit w x) rfl (fun z hz => by rw [List.mem_singleton.1 hz]; exact hx) (show 1 ≤ 1000000 by decide) (fun b off e => ?_)).mono ?_
  · cases e
    have h1 := h.lt s (.inl rfl)
    have h2 := h.lt bw (.inr (.inl rfl))
    omega
  · rintro e w' ⟨v, e1, hi, bm', hP, hbm, ht⟩
    exact ⟨v, e1, ownsRow_mono hi hb.size, bm', hP, hbm.imp id (fun q => Nat.le_trans hb.size q), (Turns.of_below hb).trans ht⟩
set_option maxRecDepth 100000 in
set_option maxHeartbeats 16000000 in
theorem reached_nil (w : World) : Calls Try.prog 14 #[.pointer none, .slice none 0 0] w fun e w' => e = .returned (.tuple #[.slice none 0 0, .int .i64 1]) ∧ Below w.heap.size w w' := by
  go_enter Try.func14, Try.ntmps14
  go_wp2_with fail
  go_step3
  go_wp2_with fail
  rw [Exit.noGoto_ret]
  go_returns
  exact ⟨rfl, (Below.refl _ _).alloc (Nat.le_refl _) _⟩
theorem live_pl : (ptrs live1.L).length = 2 := by rfl
set_option maxRecDepth 100000 in
set_option maxHeartbeats 16000000 in
theorem lives_any (w : World) : Calls Try.prog 13 #[] w fun e w' => e = .returned (.bool true) ∧ Below w.heap.size w w' := by
  go_enter Try.func13, Try.ntmps13
  go_wp2_with (first | (go_at_call 9; (with_reducible refine (live_things w).mono ?_); rintro e w1 ⟨s, r, rfl, bw, bm, hP, hps, hb⟩; have HP := Lib.hid hP; have HPS := Lib.hid hps; have HB := Lib.hid hb; clear hP hps hb) | (go_at_call 10; (with_reducible refine (collect_lit HP.out 12 (inI_of (by decide) (by decide))).mono ?_); rw [live_c1]; rintro e w2 ⟨v1, rfl, hi, bm2, hp, hbm, ht⟩; obtain ⟨A1, c1, rfl, _, _⟩ := hi.nums; obtain ⟨g1, rfl, hgb, hgc, _⟩ := Ints.at_ hi rfl (show 0 < 1 by decide); have b1 : w2.cell? ⟨g1, 0, none⟩ = some (.int .i64 12) := hgc; have HG1 : Hid (s < g1 ∧ bw < g1) := Lib.hid ⟨Nat.lt_of_lt_of_le (HP.out.lt s (.inl rfl)) hgb, Nat.lt_of_lt_of_le (HP.out.lt bw (.inr (.inl rfl))) hgb⟩; have HPS2 : Hid (∀ k, pset s bw bm2 k → w.heap.size ≤ k) := Lib.hid (fun k hk => (by rcases hk with z | z | z; exact HPS.out k (.inl z); exact HPS.out k (.inr (.inl z)); rcases hbm with q | q; exact HPS.out k (.inr (.inr (z.trans q))); have := HB.out.size; omega)); have HB2 : Hid (Below w.heap.size w w2) := Lib.hid (HB.out.trans (ht.below (fun k hk => HPS.out k (hk.imp id .inl)) HB.out.size)); clear HPS HB; have HPS := HPS2; have HB := HB2; clear HPS2 HB2; replace HP := Lib.hid hp; clear hi hp ht hgb hgc hbm) | (go_at_call 24; (with_reducible refine (get_any HP.out 12 0 (inI_of (by decide) (by decide))).mono ?_); rw [live_g]; rintro e w2 ⟨rfl, n2, hw2⟩; have b1 : w2.cell? ⟨g1, 0, none⟩ = some (.int .i64 12) := (by rw [hw2]; exact b1); replace HB := Lib.hid (below_drewN HB.out n2); replace HP := Lib.hid (HP.out.drewN n2); rw [← hw2] at HP HB; clear hw2) | (go_at_call 10; (with_reducible refine (collect_lit HP.out 8 (inI_of (by decide) (by decide))).mono ?_); rw [live_c2]; rintro e w2 ⟨v2, rfl, hi, bm2, hp, hbm, ht⟩; have b1 := (ht.cell b1 (fun q => (by have := HG1.out; rcases q with q | q; have q' : g1 = s := q; omega; have q' : g1 = bw := q; omega))); have HPS2 : Hid (∀ k, pset s bw bm2 k → w.heap.size ≤ k) := Lib.hid (fun k hk => (by rcases hk with z | z | z; exact HPS.out k (.inl z); exact HPS.out k (.inr (.inl z)); rcases hbm with q | q; exact HPS.out k (.inr (.inr (z.trans q))); have := HB.out.size; omega)); have HB2 : Hid (Below w.heap.size w w2) := Lib.hid (HB.out.trans (ht.below (fun k hk => HPS.out k (hk.imp id .inl)) HB.out.size)); clear HPS HB; have HPS := HPS2; have HB := HB2; clear HPS2 HB2; replace HP := Lib.hid hp; clear hi hp ht hbm) | (go_at_call 14; (with_reducible refine (reached_nil _).mono ?_); rintro e w2 ⟨rfl, hb⟩; have b1 := (hb.cell (cell_lt b1)).trans b1; replace HB := Lib.hid (HB.out.trans (hb.mono HB.out.size)); replace HP := Lib.hid (HP.out.below hb); clear hb) | (go_at_call 16; (with_reducible refine (objects_any HP.out).mono ?_); rintro e w2 ⟨v3, rfl, hi, hb⟩; obtain ⟨A3, c3, hv3, _, _⟩ := hi.nums; rw [live_pl] at hv3; subst hv3; have b1 := (hb.cell (cell_lt b1)).trans b1; replace HB := Lib.hid (HB.out.trans (hb.mono HB.out.size)); clear hi hb))
  go_ret
  exact ⟨rfl, HB.out⟩
end Go.Proofs.Ythjjanjmiinpbaa
/- Chapter 03: steps of the laws on both memories. -/
namespace Go.Proofs.Ythjjanjmiinpbaa
open Go.ChangeShapes Go.WideShapes Go.ChangeAt Go.RowKit Go.Deep Go.Joins Go.Maps
set_option linter.unusedVariables false
set_option linter.unusedSimpArgs false
/-- a list that is handed in: off the blocks of T -/
structure Off (w : World) (T : Nat → Prop) (A : Option Addr) (n c : Nat) (l : List Int) : Prop where
  len : l.length = n
  le : n ≤ c
  cap : c ≤ maxLen
  nums : Nums w A l
  int : ∀ x, x ∈ l → InI x
  off : ∀ b off, A = some ⟨b, off, none⟩ → ¬ T b
  form : A = none → c = 0
theorem Off.below {w w' : World} {T : Nat → Prop} {A : Option Addr} {n c : Nat} {l : List Int} (h : Off w T A n c l) (hb : Below w.heap.size w w') : Off w' T A n c l := ⟨h.len, h.le, h.cap, h.nums.below hb, h.int, h.off, h.form⟩
theorem Off.turns {w w' : World} {T : Nat → Prop} {A : Option Addr} {n c : Nat} {l : List Int} (h : Off w T A n c l) (ht : Turns T w w') : Off w' T A n c l := ⟨h.len, h.le, h.cap, h.nums.turns ht h.off, h.int, h.off, h.form⟩
theorem Off.mono {w : World} {T T' : Nat → Prop} {A : Option Addr} {n c : Nat} {l : List Int} (h : Off w T A n c l) (hT : ∀ k, T' k → T k) : Off w T' A n c l := ⟨h.len, h.le, h.cap, h.nums, h.int, fun b off e q => h.off b off e (hT b q), h.form⟩
/-- a list that lies off both memories -/
abbrev Lst (w : World) (X : Nat → Prop) (A : Option Addr) (n c : Nat) (l : List Int) : Prop := Off w (fun k => ¬ X k) A n c l
theorem Lst.keeps {w w' : World} {X : Nat → Prop} {A : Option Addr} {n c : Nat} {l : List Int} (h : Lst w X A n c l) (ht : Keeps X w w') : Lst w' X A n c l := Off.turns h ht
theorem Lst.grow {w : World} {X X' : Nat → Prop} {A : Option Addr} {n c : Nat} {l : List Int} (h : Lst w X A n c l) (hX : ∀ k, X k → X' k) : Lst w X' A n c l := Off.mono h (fun k q z => q (hX k z))
theorem same_lst {w : World} {X Y : Nat → Prop} {A B : Option Addr} {n c d : Nat} {l : List Int} (hA : Lst w X A n c l) (hB : Lst w Y B n d l) : Calls Try.prog 15 #[.slice A n c, .slice B n d] w fun e w' => e = .returned (.bool true) ∧ Below w.heap.size w w' := by
  have e := hA.len
  subst e
  exact same_any hA.nums hB.nums (Nat.le_trans hA.le hA.cap)
theorem sameM {w : World} {X : Nat → Prop} {A B : Option Addr} {n c d : Nat} {l : List Int} (hA : Lst w X A n c l) (hB : Nums w B l) : Calls Try.prog 15 #[.slice A n c, .slice B n d] w fun e w' => e = .returned (.bool true) ∧ Below w.heap.size w w' := by
  have e := hA.len
  subst e
  exact same_any hA.nums hB (Nat.le_trans hA.le hA.cap)
theorem ptrs_len {m : Hp} (h : Good m) : (ptrs m.L).length ≤ 131072 := by
  have := len_bd h
  unfold ptrs
  rw [List.length_map, List.length_range]
  exact this
theorem ints_form {w : World} {base n c : Nat} {A : Option Addr} {l : List Int} (h : Ints w base (.slice A n c) l) : A = none → c = 0 := fun hA => by
  subst hA
  rcases h.2 with ⟨hv, _⟩ | ⟨g, cap, cur, hv, _⟩
  · exact (Value.slice.inj hv).2.2
  · exact absurd (Value.slice.inj hv).1 (by simp)
section
variable {X Y : Nat → Prop} {w0 wc w' : World} {s r : Nat} {m mp mr : Hp}
/-- new blocks join what is kept -/
def moreX (X : Nat → Prop) (a b : Nat) : Nat → Prop := fun k => X k ∨ (a ≤ k ∧ k < b)
theorem LG.goodr (h : LG X w0 wc s r mp mr) : Good mr := by obtain ⟨_, _, _, ⟨_, _, _, Q, _⟩, _⟩ := h; exact Q.good
theorem LG.grow (h : LG X w0 wc s r mp mr) (hb : Below wc.heap.size wc w') : LG (moreX X wc.heap.size w'.heap.size) w0 w' s r mp mr := by
  have h' := h
  obtain ⟨_, _, _, _, _, q⟩ := h'
  exact h.more hb (fun k z => z) (fun k z => .inl (q k z))
theorem ints_lst {v : Value} {l : List Int} {b0 : Nat} (hv : Ints w' b0 v l) (hI : ∀ x, x ∈ l → InI x) : ∃ A c, v = .slice A l.length c ∧ Lst w' (moreX X b0 w'.heap.size) A l.length c l := by
  obtain ⟨A, c, rfl, hc, hn, hl, hm, hob⟩ := hv.nums
  refine ⟨A, c, rfl, rfl, hc, hm, hn, hI, fun b off e q => q (.inr ⟨(hl b off e).1, (World.ownsRow.lt hv b ?_).2⟩), ints_form hv⟩
  rw [hob, e]; rfl
theorem g_robjects (h : LG X w0 wc s r mp mr) {n : Nat} (hn : (ptrs mr.L).length = n) : Calls Try.prog 12 #[.pointer (some ⟨r, 0, none⟩)] wc fun e w' => ∃ A c X', (∀ k, X k → X' k) ∧ e = .returned (.slice A n c) ∧ Lst w' X' A n c (ptrs mr.L) ∧ LG X' w0 w' s r mp mr ∧ Below wc.heap.size wc w' := by
  obtain ⟨bw, bm, R, ⟨lv, fv, P, Q, _⟩, _⟩ := id h
  refine (robjects_any Q).mono ?_
  rintro e w' ⟨v, rfl, hv, hb⟩
  obtain ⟨A, c, rfl, hL⟩ := ints_lst (X := X) hv (ptrs_in Q.good)
  rw [hn] at hL ⊢
  exact ⟨A, c, _, fun k z => .inl z, rfl, hL, h.grow hb, hb⟩
theorem g_pobjects (h : LG X w0 wc s r mp mr) {n : Nat} (hn : (ptrs mp.L).length = n) : Calls Try.prog 16 #[.pointer (some ⟨s, 0, none⟩)] wc fun e w' => ∃ A c X', (∀ k, X k → X' k) ∧ e = .returned (.slice A n c) ∧ Lst w' X' A n c (ptrs mp.L) ∧ LG X' w0 w' s r mp mr ∧ Below wc.heap.size wc w' := by
  obtain ⟨bw, bm, R, ⟨lv, fv, P, Q, _⟩, _⟩ := id h
  refine (objects_any P).mono ?_
  rintro e w' ⟨v, rfl, hv, hb⟩
  obtain ⟨A, c, rfl, hL⟩ := ints_lst (X := X) hv (ptrs_in P.good)
  rw [hn] at hL ⊢
  exact ⟨A, c, _, fun k z => .inl z, rfl, hL, h.grow hb, hb⟩
theorem g_roots (h : LG X w0 wc s r mp mr) {A B : Option Addr} {o js : List Int} {pn n c d nn : Nat} (hO : Lst wc X A pn c o) (hob : pn ≤ 1000000) (hj : RawN w0 B n d js) (hnn : (allV o js).length = nn) :
    Calls Try.prog 11 #[.slice A pn c, .slice B n d] wc fun e w' => ∃ C k X', (∀ k, X k → X' k) ∧ e = .returned (.slice C nn k) ∧ Lst w' X' C nn k (allV o js) ∧ LG X' w0 w' s r mp mr ∧ Below wc.heap.size wc w' := by
  have e1 := hO.len
  have e2 := hj.len
  have hj' := hj.below h.stays
  subst e1
  subst e2
  refine (all_any hO.nums hj'.nums hob (Nat.le_trans hj.le hj.cap) hj.int).mono ?_
  rintro e w' ⟨v, rfl, hnil, hv, hb⟩
  obtain ⟨C, k, rfl, hL⟩ := ints_lst (X := X) hv (allV_in hO.int hj.int)
  rw [hnn] at hL ⊢
  exact ⟨C, k, _, fun k z => .inl z, rfl, hL, h.grow hb, hb⟩
theorem reachedV_in {m : Hp} (h : Good m) (rs : List Int) : ∀ x, x ∈ (reachedV m rs).1 → InI x := fun x hx => by
  unfold reachedV at hx
  split at hx
  · exact reach_InI h x hx
  · cases hx
theorem reachedV_len {m : Hp} (h : Good m) (rs : List Int) : (reachedV m rs).1.length ≤ 131072 := by
  unfold reachedV
  split
  · exact reach_len h rs
  · exact Nat.zero_le _
theorem collectV_in {m : Hp} (h : Good m) {rs : List Int} (hr : ∀ x, x ∈ rs → InI x) : ∀ x, x ∈ (collectV m rs).2.1 → InI x := fun x hx => by
  unfold collectV at hx
  split at hx
  · split at hx
    · obtain ⟨y, hy, rfl⟩ := List.mem_map.1 hx
      unfold colW
      split
      · exact toV_InI h _ _
      · exact hr y hy
    · cases hx
  · cases hx
theorem coll_len (m : Hp) (rs : List Int) : (collectV m rs).2.1.length ≤ rs.length := by
  unfold collectV
  split
  · split
    · rw [List.length_map]; exact Nat.le_refl _
    · exact Nat.zero_le _
  · exact Nat.zero_le _
theorem g_room (h : LG X w0 wc s r mp mr) : Calls Try.prog 17 #[.pointer (some ⟨s, 0, none⟩)] wc fun e w' => e = .returned (.int .i64 ((mp.size : Int) - (adr mp.L mp.L.length : Int))) ∧ LG X w0 w' s r mp mr ∧ Below wc.heap.size wc w' := by
  obtain ⟨bw, bm, R, ⟨lv, fv, P, Q, _⟩, _⟩ := id h
  refine (room_any P).mono ?_
  rintro e w' ⟨rfl, n, rfl⟩
  exact ⟨rfl, h.drewN n, below_drewN (Below.refl _ _) n⟩
/-- what is told, as a list of the call's own -/
theorem g_reached0 (h : LG X w0 wc s r mp mr) {A : Option Addr} {rs : List Int} {nr ce nn : Nat} (hR : Lst wc X A nr ce rs) (br : nr ≤ 1000000) (hnn : (reachedV mp rs).1.length = nn) :
    Calls Try.prog 14 #[.pointer (some ⟨s, 0, none⟩), .slice A nr ce] wc fun e w' => ∃ C k, e = .returned (.tuple #[.slice C nn k, .int .i64 (reachedV mp rs).2]) ∧ Ints w' wc.heap.size (.slice C nn k) (reachedV mp rs).1 ∧ Below wc.heap.size wc w' := by
  obtain ⟨bw, bm, R, ⟨lv, fv, P, Q, _⟩, _⟩ := id h
  refine (reached_any P hR.nums hR.len hR.int br).mono ?_
  rintro e w' ⟨v, rfl, hi, hb⟩
  obtain ⟨C, k, hv, -⟩ := hi.nums
  rw [hnn] at hv
  subst hv
  exact ⟨C, k, rfl, hi, hb⟩
theorem Ints.set {w : World} {base g n c : Nat} {l : List Int} (h : Ints w base (.slice (some ⟨g, 0, none⟩) n c) l) (hn : l.length = n) {j : Nat} (hj : j < n) (x : Int) : Ints (w.setCell ⟨g, j, none⟩ (.int .i64 x)) base (.slice (some ⟨g, 0, none⟩) n c) (l.set j x) := by
  refine ⟨by simp, ?_⟩
  rcases h.2 with ⟨hv, h0⟩ | ⟨g', cap, cur, hv, hg, hh, h1, h2, h3, h4⟩
  · cases hv
  · cases hv
    refine .inr ⟨g, c, cur.setIfInBounds j (.int .i64 x), by rw [List.length_set, hn], hg, heap_setCell_same w g j cur _ _ hh, by rw [List.length_set]; exact h1, h2, by rw [Array.size_setIfInBounds]; exact h3, ?_⟩
    rw [List.length_set, Array.toList_setIfInBounds, List.take_set, h4, List.map_set]
theorem g_reached (h : LG X w0 wc s r mp mr) {A : Option Addr} {rs : List Int} {nr ce nn : Nat} (hR : Lst wc X A nr ce rs) (br : nr ≤ 1000000) (hnn : (reachedV mp rs).1.length = nn) :
    Calls Try.prog 14 #[.pointer (some ⟨s, 0, none⟩), .slice A nr ce] wc fun e w' => ∃ C k X', (∀ k, X k → X' k) ∧ e = .returned (.tuple #[.slice C nn k, .int .i64 (reachedV mp rs).2]) ∧ Lst w' X' C nn k (reachedV mp rs).1 ∧ LG X' w0 w' s r mp mr ∧ Below wc.heap.size wc w' := by
  obtain ⟨bw, bm, R, ⟨lv, fv, P, Q, _⟩, _⟩ := id h
  refine (reached_any P hR.nums hR.len hR.int br).mono ?_
  rintro e w' ⟨v, rfl, hi, hb⟩
  obtain ⟨C, k, rfl, hL⟩ := ints_lst (X := X) hi (reachedV_in P.good rs)
  rw [hnn] at hL ⊢
  exact ⟨C, k, _, fun k z => .inl z, rfl, hL, h.grow hb, hb⟩
theorem gr_reached (h : LG X w0 wc s r mp mr) {A : Option Addr} {rs : List Int} {nr ce nn : Nat} (hR : Lst wc X A nr ce rs) (br : nr ≤ 1000000) (hnn : (reachedV mr rs).1.length = nn) :
    Calls Try.prog 18 #[.pointer (some ⟨r, 0, none⟩), .slice A nr ce] wc fun e w' => ∃ C k X', (∀ k, X k → X' k) ∧ e = .returned (.tuple #[.slice C nn k, .int .i64 (reachedV mr rs).2]) ∧ Lst w' X' C nn k (reachedV mr rs).1 ∧ LG X' w0 w' s r mp mr ∧ Below wc.heap.size wc w' := by
  obtain ⟨bw, bm, R, ⟨lv, fv, P, Q, _⟩, _⟩ := id h
  refine (rreached_any Q hR.nums hR.len br).mono ?_
  rintro e w' ⟨v, rfl, hi, hb⟩
  obtain ⟨C, k, rfl, hL⟩ := ints_lst (X := X) hi (reachedV_in Q.good rs)
  rw [hnn] at hL ⊢
  exact ⟨C, k, _, fun k z => .inl z, rfl, hL, h.grow hb, hb⟩
theorem g_collect (h : LG X w0 wc s r mp mr) {A : Option Addr} {rs : List Int} {nr ce nn : Nat} (hR : Lst wc X A nr ce rs) (br : nr ≤ 1000000) (hnn : (collectV mp rs).2.1.length = nn) :
    Calls Try.prog 10 #[.pointer (some ⟨s, 0, none⟩), .slice A nr ce] wc fun e w' => ∃ C k X', (∀ k, X k → X' k) ∧ e = .returned (.tuple #[.slice C nn k, .int .i64 (collectV mp rs).2.2]) ∧ Lst w' X' C nn k (collectV mp rs).2.1 ∧ LG X' w0 w' s r (collectV mp rs).1 mr ∧ Keeps X wc w' := by
  obtain ⟨bw, bm, R, D, hb, q⟩ := h
  obtain ⟨lv, fv, P, Q, h1, h2⟩ := id D
  have hoff : ∀ b off, A = some ⟨b, off, none⟩ → b ≠ s ∧ b ≠ bw := fun b off e => by
    have hx : X b := Classical.byContradiction (fun z => hR.off b off e z)
    have hp := (h2 b hx).1
    exact ⟨fun z => hp (.inl z), fun z => hp (.inr (.inl z))⟩
  refine (collect_any P hR.nums hR.len hR.int br hoff).mono ?_
  rintro e w' ⟨v, rfl, hi, bm', hP, hbm, ht⟩
  obtain ⟨D', K'⟩ := D.goK hP hbm ht
  have D2 := D'.answer hi (fun k hk => Q.lt k hk) ⟨P.lt s (.inl rfl), P.lt bw (.inr (.inl rfl))⟩
  have hf : ∀ {C : Option Addr} {k : Nat}, v = .slice C (collectV mp rs).2.1.length k → C = none → k = 0 := fun e => by subst e; exact ints_form hi
  obtain ⟨C, k, hv, hc, hn, hl, hm, hob⟩ := hi.nums
  have hf' := hf hv
  rw [hnn] at hv hc
  subst hv
  exact ⟨C, k, _, fun j z => .inl z, rfl, ⟨hnn, hc, hm, hn, collectV_in P.good hR.int, fun b off e z => z (.inr (by rw [hob, e]; rfl)), hf'⟩, ⟨bw, bm', R, D2, hb.trans (K'.below (fun k hk => q k hk) hb.size), fun j z => .inl (q j z)⟩, K'⟩
theorem gr_collect (h : LG X w0 wc s r mp mr) {A : Option Addr} {rs : List Int} {nr ce nn : Nat} (hR : Lst wc X A nr ce rs) (br : nr ≤ 1000000) (hnn : (collectV mr rs).2.1.length = nn) :
    Calls Try.prog 26 #[.pointer (some ⟨r, 0, none⟩), .slice A nr ce] wc fun e w' => ∃ C k, e = .returned (.tuple #[.slice C nn k, .int .i64 (collectV mr rs).2.2]) ∧ Nums w' C (collectV mr rs).2.1 ∧ LG X w0 w' s r mp (collectV mr rs).1 ∧ Keeps X wc w' := by
  obtain ⟨bw, bm, R, D, hb, q⟩ := h
  obtain ⟨lv, fv, P, Q, h1, h2⟩ := id D
  have hoff : ∀ b off, A = some ⟨b, off, none⟩ → ¬ R b := fun b off e => by
    have hx : X b := Classical.byContradiction (fun z => hR.off b off e z)
    exact (h2 b hx).2.1
  refine (rcollect_any Q hR.nums hR.len br hoff).mono ?_
  rintro e w' ⟨v, rfl, hi, hQ⟩
  obtain ⟨R', D', K'⟩ := D.goR hQ
  obtain ⟨C, k, rfl, hc, hn, hl, hm, hob⟩ := hi.nums
  rw [hnn]
  exact ⟨C, k, rfl, hn, ⟨bw, bm, R', D', hb.trans (K'.below (fun k hk => q k hk) hb.size), q⟩, K'⟩
end
end Go.Proofs.Ythjjanjmiinpbaa
