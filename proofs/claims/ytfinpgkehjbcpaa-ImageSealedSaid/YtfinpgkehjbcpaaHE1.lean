/- Chapter 02: contracts of pointers, each, Objects. -/
import Derived.Test.YtfinpgkehjbcpaaHPart
import Derived.Test.YtfinpgkehjbcpaaHM0
import Derived.Test.YtfinpgkehjbcpaaRR1
import Derived.Deep.AppendLies
namespace Go.Proofs.Ytfinpgkehjbcpaa
open Go.ChangeShapes Go.WideShapes Go.ChangeAt Go.RowKit Go.Deep Go.Joins Go.Maps
set_option linter.unusedVariables false
set_option linter.unusedSimpArgs false

set_option maxRecDepth 100000 in
set_option maxHeartbeats 8000000 in
theorem each_objects {w : World} {s bw sz n : Nat} {c0 : Value} {A NF : Nat → Nat} (P : Nat → World → Prop) (h0 : P 0 w) (hA0 : A 0 = 3) (hA : ∀ k, k < n → A (k + 1) = A k + (NF k + 3)) (hmono : ∀ k, k < n → A k < A n) (hsz : A n ≤ sz ∧ sz ≤ 131072)
    (hend : ∀ k w', k ≤ n → P k w' → w'.cell? ⟨s, 1, none⟩ = some (.int .i64 (A n : Int)))
    (hwords : ∀ k w', k < n → P k w' → w'.cell? ⟨s, 0, none⟩ = some (.slice (some ⟨bw, 0, none⟩) sz sz) ∧ ∃ x : Int, w'.cell? ⟨bw, A k, none⟩ = some (.int .i64 x) ∧ x / 4 = (NF k : Int))
    (hcall : ∀ k w', k < n → P k w' → Calls Try.prog 72 #[.int .i64 (A k : Int), c0] w' fun e w'' => e = .returned (.tuple #[]) ∧ P (k + 1) w'') :
    Calls Try.prog 71 #[.pointer (some ⟨s, 0, none⟩), .func (.func 72) #[] #[c0]] w fun e w' => e = .returned (.tuple #[]) ∧ P n w' := by
  have H0 := Lib.hid h0
  have HA := Lib.hid hA
  have HMO := Lib.hid hmono
  have HEND := Lib.hid hend
  have HW := Lib.hid hwords
  have HC := Lib.hid hcall
  have HA0 := Lib.hid hA0
  obtain ⟨hs1, hs2⟩ := hsz
  obtain ⟨an, han⟩ : ∃ an, A n = an := ⟨_, rfl⟩
  have HAN := Lib.hid han
  rw [han] at hs1
  clear h0 hA hmono hend hwords hcall hA0 han
  go_enter Try.func71, Try.ntmps71
  go_wp2_with fail
  go_loopw [4] (fun a wr => ∃ k : Nat, k ≤ n ∧ a = .int .i64 (A k : Int) ∧ P k wr) (fun a _ => an - (intOf a).toNat)
  case atStart => exact ⟨0, Nat.zero_le _, by rw [HA0.out]; rfl, H0.out⟩
  case round =>
    obtain ⟨k, hk, rfl, hp⟩ := hrel
    have HP := Lib.hid hp
    clear hp
    have hce := HEND.out k wr hk HP.out
    rw [HAN.out] at hce
    by_cases hlt : k < n
    · have hm := HMO.out k hlt
      rw [HAN.out] at hm
      obtain ⟨hcw, x, hcx, hx4⟩ := HW.out k wr hlt HP.out
      have hs := HA.out k hlt
      have hcl := HC.out k wr hlt HP.out
      obtain ⟨a, ha⟩ : ∃ a, A k = a := ⟨_, rfl⟩
      obtain ⟨nf, hnf⟩ : ∃ nf, NF k = nf := ⟨_, rfl⟩
      have hle : A (k + 1) ≤ an := by
        rcases Nat.lt_or_ge (k + 1) n with q | q
        · have := HMO.out (k + 1) q; rw [HAN.out] at this; omega
        · obtain rfl : k + 1 = n := by omega
          rw [HAN.out]; exact Nat.le_refl _
      rw [ha] at hm hcx hs hcl ⊢
      rw [hnf] at hx4 hs
      have HS : Hid (A (k + 1) = a + (nf + 3)) := hs
      rw [hs] at hle
      have d1 : decide (a < an) = true := decide_eq_true hm
      have g0 : (0 : Int) ≤ (a : Int) := by omega
      have g1 : (a : Int) < (sz : Int) := by omega
      have HCL := Lib.hid hcl
      clear hcl hs ha hnf
      go_wp2_with (go_at_call 72; (with_reducible refine HCL.out.mono ?_); rintro e w1 ⟨rfl, hp1⟩; have HP1 := Lib.hid hp1; clear hp1)
      go_roundw
      case rel => exact ⟨k + 1, hlt, by rw [HS.out]; exact congrArg (Value.int .i64) (by omega), HP1.out⟩
      case measure => simp [intOf]; omega
    · obtain rfl : k = n := by omega
      rw [HAN.out]
      have d1 : decide (an < an) = false := decide_eq_false (by omega)
      go_wp2_with fail
      go_end0
      exact ⟨rfl, HP.out⟩
end Go.Proofs.Ytfinpgkehjbcpaa
/- Chapter 02: contracts of Objects, and of the looks for odd ones. -/
namespace Go.Proofs.Ytfinpgkehjbcpaa
open Go.ChangeShapes Go.WideShapes Go.ChangeAt Go.RowKit Go.Deep Go.Joins Go.Maps
set_option linter.unusedVariables false
set_option linter.unusedSimpArgs false

/-- a slice that reads as a list of ints -/
def Nums (w : World) (A : Option Addr) (l : List Int) : Prop := ∀ k (hk : k < l.length), ∃ b off, A = some ⟨b, off, none⟩ ∧ b < w.heap.size ∧ w.cell? ⟨b, off + k, none⟩ = some (.int .i64 l[k])
theorem Nums.same {w w' : World} {A : Option Addr} {l : List Int} (h : Nums w A l) (hs : w.heap.size ≤ w'.heap.size) (hb : ∀ b off, A = some ⟨b, off, none⟩ → w'.heap[b]? = w.heap[b]?) : Nums w' A l := fun k hk => by
  obtain ⟨b, off, e, hlt, hc⟩ := h k hk
  refine ⟨b, off, e, Nat.lt_of_lt_of_le hlt hs, ?_⟩
  have := hb b off e
  unfold World.cell? at hc ⊢
  rw [this]; exact hc
theorem Nums.drewN {w : World} {A : Option Addr} {l : List Int} (h : Nums w A l) (n : Nat) : Nums (w.drewN n) A l := h.same (Nat.le_refl _) (fun _ _ _ => rfl)
theorem Nums.below {w w' : World} {A : Option Addr} {l : List Int} (h : Nums w A l) (hb : Below w.heap.size w w') : Nums w' A l := fun k hk => by
  obtain ⟨b, off, e, hlt, hc⟩ := h k hk
  exact ⟨b, off, e, Nat.lt_of_lt_of_le hlt hb.size, (hb.cell (p := ⟨b, off + k, none⟩) hlt).trans hc⟩
theorem Nums.turns {w w' : World} {A : Option Addr} {l : List Int} {T : Nat → Prop} (h : Nums w A l) (ht : Turns T w w') (hd : ∀ b off, A = some ⟨b, off, none⟩ → ¬ T b) : Nums w' A l := fun k hk => by
  obtain ⟨b, off, e, hlt, hc⟩ := h k hk
  refine ⟨b, off, e, Nat.lt_of_lt_of_le hlt ht.size, ?_⟩
  have := ht.block b hlt (hd b off e)
  unfold World.cell? at hc ⊢
  rw [this]; exact hc
theorem Ints.nums {w : World} {base : Nat} {v : Value} {l : List Int} (h : Ints w base v l) : ∃ A c, v = .slice A l.length c ∧ l.length ≤ c ∧ Nums w A l ∧ (∀ b off, A = some ⟨b, off, none⟩ → base ≤ b ∧ off = 0) ∧ c ≤ maxLen ∧ v.ownBlock = A.map (·.block) := by
  rcases h.2 with ⟨hv, h0⟩ | ⟨g, cap, cur, hv, hg, hh, h1, h2, h3⟩
  · exact ⟨none, 0, by rw [hv, h0], by omega, fun k hk => absurd hk (by omega), (fun b off e => by cases e), by decide, by rw [hv]; rfl⟩
  · refine ⟨some ⟨g, 0, none⟩, cap, hv, h1, fun k hk => ⟨g, 0, rfl, ?_, ?_⟩, (fun b off e => by cases e; exact ⟨hg, rfl⟩), h2, by rw [hv]; rfl⟩
    · exact lt_of_block hh
    · have hown := h
      unfold Ints at hown
      rw [hv] at hown
      rw [Nat.zero_add, World.ownsRow.cellAt hown k (by omega), List.getElem?_map, List.getElem?_eq_getElem hk]; rfl
theorem PM.below {w w' : World} {s bw bm : Nat} {m : Hp} (h : PM w s bw bm m) (hb : Below w.heap.size w w') : PM w' s bw bm m := h.turns (Turns.of_below (S := fun _ => False) hb) (fun _ _ q => q)
def nfA (L : List Ob) (k : Nat) : Nat := (L.getD k zeroO).F.length
theorem nfA_at {L : List Ob} {k : Nat} (hk : k < L.length) : nfA L k = L[k].F.length := by unfold nfA; simp [List.getD_eq_getElem?_getD, List.getElem?_eq_getElem hk]
theorem each_zero (L : List Ob) : adr L 0 = 3 := adr_zero L
theorem each_succ (L : List Ob) : ∀ k, k < L.length → adr L (k + 1) = adr L k + (nfA L k + 3) := fun k hk => by rw [adr_succ L k hk, nfA_at hk]
theorem each_mono (L : List Ob) : ∀ k, k < L.length → adr L k < adr L L.length := fun k hk => by have := adr_lt L L.length k hk (Nat.le_refl _); omega
theorem each_size {m : Hp} (h : Good m) : adr m.L m.L.length ≤ m.size ∧ m.size ≤ 131072 := ⟨adr_le h _, h.hi⟩
theorem each_head {w : World} {s bw bm : Nat} {m : Hp} (h : PM w s bw bm m) {k : Nat} (hk : k < m.L.length) : w.cell? ⟨s, 0, none⟩ = some (.slice (some ⟨bw, 0, none⟩) m.size m.size) ∧ ∃ x : Int, w.cell? ⟨bw, adr m.L k, none⟩ = some (.int .i64 x) ∧ x / 4 = (nfA m.L k : Int) := by
  refine ⟨h.c0, (encO m.L[k]).getD 0 0, (h.at_ hk (k := 0) (by omega)).1, ?_⟩
  have := h.good.fmt _ (List.getElem_mem hk)
  rw [nfA_at hk]
  show (4 * (m.L[k].F.length : Int) + m.L[k].fmt) / 4 = _
  omega

/-- behind k objects: the list so far, in the box -/
def ObjP (ob : Nat) (xs : List Int) (w w' : World) : Prop := ∃ v, w'.heap[ob]? = some (.cells #[v] 23 (0, 0)) ∧ Ints w' (ob + 1) v xs ∧ Below ob w w'
set_option maxRecDepth 100000 in
set_option maxHeartbeats 8000000 in
theorem obj1_any {w : World} {ob : Nat} {v : Value} {xs : List Int} (hbox : w.heap[ob]? = some (.cells #[v] 23 (0, 0))) (hown : Ints w (ob + 1) v xs) (a : Nat) (ha : 3 ≤ a) (ha2 : a ≤ 131072) (hxs : xs.length ≤ 200000) :
    Calls Try.prog 72 #[.int .i64 (a : Int), .pointer (some ⟨ob, 0, none⟩)] w fun e w' => e = .returned (.tuple #[]) ∧ ObjP ob (xs ++ [2 * (a : Int)]) w w' := by
  obtain ⟨i0, hi, hz0, hz1, hz2⟩ := info_parts infoI
  have HPV : Hid (pointerV (a : Int) = (2 * (a : Int), true)) := by show _ = _; unfold pointerV; rw [if_pos (by omega)]
  have hlt := lt_of_block hbox
  have hc : w.cell? ⟨ob, 0, none⟩ = some v := by simp [World.cell?, hbox]
  have hne : ∀ k, v.ownBlock = some k → k ≠ ob := fun k hk => by have := hown.lt k hk; omega
  have HBX : Hid ((w.alloc (.cells #[.int .i64 (2 * (a : Int))] 3)).heap[ob]? = some (.cells #[v] 23 (0, 0))) := by show _ = _; rw [Below.heap_alloc _ _ _ hlt]; exact hbox
  obtain ⟨nx, hnx⟩ : ∃ nx, xs.length = nx := ⟨_, rfl⟩
  have HOWN : Hid (w.ownsRow (ob + 1) 3 1 v nx (xs.map (Value.int .i64))) := by have := hown; unfold Ints at this; rw [hnx] at this; exact this
  have HNX := Lib.hid hnx
  have HNE := Lib.hid hne
  rw [hnx] at hxs
  clear hown hnx hne hbox
  go_enter Try.func72, Try.ntmps72
  go_wp2_with (first | (go_at_call 64; (with_reducible refine (pointer_any (a : Int) _).mono ?_); rw [HPV.out]; rintro e w8 ⟨rfl, hw8⟩; replace hw8 := hw8.symm; subst hw8) | (at_builtin; refine wpList_append_own _ rfl _ _ 23 rfl (ob + 1) 3 i0 (.int .i64 0) 1 8 Try.underlying23 hi hz0 hz1 hz2 rfl (by decide) _ _ _ rfl (HOWN.out.alloc _) ⟨w.heap.size, 0, none⟩ 1 1 [.int .i64 (2 * (a : Int))] rfl rfl (cells_newN _ _ _ _ (by simp)) (by simp [Value.oneCell']) (by unfold maxLen; omega) (by omega) (by simp only [World.size_alloc]; omega) ?_; intro v2 w2 hown3 hg2 _; obtain ⟨gq, cq, rfl, _, _⟩ := World.ownsRow.form hown3 (by omega); have hb2 := (hg2.block ob (by simp only [World.size_alloc]; omega) (fun q => HNE.out ob q.symm rfl)).trans HBX.out; have hc2 : w2.cell? ⟨ob, 0, none⟩ = some v := by { simp [World.cell?, hb2] }; have hf2 : w2.frozen? ⟨ob, 0, none⟩ = false := by { simp [World.frozen?, hb2] }; have HB2 := Lib.hid hb2; have HG2 := Lib.hid hg2; have HO3 := Lib.hid hown3; clear hb2 hg2 hown3))
  go_end0
  refine ⟨rfl, .slice (some ⟨gq, 0, none⟩) (nx + 1) cq, ?_, ?_, ?_⟩
  · rw [heap_setCell_same _ ob 0 _ _ _ HB2.out]; rfl
  · unfold Ints
    rw [List.length_append, List.map_append, HNX.out]
    exact ownsRow_setCell_below HO3.out (by show ob < ob + 1; omega) _
  · have hb := below_of_append (HOWN.out.alloc (.cells #[.int .i64 (2 * (a : Int))] 3)) HG2.out (by simp only [World.size_alloc]; omega)
    exact ((((Below.refl _ _).alloc (Nat.le_of_lt hlt) _).trans (hb.mono (Nat.le_succ _))).setCell (Nat.le_refl _) _)

theorem ptrs_succ (L : List Ob) (k : Nat) : (List.range (k + 1)).map (ptr L) = (List.range k).map (ptr L) ++ [2 * (adr L k : Int)] := by rw [List.range_succ, List.map_append]; rfl
set_option maxRecDepth 100000 in
set_option maxHeartbeats 8000000 in
theorem objects_any {w : World} {s bw bm : Nat} {m : Hp} (h : PM w s bw bm m) : Calls Try.prog 36 #[.pointer (some ⟨s, 0, none⟩)] w fun e w' => ∃ v, e = .returned v ∧ Ints w' w.heap.size v (ptrs m.L) ∧ Below w.heap.size w w' := by
  obtain ⟨w1, hw1⟩ : ∃ w1, w.alloc (.cells #[.slice none 0 0] 23) = w1 := ⟨_, rfl⟩
  have hb1 : Below w.heap.size w w1 := by rw [← hw1]; exact (Below.refl _ _).alloc (Nat.le_refl _) _
  have hbox : w1.heap[w.heap.size]? = some (.cells #[.slice none 0 0] 23 (0, 0)) := by rw [← hw1]; exact heap_alloc_new w _
  have hsz1 : w1.heap.size = w.heap.size + 1 := by rw [← hw1]; simp
  have hlen := len_bd h.good
  have hend : ∀ (k : Nat) (w' : World), k ≤ m.L.length → ObjP w.heap.size ((List.range k).map (ptr m.L)) w1 w' → PM w' s bw bm m := fun k w' hk ⟨v, p1, p2, p3⟩ => h.below (hb1.trans p3)
  have hcall := each_objects (w := w1) (s := s) (bw := bw) (sz := m.size) (n := m.L.length) (c0 := .pointer (some ⟨w.heap.size, 0, none⟩)) (A := adr m.L) (NF := nfA m.L) (fun k w' => ObjP w.heap.size ((List.range k).map (ptr m.L)) w1 w') ⟨_, hbox, World.ownsRow_nil _ _ _ _, Below.refl _ _⟩ (each_zero _) (each_succ _) (each_mono _) (each_size h.good)
    (fun k w' hk hp => (hend k w' hk hp).c1) (fun k w' hk hp => each_head (hend k w' (Nat.le_of_lt hk) hp) hk)
    (fun k w' hk hp => by
      obtain ⟨v, p1, p2, p3⟩ := hp
      have ha := adr_bd h.good k
      refine (obj1_any p1 p2 (adr m.L k) ha.1 ha.2 (by simp; omega)).mono ?_
      rintro e w2 ⟨rfl, v2, q1, q2, q3⟩
      refine ⟨rfl, v2, q1, ?_, p3.trans q3⟩
      rw [ptrs_succ]; exact q2)
  have HC : Hid (Calls Try.prog 71 #[.pointer (some ⟨s, 0, none⟩), .func (.func 72) #[] #[.pointer (some ⟨w.heap.size, 0, none⟩)]] (w.alloc (.cells #[.slice none 0 0] 23)) fun e w' => e = .returned (.tuple #[]) ∧ ObjP w.heap.size ((List.range m.L.length).map (ptr m.L)) w1 w') := by rw [hw1]; exact hcall
  have HB1 := Lib.hid hb1
  clear hw1 hb1 hbox hsz1 hend hcall h
  go_enter Try.func36, Try.ntmps36
  go_wp2_with (go_at_call 71; (with_reducible refine HC.out.mono ?_); rintro e w2 ⟨rfl, v, q1, q2, q3⟩; have hc2 : w2.cell? ⟨w.heap.size, 0, none⟩ = some v := by { simp [World.cell?, q1] }; have HQ2 := Lib.hid q2; have HQ3 := Lib.hid q3; clear q1 q2 q3)
  go_ret
  exact ⟨v, rfl, ownsRow_mono HQ2.out (Nat.le_succ _), HB1.out.trans HQ3.out⟩
end Go.Proofs.Ytfinpgkehjbcpaa
