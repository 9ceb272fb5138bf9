/- The law HeapOwns of chapter 02 holds for every input: it returns true, and its arguments stay. No conditions. -/
import Derived.Test.YtpifodfckjphiaaRows
import Derived.Test.YtpifodfckjphiaaLY
import Derived.Test.YtpifodfckjphiaaLW2
import Derived.Deep.RegionHeld3
import Derived.Deep.RegionWith
import Derived.SizedLaws
import Derived.StillTailTactics
import Derived.Deep.CutBlock
import Derived.WalkKit
import Derived.ProofKit
import Derived.OpenShut
import Derived.ChangeOld
import Derived.Below
namespace Go.Proofs.Ytpifodfckjphiaa.heapOwns
open Go.ChangeShapes Go.WideShapes Go.ChangeAt Go.RowKit Go.Deep Go.Joins Go.Maps
set_option linter.unusedVariables false
set_option linter.unusedSimpArgs false

theorem own : ownKnob Try.prog.godebug = none := by kernel_rfl
theorem laidOut : laidOutB Try.prog = true := by kernel_rfl
section
variable {H : Type} {enc : TypeId × Value → H} {w : World} {base : Nat} {spare : Nat → Bool} {held : Bool}
theorem weights_all {P : Program} {e : TypeId} : ∀ {l : List (DataW H)} {d : DataW H}, d ∈ l → ∀ k, k ∈ d.weights P e → k ∈ DataW.weightsAll P e l
  | x :: l, d, hd, k, hk => by
    unfold DataW.weightsAll
    rcases List.mem_cons.1 hd with rfl | hd
    · exact List.mem_append.2 (.inl hk)
    · exact List.mem_append.2 (.inr (weights_all hd k hk))
/-- a list's length is bounded by the form's own reach -/
theorem sized_list {fuel : Nat} {A : Option Addr} {n c : Nat} {x : DataW H × List MemPlace} (h : DataW.trod enc Try.prog w base spare held fuel 28 [.slice A n c] = some x) (hz : ∀ k, k ∈ x.1.weights Try.prog 28 → k ≤ reachBytes) : n * 8 ≤ reachBytes := by
  rcases open_slice Try.underlying28 h with ⟨e, _⟩ | ⟨a, len, cap, m, nn, D, Pl, e, hb, hl, hm, hmm, rfl, hi⟩
  · cases e; unfold reachBytes; omega
  · cases e
    have := hz (((List.range n).map D).length + ((List.range (m - n)).map fun j => D (n + j)).length |> fun q => q * Try.prog.bytesOf 3) (by
      unfold DataW.weights
      rw [Try.underlying28]
      exact List.mem_cons_self ..)
    rw [show Try.prog.bytesOf 3 = 8 by kernel_rfl] at this
    simp only [List.length_map, List.length_range] at this
    omega
theorem sized_deeds {A : Option Addr} {n c : Nat} {T : Nat → DeedT} {d : DataW H} {p : List MemPlace} (R : RawD w A n c T) (h : DataW.Trod enc Try.prog w base spare held 22 (.slice A n c) d p) (hz : ∀ k, k ∈ d.weights Try.prog 22 → k ≤ reachBytes) : ∀ i, i < n → (T i).na * 8 ≤ reachBytes := by
  intro i hi
  obtain ⟨b, off, rfl, hlt, _, _, _, _, _, c5, _⟩ := R.at_ i hi
  obtain ⟨fuel, hf⟩ := h
  rcases open_slice Try.underlying22 hf with ⟨e, _⟩ | ⟨a, len, cap, m, nn, D, Pl, e, hb, hl, hm, hmm, hx, hit⟩
  · simp [Value.cells] at e
  · simp only [Value.cells] at e
    cases e
    have hlm : n ≤ m := by rw [hmm]; split <;> omega
    obtain ⟨cs', h1, h2⟩ := hit i (by omega)
    rw [show Try.prog.cellsOf 30 = 7 by kernel_rfl] at h1
    obtain ⟨_, hlen, hcell⟩ := World.cells?_some h1
    obtain ⟨xs, k, _, hxy, _, hxl, hfl⟩ := DataW.trod_struct Try.underlying30 h2
    have g5 : DataW.trod enc Try.prog w base spare held k 28 ((cs'.drop 5).take (Try.prog.cellsOf 28)) = xs[5]? := hfl 5 _ rfl
    rw [show Try.prog.cellsOf 28 = 1 by kernel_rfl] at g5
    have hc5 : cs'[5]'(by omega) = .slice (T i).A (T i).na (T i).ca := by
      have h5 := hcell 5 (by omega)
      rw [add_plain, add_plain] at h5
      have hq : w.cell? ⟨b, off + i * 7 + 5, none⟩ = cs'[5]? := h5
      rw [c5, List.getElem?_eq_getElem (by omega)] at hq
      exact (Option.some.inj hq).symm
    have hone : (cs'.drop 5).take 1 = [.slice (T i).A (T i).na (T i).ca] := by
      rw [List.drop_eq_getElem_cons (by omega), hc5]; rfl
    rw [hone] at g5
    have hsz : xs.length = 7 := hxl
    rw [List.getElem?_eq_getElem (by omega)] at g5
    refine sized_list g5 (fun q hq => hz q ?_)
    rw [show d = DataW.slice ((List.range n).map D) ((List.range (m - n)).map fun j => D (n + j)) from congrArg Prod.fst hx]
    unfold DataW.weights
    rw [Try.underlying22]
    refine List.mem_cons_of_mem _ (List.mem_append.2 (.inl (weights_all (List.mem_map.2 ⟨i, List.mem_range.2 hi, rfl⟩) q ?_)))
    rw [show D i = DataW.agg (xs.map (·.1)) from congrArg Prod.fst hxy]
    unfold DataW.weights
    rw [Try.underlying30]
    exact DataW.weights_mem_each (j := 5) rfl (by rw [List.getElem?_map, List.getElem?_eq_getElem (by omega)]; rfl) q hq
end
theorem append_nil1 (ad : Addr) (c : Nat) (ty : TypeId) (W : World) : (Builtin.append_ #[28, 28] ty #[.slice none 0 0, .slice (some ad) 0 c]).run Try.prog W = .ok (.slice none 0 0) W := by
  obtain ⟨i0, hi, hz0, hz1, hz2⟩ := info_parts infoI
  have h0 := run_firstCells_some (P := Try.prog) W i0.size 0 ad 0 c [] (by simp) (fun j u h => by simp at h)
  simp [Builtin.append_, run_underlying Try.underlying28, sizeOf, typeInfo, hi, Builtin.lenOf, h0]
theorem append_nil0 (c : Nat) (ty : TypeId) (W : World) : (Builtin.append_ #[28, 28] ty #[.slice none 0 0, .slice none 0 c]).run Try.prog W = .ok (.slice none 0 0) W := by
  obtain ⟨i0, hi, hz0, hz1, hz2⟩ := info_parts infoI
  simp [Builtin.append_, run_underlying Try.underlying28, sizeOf, typeInfo, hi, Builtin.lenOf, Builtin.firstCells]
theorem block_cell {w w' : World} {b : Nat} (h : w'.heap[b]? = w.heap[b]?) (o : Nat) : w'.cell? ⟨b, o, none⟩ = w.cell? ⟨b, o, none⟩ := by unfold World.cell?; rw [h]
theorem map_block {A : Option Addr} {b off : Nat} (e : A = some ⟨b, off, none⟩) : A.map (·.block) = some b := by rw [e]; rfl
theorem lg_to {X : Nat → Prop} {w0 wc : World} {s r : Nat} {m m' : Hp} (e : m' = m) (h : LG X w0 wc s r m' m') : LG X w0 wc s r m m := e ▸ h
theorem does_lg {X : Nat → Prop} {w0 wc : World} {s r : Nat} {m : Hp} (h : LG X w0 wc s r m m) {t : DeedT} (hd : IsD w0 t) :
    Calls Try.prog 12 #[.pointer (some ⟨s, 0, none⟩), .pointer (some ⟨r, 0, none⟩), .agg #[.int .i64 t.k0, .int .i64 t.k1, .int .i64 t.k2, .int .i64 t.k3, .int .i64 t.k4, .slice t.A t.na t.ca, .slice t.B t.nb t.cb]] wc fun e w' => e = .returned (.bool true) ∧ LG X w0 w' s r (stepV m t.k0 t.k1 t.k2 t.k3 t.la t.lb) (stepV m t.k0 t.k1 t.k2 t.k3 t.la t.lb) ∧ Keeps X wc w' := by
  obtain ⟨bw, bm, R, D, hb, q⟩ := h
  have hA := hd.a.below hb
  have hB := hd.b.below hb
  refine (does_any D hd.i1 hd.i2 hd.i3 hA.nums hB.nums hA.int hB.int (by rw [hA.len]; exact Nat.le_trans hA.le hA.cap) (by rw [hB.len]; exact Nat.le_trans hB.le hB.cap) hA.len hB.len (fun b off e z => q b (hd.a.lt b off e (by rw [← hA.len]; exact z))) (fun b off e z => q b (hd.b.lt b off e (by rw [← hB.len]; exact z)))).mono ?_
  rintro e w' ⟨rfl, bm', R', D', K'⟩
  exact ⟨rfl, ⟨bw, bm', R', D', hb.trans (K'.below (fun k hk => q k hk) hb.size), q⟩, K'⟩
theorem does_lg' {X : Nat → Prop} {w0 wc : World} {s r : Nat} {m : Hp} (h : LG X w0 wc s r m m) {k0 k1 k2 k3 k4 : Int} {TA TB : Option Addr} {na ca nb cb : Nat} {la lb : List Int} (hd : IsD w0 ⟨k0, k1, k2, k3, k4, TA, na, ca, la, TB, nb, cb, lb⟩) :
    Calls Try.prog 12 #[.pointer (some ⟨s, 0, none⟩), .pointer (some ⟨r, 0, none⟩), .agg #[.int .i64 k0, .int .i64 k1, .int .i64 k2, .int .i64 k3, .int .i64 k4, .slice TA na ca, .slice TB nb cb]] wc fun e w' => e = .returned (.bool true) ∧ LG X w0 w' s r (stepV m k0 k1 k2 k3 la lb) (stepV m k0 k1 k2 k3 la lb) ∧ Keeps X wc w' := does_lg h hd
/-- a block of numbers, that may be written -/
def IntsB (w : World) (g n : Nat) : Prop := ∃ cs : Array Value, w.heap[g]? = some (.cells cs 3 (0, 0)) ∧ ∀ j, j < n → ∃ x, cs[j]? = some (.int .i64 x)
theorem IntsB.at_ {w : World} {g n : Nat} (h : IntsB w g n) {j : Nat} (hj : j < n) : ∃ x, w.cell? ⟨g, j, none⟩ = some (.int .i64 x) ∧ w.frozen? ⟨g, j, none⟩ = false := by
  obtain ⟨cs, hb, hc⟩ := h
  obtain ⟨x, hx⟩ := hc j hj
  exact ⟨x, by simp [World.cell?, hb, hx], by simp [World.frozen?, hb]⟩
theorem IntsB.same {w w' : World} {g n : Nat} (h : IntsB w g n) (e : w'.heap[g]? = w.heap[g]?) : IntsB w' g n := by
  obtain ⟨cs, hb, hc⟩ := h
  exact ⟨cs, e.trans hb, hc⟩
theorem IntsB.set {w : World} {g n : Nat} (h : IntsB w g n) (j : Nat) (x : Int) : IntsB (w.setCell ⟨g, j, none⟩ (.int .i64 x)) g n := by
  obtain ⟨cs, hb, hc⟩ := h
  obtain ⟨l⟩ := cs
  refine ⟨_, heap_setCell_same w g j _ _ _ hb, fun i hi => ?_⟩
  obtain ⟨y, hy⟩ := hc i hi
  by_cases e : i = j
  · subst e
    refine ⟨x, ?_⟩
    have hl : i < l.length := by
      rcases Nat.lt_or_ge i l.length with q | q
      · exact q
      · simp [List.getElem?_eq_none q] at hy
    simp [hl]
  · refine ⟨y, ?_⟩
    simp only [List.getElem?_toArray] at hy ⊢
    rw [Array.getElem?_setIfInBounds_ne (fun z => e z.symm)]
    simpa using hy
theorem IntsB.off {w : World} {g g' n o : Nat} {v : Value} (h : IntsB w g n) (e : g' ≠ g) : IntsB (w.setCell ⟨g', o, none⟩ v) g n := h.same (Below.heap_setCell _ _ _ _ (fun z => e z.symm))
theorem ints_block {w : World} {base n c : Nat} {A : Option Addr} {l : List Int} (h : Ints w base (.slice A n c) l) {g : Nat} (hg : A.map (·.block) = some g) : IntsB w g l.length ∧ base ≤ g := by
  have hb : (Value.slice A n c).ownBlock = some g := by
    obtain ⟨A', c', e, _, _, _, _, q⟩ := h.nums
    rw [q]
    cases e
    exact hg
  rcases h.2 with ⟨hv, h0⟩ | ⟨g', cap, cur, hv, hg', hh, h1, h2, h3⟩
  · cases hv; cases hg
  · cases hv
    obtain rfl : g' = g := by cases hg; rfl
    refine ⟨⟨cur, hh, fun j hj => ?_⟩, hg'⟩
    have hc := World.ownsRow.cellAt h j (by omega)
    rw [List.getElem?_map, List.getElem?_eq_getElem hj] at hc
    refine ⟨l[j], ?_⟩
    have : w.cell? ⟨g', j, none⟩ = cur[j]? := by simp [World.cell?, hh]
    rw [← this]; exact hc
theorem LG.store {X : Nat → Prop} {w0 wc : World} {s r : Nat} {mp mr : Hp} (h : LG X w0 wc s r mp mr) {g : Nat} (hg : X g) (h0 : w0.heap.size ≤ g) (o : Nat) (v : Value) : LG X w0 (wc.setCell ⟨g, o, none⟩ v) s r mp mr := by
  obtain ⟨bw, bm, R, ⟨lv, fv, P, Q, h1, h2⟩, hb, q⟩ := h
  have hs : (wc.setCell ⟨g, o, none⟩ v).heap.size = wc.heap.size := by simp
  have hk : ∀ k, k ≠ g → (wc.setCell ⟨g, o, none⟩ v).heap[k]? = wc.heap[k]? := fun k e => Below.heap_setCell _ _ _ _ e
  have hp : ∀ k, pset s bw bm k → k ≠ g := fun k hk e => (h2 g hg).1 (e ▸ hk)
  refine ⟨bw, bm, R, ⟨lv, fv, P.same (hk _ (hp _ (.inl rfl))) (hk _ (hp _ (.inr (.inl rfl)))) (hk _ (hp _ (.inr (.inr rfl)))), Q.same (by rw [hs]; exact Nat.le_refl _) (fun k hR => hk k (fun e => (h2 g hg).2.1 (e ▸ hR))), h1, fun k hx => ?_⟩, hb.setCell h0 _, q⟩
  obtain ⟨a, b, c⟩ := h2 k hx
  exact ⟨a, b, by rw [hs]; exact c⟩
theorem LG.less {X Y : Nat → Prop} {w0 wc : World} {s r : Nat} {mp mr : Hp} (h : LG X w0 wc s r mp mr) (hy : ∀ k, Y k → X k) (hz : ∀ k, k < w0.heap.size → Y k) : LG Y w0 wc s r mp mr := by
  obtain ⟨bw, bm, R, D, hb, q⟩ := h
  exact ⟨bw, bm, R, D.less hy, hb, hz⟩

set_option maxRecDepth 100000 in
set_option maxHeartbeats 40000000 in
theorem walk (w : World) (A0 : Option Addr) (n0 c0 : Nat) (T0 : Nat → DeedT) (R0 : RawD w A0 n0 c0 T0) (Z0 : ∀ i, i < n0 → (T0 i).na * 8 ≤ reachBytes) :
    Calls Try.prog 8 #[.slice A0 n0 c0] w fun e w' => e = .returned (.bool true) ∧ Below w.heap.size w w' := by
  have HZ := Lib.hid Z0
  clear Z0
  have HR := Lib.hid R0
  have hcap : n0 ≤ 9223372036854775807 := Nat.le_trans R0.le R0.cap
  clear R0
  obtain ⟨q, hq⟩ : ∃ q, min n0 30 = q := ⟨_, rfl⟩
  have hq50 : q ≤ 30 := by omega
  have hqn : q ≤ n0 := by omega
  have HQ := Lib.hid hq
  clear hq
  go_enter Try.func8, Try.ntmps8
  go_upto_block 0 with (first | (go_at_call 10; (with_reducible refine (pnew_any _ 600 (inI_of (by decide) (by decide))).mono ?_); rintro e w1 ⟨h, B1⟩; rw [if_pos (show okN 600 = true from rfl)] at h; obtain ⟨s, bw, bm, rfl, qs, P1⟩ := h; have HP1 := Lib.hid P1; have HQ1 := Lib.hid qs; have HB1 := Lib.hid B1; clear P1 qs B1) | (go_at_call 11; (with_reducible refine (new_r (inI_of (by decide) (by decide)) (show okN 600 = true from rfl) HP1.out HQ1.out HB1.out).mono ?_); rintro e w2 ⟨r, rfl, hst⟩; have HS := Lib.hid hst; clear hst))
  go_cut [] (fun wx => ∃ m, LSt w wx s r m)
  case first =>
    go_wp2_with fail
    go_loopw [5] (fun i wr => ∃ k : Nat, k ≤ q ∧ i = .int .i64 k ∧ ∃ m, LSt w wr s r m) (fun i _ => q - (intOf i).toNat)
    case atStart => exact ⟨0, Nat.zero_le _, rfl, _, HS.out⟩
    case round =>
      obtain ⟨k, hk, rfl, m0, hst⟩ := hrel
      replace HS := Lib.hid hst
      clear hst
      by_cases hlt : k < q
      · have d1 : decide (k < n0) = true := decide_eq_true (by omega)
        have d2 : decide (k < 30) = true := decide_eq_true (by omega)
        have d3 : decide ((k : Int) < 30) = true := decide_eq_true (by omega)
        have hkn : k < n0 := by omega
        obtain ⟨g, off, rfl, hgl, e0, e1, e2, e3, e4, e5, e6⟩ := (HR.out.below HS.out.stays).at_ k hkn
        obtain ⟨t, ht⟩ : ∃ t, T0 k = t := ⟨_, rfl⟩
        have HD := Lib.hid (HR.out.each k hkn)
        have HTT := Lib.hid ht
        rw [ht] at e0 e1 e2 e3 e4 e5 e6 HD
        clear ht hgl
        have g0 : (0 : Int) ≤ (k : Int) := by omega
        have g1 : (k : Int) < (n0 : Int) := by omega
        have HZT : Hid (t.na * 8 ≤ 140737488355328) := Lib.hid (Nat.le_trans (by have := HZ.out k hkn; rw [HTT.out] at this; exact this) (by decide))
        obtain ⟨k0, k1, k2, k3, k4, TA, na, ca, la, TB, nb, cb, lb⟩ := t
        dsimp only at e0 e1 e2 e3 e4 e5 e6
        have HLA : Hid (la.length = na) := Lib.hid HD.out.a.len
        have hca : ca ≤ 9223372036854775807 := HD.out.a.cap
        have hna : na ≤ ca := HD.out.a.le
        have HNA_ : Hid (la.length ≤ maxLen) := Lib.hid (by rw [HLA.out]; exact Nat.le_trans hna hca)
        obtain ⟨m, hm⟩ : ∃ m, stepV m0 k0 k1 k2 k3 la lb = m := ⟨_, rfl⟩
        have HM : Hid (stepV m0 k0 k1 k2 k3 la lb = m) := Lib.hid hm
        have HSO : Hid (Sound m.L) := Lib.hid (by rw [← hm]; exact sound_step HS.out.good HS.out.sound _ _ _ _ _ _)
        clear hm
        go_upto_region 10 with fail
        obtain ⟨wx, hwx⟩ : ∃ wx, wr.alloc (.cells #[.int .i64 k0, .int .i64 k1, .int .i64 k2, .int .i64 k3, .int .i64 k4, .slice TA na ca, .slice TB nb cb] 30) = wx := ⟨_, rfl⟩
        rw [hwx]
        have hbx : Below wr.heap.size wr wx := by rw [← hwx]; exact (Below.refl _ _).alloc (Nat.le_refl _) _
        have hhx : wx.heap[wr.heap.size]? = some (.cells #[.int .i64 k0, .int .i64 k1, .int .i64 k2, .int .i64 k3, .int .i64 k4, .slice TA na ca, .slice TB nb cb] 30 (0, 0)) := by rw [← hwx]; exact (MapKept.heap_alloc wr _).1
        have hsx : wx.heap.size = wr.heap.size + 1 := by rw [← hwx]; simp
        obtain ⟨w1, hw1⟩ : ∃ w1, wr = w1 := ⟨_, rfl⟩
        rw [hw1] at hbx hhx hsx hwx HS
        obtain ⟨bb, hbb⟩ : ∃ bb, wr.heap.size = bb := ⟨_, rfl⟩
        rw [hbb]
        rw [← hw1, hbb] at hhx
        have HW1 : Hid (w1.heap.size = bb) := Lib.hid (by rw [← hw1]; exact hbb)
        have HGX := Lib.hid (HS.out.lg.below hbx)
        have HBX := Lib.hid hbx
        have hsx2 : bb < wx.heap.size := by rw [hsx, HW1.out]; omega
        have b0 : wx.cell? ⟨bb, 0, none⟩ = some (.int .i64 k0) := by simp [World.cell?, hhx]
        have b1 : wx.cell? ⟨bb, 1, none⟩ = some (.int .i64 k1) := by simp [World.cell?, hhx]
        have b2 : wx.cell? ⟨bb, 2, none⟩ = some (.int .i64 k2) := by simp [World.cell?, hhx]
        have b3 : wx.cell? ⟨bb, 3, none⟩ = some (.int .i64 k3) := by simp [World.cell?, hhx]
        have b4 : wx.cell? ⟨bb, 4, none⟩ = some (.int .i64 k4) := by simp [World.cell?, hhx]
        have b5 : wx.cell? ⟨bb, 5, none⟩ = some (.slice TA na ca) := by simp [World.cell?, hhx]
        have b6 : wx.cell? ⟨bb, 6, none⟩ = some (.slice TB nb cb) := by simp [World.cell?, hhx]
        have HDA := Lib.hid (HD.out.a.nums.below HGX.out.stays)
        have HGE := Lib.hid HS.out.ge
        clear hwx hbx hhx hsx hbb hw1 e0 e1 e2 e3 e4 e5 e6
        obtain ⟨i0, hi, hz0, hz1, hz2⟩ := info_parts infoI
        go_cut [7] (fun o w2 => ∃ B bc, o = .slice B na bc ∧ Nums w2 B la ∧ (∀ b off, B = some ⟨b, off, none⟩ → wx.heap.size ≤ b ∧ b < w2.heap.size) ∧ Below wx.heap.size wx w2)
        case first =>
          cases TA with
          | none =>
            have hn0 : na = 0 := by
              rcases Nat.eq_zero_or_pos na with h0 | h0
              · exact h0
              · obtain ⟨b, off, e, _⟩ := HDA.out 0 (by rw [HLA.out]; exact h0); cases e
            have hnil : ∀ ty W, (Builtin.append_ #[28, 28] ty #[.slice none 0 0, .slice none na ca]).run Try.prog W = .ok (.slice none 0 0) W := fun ty W => by rw [hn0]; exact append_nil0 ca ty W
            subst hn0
            go_wp2_with fail
            go_meet
            exact ⟨none, 0, rfl, fun k hk => absurd hk (by rw [HLA.out]; omega), (fun b off e => by cases e), Below.refl _ _⟩
          | some ad =>
            by_cases hn0 : 0 < na
            · obtain ⟨tb, toff, e, htl, htc⟩ := HDA.out 0 (by rw [HLA.out]; exact hn0)
              cases e
              have hnews : ∀ (j : Nat) (u : Value), (la.map (.int .i64))[j]? = some u → wx.cell? ((⟨tb, toff, none⟩ : Addr).add j) = some u := by
                intro j u hu
                rw [add_plain]
                rw [List.getElem?_map] at hu
                obtain ⟨a, ha, rfl⟩ := Option.map_eq_some_iff.1 hu
                obtain ⟨hjl, rfl⟩ := List.getElem?_eq_some_iff.1 ha
                obtain ⟨b', off', e', _, hc⟩ := HDA.out j hjl
                cases e'
                exact hc
              have hlen1 : (la.map (Value.int .i64)).length = na * 1 := by rw [List.length_map, HLA.out, Nat.mul_one]
              have hbyt : (0 + na) * 8 ≤ 140737488355328 := by have := HZT.out; rw [Nat.zero_add]; exact this
              have hone1 : ∀ u ∈ la.map (Value.int .i64), u.oneCell' = true := by simp [Value.oneCell']
              clear htc
              go_wp2_with (at_builtin; refine wpList_append_own _ rfl _ _ 28 rfl wx.heap.size 3 i0 (.int .i64 0) 1 8 Try.underlying28 hi hz0 hz1 hz2 rfl (by decide) _ _ _ rfl (World.ownsRow_nil _ _ _ _) ⟨tb, toff, none⟩ na ca (la.map (.int .i64)) rfl hlen1 hnews hone1 (by unfold maxLen; omega) hbyt (Nat.le_refl _) ?_; intro v2 w2 hown hg2 _)
              go_meet
              simp only [Nat.zero_add, List.nil_append] at hown
              have hown' : Ints w2 wx.heap.size v2 la := by unfold Ints; rw [HLA.out]; exact hown
              obtain ⟨B, bc, rfl, hc1, hc2, hc3, hc4, hc5⟩ := hown'.nums
              rw [HLA.out] at hown' hown hc5 ⊢
              exact ⟨B, bc, rfl, hc2, fun b off e => ⟨(hc3 b off e).1, (World.ownsRow.lt hown' b (by rw [hc5, e]; rfl)).2⟩, below_of_append (World.ownsRow_nil wx wx.heap.size 3 1) hg2 (Nat.le_refl _)⟩
            · have hn00 : na = 0 := by omega
              have hnil : ∀ ty W, (Builtin.append_ #[28, 28] ty #[.slice none 0 0, .slice (some ad) na ca]).run Try.prog W = .ok (.slice none 0 0) W := fun ty W => by rw [hn00]; exact append_nil1 ad ca ty W
              clear hn0
              subst hn00
              go_wp2_with fail
              go_meet
              exact ⟨none, 0, rfl, fun k hk => absurd hk (by rw [HLA.out]; omega), (fun b off e => by cases e), Below.refl _ _⟩
        case rest =>
          obtain ⟨w2, rfl⟩ : ∃ z, z = wc := ⟨_, rfl⟩
          obtain ⟨B, bc, rfl, hNB, hNX, hb2⟩ := hcut
          have hs2 := hb2.size
          have HOWN := Lib.hid hNB
          have HBB : Hid (w1.heap.size ≤ bb ∧ bb < w2.heap.size) := Lib.hid ⟨by rw [HW1.out]; exact Nat.le_refl _, by omega⟩
          have HOB : Hid (∀ b off, B = some ⟨b, off, none⟩ → w1.heap.size ≤ b ∧ b < w2.heap.size) := Lib.hid (fun b off e => ⟨Nat.le_trans HBX.out.size (hNX b off e).1, (hNX b off e).2⟩)
          have HG := Lib.hid (HS.out.lg.more (Y := fun k => k < w.heap.size ∨ (w1.heap.size ≤ k ∧ k < w2.heap.size)) (HBX.out.trans (hb2.mono HBX.out.size)) (fun k z => z) (fun k z => .inl z))
          replace b0 := (hb2.cell (cell_lt b0)).trans b0
          replace b1 := (hb2.cell (cell_lt b1)).trans b1
          replace b2 := (hb2.cell (cell_lt b2)).trans b2
          replace b3 := (hb2.cell (cell_lt b3)).trans b3
          replace b4 := (hb2.cell (cell_lt b4)).trans b4
          replace b5 := (hb2.cell (cell_lt b5)).trans b5
          replace b6 := (hb2.cell (cell_lt b6)).trans b6
          clear hNB hNX hb2 hs2 hsx2 HDA
          go_upto_region 12 with (first | (go_at_call 12; (with_reducible refine (does_lg' HG.out HD.out).mono ?_); rintro e w3 ⟨rfl, hst, hk3⟩; have HOW3 := Lib.hid (HOWN.out.keeps hk3 (fun b off e _ => .inr (HOB.out b off e))); have b5 : w3.cell? ⟨bb, 5, none⟩ = some (.slice TA na ca) := (block_cell (hk3.block (k := bb) (.inr HBB.out) HBB.out.2) 5).trans b5; have HG3 := Lib.hid (lg_to HM.out hst); clear hst hk3))
          obtain ⟨pn, hpn⟩ : ∃ pn, (ptrs m.L).length = pn := ⟨_, rfl⟩
          have HPN := Lib.hid hpn
          have HGM : Hid (Good m) := Lib.hid HG3.out.goodp
          have HPL : Hid ((ptrs m.L).length ≤ 1000000) := Lib.hid (by have := len_bd HGM.out; simp [ptrs]; omega)
          have HPI : Hid (∀ x, x ∈ ptrs m.L → InI x) := Lib.hid (ptrs_in HGM.out)
          have HKA : Hid (keepV m (ptrs m.L) = (m, ptrs m.L, 0)) := Lib.hid (keep_all HGM.out HSO.out)
          have hpc : pn ≤ 1000000 := by rw [← hpn]; exact HPL.out
          clear hpn
          go_upto_region 20 with (first | (go_at_call_of 31 na; (with_reducible refine (sameN HOW3.out (HD.out.a.nums.below HG3.out.stays) HLA.out HNA_.out).mono ?_); rintro e w4 ⟨rfl, hb4⟩; have HG4 := Lib.hid (HG3.out.below hb4); clear hb4) | (go_at_call 23; (with_reducible refine (g_objects HG4.out HPN.out).mono ?_); rintro e w5 ⟨A5, c5, rfl, hv5, hn5, hb5, hst⟩; have HV5 := Lib.hid hv5; have HN5 := Lib.hid hn5; have HG5 := Lib.hid (HG4.out.more (Y := fun k => (k < w.heap.size ∨ (w1.heap.size ≤ k ∧ k < w2.heap.size)) ∨ (w4.heap.size ≤ k ∧ k < w5.heap.size)) hb5 (fun k z => z) (fun k z => .inl (.inl z))); have HX5 : Hid (∀ g, A5.map (·.block) = some g → w4.heap.size ≤ g ∧ g < w5.heap.size) := Lib.hid (fun g hg => ⟨(ints_block hv5 hg).2, (let ⟨cs, q, _⟩ := (ints_block hv5 hg).1; lt_of_block q)⟩); clear hst hv5 hn5 hb5) | (go_at_call 32; (with_reducible refine (g_keep' HG5.out HPN.out HN5.out HPI.out HPL.out (fun b off e => .inr (HX5.out b (map_block e)))).mono ?_); rw [HKA.out]; rintro e w6 ⟨A6, c6, rfl, hv6, hn6, hst, hk6⟩; rw [HPN.out] at hv6; rw [HPN.out]; have HV6 := Lib.hid hv6; have HN6 := Lib.hid hn6; have HN56 := Lib.hid (HN5.out.keeps hk6 (fun b off e _ => .inr (HX5.out b (map_block e)))); have HK6 := Lib.hid hk6; have HG6 := Lib.hid hst; clear hst hv6 hn6 hk6) | (go_at_call_of 31 pn; (with_reducible refine (sameN HN6.out HN56.out HPN.out (Nat.le_trans HPL.out (by decide))).mono ?_); rintro e w7 ⟨rfl, hb7⟩; have HB7 := Lib.hid hb7; have HG7 := Lib.hid (HG6.out.below hb7); clear hb7))
          have hK5 : ∀ g, A5.map (·.block) = some g → IntsB w7 g pn ∧ w.heap.size ≤ g ∧ g < w5.heap.size := fun g hg => by
            obtain ⟨q1, q2⟩ := ints_block HV5.out hg
            obtain ⟨q3, q4⟩ := HX5.out g hg
            rw [HPN.out] at q1
            refine ⟨(q1.same (HK6.out.block (.inr ⟨q3, q4⟩) q4)).same (HB7.out.block g (Nat.lt_of_lt_of_le q4 HK6.out.size)), ?_, q4⟩
            exact Nat.le_trans (Nat.le_trans HG4.out.stays.size (Nat.le_refl _)) q2
          have hK6 : ∀ g, A6.map (·.block) = some g → IntsB w7 g pn ∧ w.heap.size ≤ g ∧ w5.heap.size ≤ g := fun g hg => by
            obtain ⟨q1, q2⟩ := ints_block HV6.out hg
            rw [HPN.out] at q1
            have q3 : g < w6.heap.size := by obtain ⟨cs, q, _⟩ := q1; exact lt_of_block q
            refine ⟨q1.same (HB7.out.block g q3), ?_, q2⟩
            exact Nat.le_trans HG5.out.stays.size q2
          have hN5 : 0 < pn → ∃ g, A5 = some ⟨g, 0, none⟩ := fun h0 => by
            obtain ⟨A', c', e, _, hn, hl, _⟩ := HV5.out.nums
            cases e
            obtain ⟨b, off, e, _⟩ := hn 0 (by rw [HPN.out]; exact h0)
            exact ⟨b, by rw [e, (hl b off e).2]⟩
          have hN6 : 0 < pn → ∃ g, A6 = some ⟨g, 0, none⟩ := fun h0 => by
            obtain ⟨A', c', e, _, hn, hl, _⟩ := HV6.out.nums
            cases e
            obtain ⟨b, off, e, _⟩ := hn 0 (by rw [HPN.out]; exact h0)
            exact ⟨b, by rw [e, (hl b off e).2]⟩
          have HK5 := Lib.hid hK5
          have HK6' := Lib.hid hK6
          have HNN5 := Lib.hid hN5
          have HNN6 := Lib.hid hN6
          obtain ⟨Z, hZ⟩ : ∃ Z : Nat → Prop, (fun k => ((k < w.heap.size ∨ (w1.heap.size ≤ k ∧ k < w2.heap.size)) ∨ (w4.heap.size ≤ k ∧ k < w5.heap.size)) ∨ A6.map (·.block) = some k) = Z := ⟨_, rfl⟩
          have hgz : LG Z w w7 s r m m := by rw [← hZ]; exact HG7.out
          have HZ5 : Hid (∀ g, A5.map (·.block) = some g → Z g) := Lib.hid (fun g hg => by rw [← hZ]; exact .inl (.inr (HX5.out g hg)))
          have HZ6 : Hid (∀ g, A6.map (·.block) = some g → Z g) := Lib.hid (fun g hg => by rw [← hZ]; exact .inr hg)
          have HZ0 : Hid (∀ k, k < w.heap.size → Z k) := Lib.hid (fun g hg => by rw [← hZ]; exact .inl (.inl (.inl hg)))
          clear hK5 hK6 hN5 hN6 hZ b0 b1 b2 b3 b4 b5 b6
          go_wp2_with fail
          go_loopw [12] (fun x_ wy => ∃ j : Nat, j ≤ pn ∧ x_ = .int .i64 (j : Int) ∧ (∀ g, A5.map (·.block) = some g → IntsB wy g pn) ∧ (∀ g, A6.map (·.block) = some g → IntsB wy g pn) ∧ LG Z w wy s r m m) (fun x_ _ => pn - (intOf x_).toNat)
          case atStart => exact ⟨0, Nat.zero_le _, rfl, fun g hg => (HK5.out g hg).1, fun g hg => (HK6'.out g hg).1, hgz⟩
          case round =>
            obtain ⟨j, hj, rfl, hi5, hi6, hst⟩ := hrel
            have HGJ := Lib.hid hst
            by_cases hjt : j < pn
            · have d4 : decide (j < pn) = true := decide_eq_true hjt
              obtain ⟨g1, rfl⟩ := HNN5.out (by omega)
              obtain ⟨g2, rfl⟩ := HNN6.out (by omega)
              have HI5 := Lib.hid (hi5 g1 rfl)
              have HI6 := Lib.hid (hi6 g2 rfl)
              obtain ⟨_, p1, p2⟩ := HK5.out g1 rfl
              obtain ⟨_, p3, p4⟩ := HK6'.out g2 rfl
              have hne : ¬ g1 = g2 := by omega
              have hne' : ¬ g2 = g1 := by omega
              have HP := Lib.hid (And.intro p1 (And.intro p3 hne))
              obtain ⟨x1, ca1, fa1⟩ := HI5.out.at_ hjt
              obtain ⟨x2, ca2, fa2⟩ := HI6.out.at_ hjt
              have g0 : (0 : Int) ≤ (j : Int) := by omega
              have g1_ : (j : Int) < (pn : Int) := by omega
              clear hi5 hi6 hst hgz p1 p2 p3 p4
              go_wp2_with (go_at_call 33; (with_reducible refine (raddress_any x1 _).mono ?_); rintro e w8 ⟨rfl, hw8⟩; replace hw8 := hw8.symm; subst hw8)
              go_roundw
              case rel =>
                refine ⟨j + 1, by omega, by go_num, fun g hg => ?_, fun g hg => ?_, ?_⟩
                · obtain rfl : g1 = g := by cases hg; rfl
                  exact (HI5.out.set j _).off (fun e => HP.out.2.2 e.symm)
                · obtain rfl : g2 = g := by cases hg; rfl
                  exact (HI6.out.off HP.out.2.2).set j _
                · exact LG.store (LG.store HGJ.out (HZ5.out g1 rfl) HP.out.1 _ _) (HZ6.out g2 rfl) HP.out.2.1 _ _
              case measure => simp [intOf]; omega
            · have d4 : decide (j < pn) = false := decide_eq_false hjt
              clear hjt hi5 hi6 hst hgz
              go_wp2_with fail
              go_roundw
              case rel => exact ⟨k + 1, by omega, by go_num, m, LG.st (LG.less HGJ.out (fun k hk => HZ0.out k hk) (fun k hk => hk)) HSO.out HGE.out⟩
              case measure => simp [intOf]; omega
      · have hkn : k = q := by omega
        rcases Nat.lt_or_ge k n0 with z | z
        · have d1 : decide (k < n0) = true := decide_eq_true z
          have hk50 : k = 30 := by have := HQ.out; omega
          have d2 : decide (k < 30) = false := decide_eq_false (by omega)
          have d3 : decide ((k : Int) < 30) = false := decide_eq_false (by omega)
          clear hlt hk50 hkn
          go_wp2_with fail
          go_meet
          exact ⟨_, HS.out⟩
        · have d1 : decide (k < n0) = false := decide_eq_false (by omega)
          clear hlt hkn
          go_wp2_with fail
          go_meet
          exact ⟨_, HS.out⟩
  case rest =>
    obtain ⟨m, hst⟩ := hcut
    have HG := Lib.hid hst.lg
    clear hst HS
    go_wp2_with (first | (go_at_call 26; (with_reducible refine (g_like HG.out).mono ?_); rintro e w8 ⟨rfl, hst, _⟩; replace HG := Lib.hid hst; clear hst) | (go_at_call 22; (with_reducible refine (lives_any _).mono ?_); rintro e w5 ⟨rfl, hb5⟩; replace HG := Lib.hid (HG.out.below hb5); clear hb5))
    go_ret
    exact ⟨ret_bool (by simp), HG.out.stays⟩


/-! ### the row's step -/
set_option maxRecDepth 100000 in
theorem lifted (os : Os) (started : os.Started) (H : Type) (enc : TypeId × Value → H) :
    ReturnsInHanded {} Try.checked os 8 .any (Rows.heapOwnsSpec.pre6 enc Try.prog Try.f8 Rows.heapOwnsRow.domain false) (Rows.heapOwnsSpec.post enc Try.prog Try.f8 false true false false) := by
  refine returnsInHanded_of_change_sized (C := Try.checked) own started (by kernel_rfl) Try.func8
    (ChangeSpec.witness6 (enc := enc) (C := Try.checked) false ⟨#[], #[.slice none 0 0], []⟩ 8 (by kernel_rfl) (by kernel_rfl) (by kernel_rfl) (by kernel_rfl)) ?_
  intro W base args ds gs before hval0 hW hcnd hsz0 _
  have hval : ∀ (j : Nat) t v, Try.f8.params[j]? = some t → args[j]? = some v → Value.okWide Try.prog W .any base t v := hval0
  have hsz : (DataW.weightsEach Try.prog (Try.f8.params.toList ++ Rows.heapOwnsSpec.plain.varTypes Try.prog) (ds ++ gs)).all (· ≤ reachBytes) = true := hsz0
  have hW' := hW
  obtain ⟨p, q, hA0, hV, rfl, hfz, hnd⟩ := hW
  have hA : DataW.TrodAll enc Try.prog W 0 (fun _ => true) true Try.f8.params.toList args.toList ds p := hA0
  rw [Try.params8] at hA hval hsz
  obtain ⟨v0, vs0, d0, ds0, p0, q0, hargs, rfl, rfl, h0, r0⟩ := trodAll_cons hA
  obtain ⟨rfl, rfl, rfl⟩ := trodAll_nil r0
  obtain rfl : args = #[v0] := by cases args; simp_all
  obtain ⟨rfl, rfl⟩ := trodVars_none hV
  have k0 := h0
  have lt0 : ∀ x ∈ p0, x.block < W.heap.size := by obtain ⟨m, hm⟩ := k0; exact DataW.trod_lt m _ _ _ hm
  obtain ⟨A0, n0, c0, C0, rfl, R0⟩ := open_deeds (hval 0 22 v0 rfl rfl) h0
  clear hA0 hval0
  refine (walk W _ _ _ _ R0 (sized_deeds R0 h0 (fun k hk => by simpa using List.all_eq_true.1 hsz _ (DataW.weights_mem_each (j := 0) rfl rfl _ hk)))).mono fun e W' ⟨he, bel⟩ => ?_
  subst he
  exact ⟨_, rfl, _, _, _, [], _, [], hW', trodAll_mk1 (shut_bool Try.underlying4 _), (trodAll_cons_mk (Below.trod laidOut (by kernel_rfl) (of_decide_eq_true (by kernel_rfl)) k0 bel lt0) trodAll_mk0), rfl, bel.frame _, fun h => by cases h⟩

theorem over : Rows.heapOwnsRow.holds Try.pinned (OpenSpec.ofChange Rows.heapOwnsSpec) :=
  OpenClaim.holds_of_wide 8 Try.f8 rfl rfl rfl rfl rfl rfl rfl ⟨rfl, rfl, rfl, rfl, rfl⟩ rfl rfl rfl rfl rfl (by kernel_rfl) Try.func8 (by kernel_rfl)
    (of_decide_eq_true (by kernel_rfl)) (by unfold Func.isWrapper; first | (rw [if_pos (by decide +kernel)]; kernel_rfl) | (rw [if_neg (by decide +kernel)]; exact ⟨rfl, rfl⟩))
    (fun os started H enc _ => lifted os started H enc)

theorem proved : Rows.HeapOwnsSaid := over
end Go.Proofs.Ytpifodfckjphiaa.heapOwns
