/- Chapter 02: steps of the laws on both memories. -/
import Derived.Test.YtpifodfckjphiaaLX
import Derived.Test.YtpifodfckjphiaaLOOK
import Derived.Test.YtpifodfckjphiaaHLaws
namespace Go.Proofs.Ytpifodfckjphiaa
open Go.ChangeShapes Go.WideShapes Go.ChangeAt Go.RowKit Go.Deep Go.Joins Go.Maps
set_option linter.unusedVariables false
set_option linter.unusedSimpArgs false

/-- both memories, off the blocks of X; all that was there at the start stays -/
def LG (X : Nat → Prop) (w0 wc : World) (s r : Nat) (mp mr : Hp) : Prop := ∃ bw bm R, Duo X wc s bw bm r R mp mr ∧ Below w0.heap.size w0 wc ∧ ∀ k, k < w0.heap.size → X k
section
variable {X Y : Nat → Prop} {w0 wc w' : World} {s r : Nat} {m mp mr : Hp}
theorem LSt.lg (h : LSt w0 wc s r m) : LG (fun k => k < w0.heap.size) w0 wc s r m m := by
  obtain ⟨bw, bm, R, D, hb, q, so⟩ := h
  exact ⟨bw, bm, R, D, hb, fun k h => h⟩
theorem LSt.ge (h : LSt w0 wc s r m) : w0.heap.size ≤ s := by obtain ⟨_, _, _, _, _, h, _⟩ := h; exact h
theorem LG.st (h : LG (fun k => k < w0.heap.size) w0 wc s r m m) (so : Sound m.L) (hs : w0.heap.size ≤ s) : LSt w0 wc s r m := by
  obtain ⟨bw, bm, R, D, hb, _⟩ := h
  exact ⟨bw, bm, R, D, hb, hs, so⟩
theorem LG.stays (h : LG X w0 wc s r mp mr) : Below w0.heap.size w0 wc := by obtain ⟨_, _, _, _, h, _⟩ := h; exact h
theorem LG.goodp (h : LG X w0 wc s r mp mr) : Good mp := by obtain ⟨_, _, _, ⟨_, _, P, _⟩, _⟩ := h; exact P.good
theorem LG.more (h : LG X w0 wc s r mp mr) (hb : Below wc.heap.size wc w') (hy : ∀ k, Y k → X k ∨ (wc.heap.size ≤ k ∧ k < w'.heap.size)) (hz : ∀ k, k < w0.heap.size → Y k) : LG Y w0 w' s r mp mr := by
  obtain ⟨bw, bm, R, D, k, q⟩ := h
  exact ⟨bw, bm, R, D.more hb hy, k.trans (hb.mono k.size), hz⟩
theorem LG.below (h : LG X w0 wc s r mp mr) (hb : Below wc.heap.size wc w') : LG X w0 w' s r mp mr := by
  obtain ⟨bw, bm, R, D, k, q⟩ := h
  exact ⟨bw, bm, R, D.below hb, k.trans (hb.mono k.size), q⟩
theorem LG.drewN (h : LG X w0 wc s r mp mr) (n : Nat) : LG X w0 (wc.drewN n) s r mp mr := h.below (below_drewN (Below.refl _ _) n)
theorem LG.drew (h : LG X w0 wc s r mp mr) : LG X w0 wc.drew s r mp mr := h.below (Below.drew (Below.refl _ _))
theorem LG.lt (h : LG X w0 wc s r mp mr) {k : Nat} (hk : X k) : k < wc.heap.size := by obtain ⟨_, _, _, ⟨_, _, _, _, _, q⟩, _⟩ := h; exact (q k hk).2.2
/-- a world whose cells are the same -/
theorem heap_cell {w w' : World} (h : w'.heap = w.heap) (a : Addr) : w'.cell? a = w.cell? a := by unfold World.cell?; rw [h]

theorem g_is (h : LG X w0 wc s r mp mr) (a : Int) : Calls Try.prog 14 #[.pointer (some ⟨s, 0, none⟩), .int .i64 a] wc fun e w' => e = .returned (.bool (isV mp.L a)) ∧ LG X w0 w' s r mp mr ∧ w'.heap = wc.heap := by
  obtain ⟨bw, bm, R, ⟨lv, fv, P, _⟩, _⟩ := id h
  refine (is_any P a).mono ?_
  rintro e w' ⟨rfl, n, rfl⟩
  exact ⟨rfl, h.drewN n, rfl⟩

theorem g_may (h : LG X w0 wc s r mp mr) (a : Int) : Calls Try.prog 16 #[.pointer (some ⟨s, 0, none⟩), .int .i64 a] wc fun e w' => e = .returned (.bool (mayV mp.L a)) ∧ LG X w0 w' s r mp mr ∧ w'.heap = wc.heap := by
  obtain ⟨bw, bm, R, ⟨lv, fv, P, _⟩, _⟩ := id h
  refine (may_any P a).mono ?_
  rintro e w' ⟨rfl, n, rfl⟩
  exact ⟨rfl, h.drewN n, rfl⟩

theorem g_class (h : LG X w0 wc s r mp mr) (a : Int) : Calls Try.prog 18 #[.pointer (some ⟨s, 0, none⟩), .int .i64 a] wc fun e w' => e = .returned (.int .i64 (lookO mp.L a).cls) ∧ LG X w0 w' s r mp mr ∧ w'.heap = wc.heap := by
  obtain ⟨bw, bm, R, ⟨lv, fv, P, _⟩, _⟩ := id h
  refine (class_any P a).mono ?_
  rintro e w' ⟨rfl, n, rfl⟩
  exact ⟨rfl, h.drewN n, rfl⟩

theorem g_format (h : LG X w0 wc s r mp mr) (a : Int) : Calls Try.prog 19 #[.pointer (some ⟨s, 0, none⟩), .int .i64 a] wc fun e w' => e = .returned (.int .i64 (lookO mp.L a).fmt) ∧ LG X w0 w' s r mp mr ∧ w'.heap = wc.heap := by
  obtain ⟨bw, bm, R, ⟨lv, fv, P, _⟩, _⟩ := id h
  refine (format_any P a).mono ?_
  rintro e w' ⟨rfl, n, rfl⟩
  exact ⟨rfl, h.drewN n, rfl⟩

theorem g_hash (h : LG X w0 wc s r mp mr) (a : Int) : Calls Try.prog 20 #[.pointer (some ⟨s, 0, none⟩), .int .i64 a] wc fun e w' => e = .returned (.int .i64 (lookO mp.L a).hash) ∧ LG X w0 w' s r mp mr ∧ w'.heap = wc.heap := by
  obtain ⟨bw, bm, R, ⟨lv, fv, P, _⟩, _⟩ := id h
  refine (hash_any P a).mono ?_
  rintro e w' ⟨rfl, n, rfl⟩
  exact ⟨rfl, h.drewN n, rfl⟩

theorem g_fields (h : LG X w0 wc s r mp mr) (a : Int) : Calls Try.prog 21 #[.pointer (some ⟨s, 0, none⟩), .int .i64 a] wc fun e w' => e = .returned (.int .i64 ((lookO mp.L a).F.length : Int)) ∧ LG X w0 w' s r mp mr ∧ w'.heap = wc.heap := by
  obtain ⟨bw, bm, R, ⟨lv, fv, P, _⟩, _⟩ := id h
  refine (fields_any P a).mono ?_
  rintro e w' ⟨rfl, n, rfl⟩
  exact ⟨rfl, h.drewN n, rfl⟩

theorem g_ris (h : LG X w0 wc s r mp mr) (a : Int) : Calls Try.prog 15 #[.pointer (some ⟨r, 0, none⟩), .int .i64 a] wc fun e w' => e = .returned (.bool (isV mr.L a)) ∧ w' = wc := by
  obtain ⟨bw, bm, R, ⟨lv, fv, P, Q, _⟩, _⟩ := id h
  exact ris_any Q a

theorem g_rmay (h : LG X w0 wc s r mp mr) (a : Int) : Calls Try.prog 17 #[.pointer (some ⟨r, 0, none⟩), .int .i64 a] wc fun e w' => e = .returned (.bool (mayV mr.L a)) ∧ w' = wc := by
  obtain ⟨bw, bm, R, ⟨lv, fv, P, Q, _⟩, _⟩ := id h
  exact rmay_any Q a

theorem g_room (h : LG X w0 wc s r mp mr) : Calls Try.prog 25 #[.pointer (some ⟨s, 0, none⟩)] wc fun e w' => e = .returned (.int .i64 ((mp.size : Int) - (adr mp.L mp.L.length : Int))) ∧ LG X w0 w' s r mp mr ∧ w'.heap = wc.heap := by
  obtain ⟨bw, bm, R, ⟨lv, fv, P, _⟩, _⟩ := id h
  refine (room_any P).mono ?_
  rintro e w' ⟨rfl, n, rfl⟩
  exact ⟨rfl, h.drewN n, rfl⟩
theorem g_made (h : LG X w0 wc s r mp mr) : Calls Try.prog 35 #[.pointer (some ⟨s, 0, none⟩)] wc fun e w' => e = .returned (.int .i64 (mp.made : Int)) ∧ w' = wc := by
  obtain ⟨bw, bm, R, ⟨lv, fv, P, _⟩, _⟩ := id h
  exact made_any P
theorem g_get (h : LG X w0 wc s r mp mr) (a i : Int) (hi : InI i) : Calls Try.prog 24 #[.pointer (some ⟨s, 0, none⟩), .int .i64 a, .int .i64 i] wc fun e w' => e = .returned (.tuple #[.int .i64 (getV mp.L a i).1, .int .i64 (getV mp.L a i).2]) ∧ LG X w0 w' s r mp mr ∧ w'.heap = wc.heap := by
  obtain ⟨bw, bm, R, ⟨lv, fv, P, _⟩, _⟩ := id h
  refine (get_any P a i hi).mono ?_
  rintro e w' ⟨rfl, n, rfl⟩
  exact ⟨rfl, h.drewN n, rfl⟩
theorem g_look (h : LG X w0 wc s r mp mr) (a : Int) : Calls Try.prog 13 #[.pointer (some ⟨r, 0, none⟩), .int .i64 a] wc fun e w' => ∃ x0 x1 x2 FA nf fc, e = .returned (.agg #[.int .i64 x0, .int .i64 x1, .int .i64 x2, .slice FA nf fc]) ∧ (lookO mr.L a).cls = x0 ∧ (lookO mr.L a).fmt = x1 ∧ (lookO mr.L a).hash = x2 ∧ (lookO mr.L a).F.length = nf ∧ LG X w0 w' s r mp mr := by
  obtain ⟨bw, bm, R, ⟨lv, fv, P, Q, _⟩, _⟩ := id h
  refine (rlook_any Q a).mono ?_
  rintro e w' ⟨rfl, hb⟩
  unfold lookV
  cases hp : plc mr.L a with
  | none =>
    have hl : lookO mr.L a = zeroO := by unfold lookO; rw [hp]
    exact ⟨_, _, _, _, _, _, rfl, by rw [hl]; rfl, by rw [hl]; rfl, by rw [hl]; rfl, by rw [hl]; rfl, h.below hb⟩
  | some i =>
    obtain ⟨hi, _⟩ := plc_some hp
    have hl : lookO mr.L a = mr.L.getD i zeroO := by unfold lookO; rw [hp]
    obtain ⟨FA, fc, hfv, _, _⟩ := Q.field hi
    have hg : mr.L.getD i zeroO = mr.L[i] := by simp [List.getD_eq_getElem?_getD, List.getElem?_eq_getElem hi]
    refine ⟨(mr.L.getD i zeroO).cls, (mr.L.getD i zeroO).fmt, (mr.L.getD i zeroO).hash, FA, mr.L[i].F.length, fc, by rw [← hfv], by rw [hl], by rw [hl], by rw [hl], by rw [hl, hg], h.below hb⟩
theorem g_objects (h : LG X w0 wc s r mp mr) {n : Nat} (hn : (ptrs mp.L).length = n) : Calls Try.prog 23 #[.pointer (some ⟨s, 0, none⟩)] wc fun e w' => ∃ A c, e = .returned (.slice A n c) ∧ Ints w' wc.heap.size (.slice A n c) (ptrs mp.L) ∧ Nums w' A (ptrs mp.L) ∧ Below wc.heap.size wc w' ∧ LG X w0 w' s r mp mr := by
  obtain ⟨bw, bm, R, ⟨lv, fv, P, _⟩, _⟩ := id h
  refine (objects_any P).mono ?_
  rintro e w' ⟨v, rfl, hv, hb⟩
  obtain ⟨A1, c1, rfl, hc1, hn1, hl1, hm1, hob1⟩ := hv.nums
  rw [hn] at hv ⊢
  exact ⟨A1, c1, rfl, hv, hn1, hb, h.below hb⟩
theorem g_put (h : LG X w0 wc s r mp mr) (a i x : Int) (hi : InI i) (hx : InI x) : Calls Try.prog 28 #[.pointer (some ⟨s, 0, none⟩), .int .i64 a, .int .i64 i, .int .i64 x] wc fun e w' => e = .returned (.int .i64 (putV mp a i x).2) ∧ LG X w0 w' s r (putV mp a i x).1 mr ∧ Keeps X wc w' := by
  obtain ⟨bw, bm, R, D, hb, q⟩ := h
  refine (d_put D a i x hi hx).mono ?_
  rintro e w' ⟨rfl, D', K'⟩
  exact ⟨rfl, ⟨bw, bm, R, D', hb.trans (K'.below (fun k hk => q k hk) hb.size), q⟩, K'⟩
theorem g_rput (h : LG X w0 wc s r mp mr) (a i x : Int) (hi : InI i) (hx : InI x) : Calls Try.prog 29 #[.pointer (some ⟨r, 0, none⟩), .int .i64 a, .int .i64 i, .int .i64 x] wc fun e w' => e = .returned (.int .i64 (putV mr a i x).2) ∧ LG X w0 w' s r mp (putV mr a i x).1 ∧ Keeps X wc w' := by
  obtain ⟨bw, bm, R, D, hb, q⟩ := h
  refine (dr_put D a i x hi hx).mono ?_
  rintro e w' ⟨rfl, D', K'⟩
  exact ⟨rfl, ⟨bw, bm, R, D', hb.trans (K'.below (fun k hk => q k hk) hb.size), q⟩, K'⟩
theorem g_turn (h : LG X w0 wc s r mp mr) {A B : Option Addr} {fr tl : List Int} {ca cb : Nat} (hA : Nums wc A fr) (hB : Nums wc B tl) (hfI : ∀ x, x ∈ fr → InI x) (hla : fr.length ≤ ca) (hca : ca ≤ maxLen) (hlb : tl.length ≤ cb) (hcb : cb ≤ maxLen) : Calls Try.prog 30 #[.pointer (some ⟨s, 0, none⟩), .slice A fr.length ca, .slice B tl.length cb] wc fun e w' => e = .returned (.int .i64 (turnV mp fr tl).2) ∧ LG X w0 w' s r (turnV mp fr tl).1 mr ∧ Keeps X wc w' := by
  obtain ⟨bw, bm, R, D, hb, q⟩ := h
  refine (d_turn D hA hB hfI hla hca hlb hcb).mono ?_
  rintro e w' ⟨rfl, D', K'⟩
  exact ⟨rfl, ⟨bw, bm, R, D', hb.trans (K'.below (fun k hk => q k hk) hb.size), q⟩, K'⟩
theorem g_like (h : LG X w0 wc s r m m) : Calls Try.prog 26 #[.pointer (some ⟨s, 0, none⟩), .pointer (some ⟨r, 0, none⟩)] wc fun e w' => e = .returned (.bool true) ∧ LG X w0 w' s r m m ∧ Below wc.heap.size wc w' := by
  obtain ⟨bw, bm, R, D, hb, q⟩ := id h
  refine (like_any D).mono ?_
  rintro e w' ⟨rfl, hb'⟩
  exact ⟨rfl, h.below hb', hb'⟩
/-- the program's Keep: the answer and the list that was handed in lie off the memory -/
theorem g_keep (h : LG X w0 wc s r mp mr) {A : Option Addr} {l : List Int} {ca : Nat} (hA : Nums wc A l) (hlI : ∀ x, x ∈ l → InI x) (hln : l.length ≤ 1000000) (hd : ∀ b off, A = some ⟨b, off, none⟩ → X b) :
    Calls Try.prog 32 #[.pointer (some ⟨s, 0, none⟩), .slice A l.length ca] wc fun e w' => ∃ A4 c4, e = .returned (.tuple #[.slice A4 (keepV mp l).2.1.length c4, .int .i64 (keepV mp l).2.2]) ∧ Ints w' wc.heap.size (.slice A4 (keepV mp l).2.1.length c4) (keepV mp l).2.1 ∧ Nums w' A4 (keepV mp l).2.1 ∧ LG (fun k => X k ∨ A4.map (·.block) = some k) w0 w' s r (keepV mp l).1 mr ∧ Keeps X wc w' := by
  obtain ⟨bw, bm, R, D, hb, q⟩ := h
  obtain ⟨lv, fv, P, Q, h1, h2⟩ := id D
  have hs1 : s < wc.heap.size := cell_lt P.c0
  have hs2 : bw < wc.heap.size := cell_lt (P.low (k := 0) (by decide))
  refine (d_keep D hA hlI hln (fun b off e => ?_)).mono ?_
  · have := (h2 b (hd b off e)).1
    exact ⟨fun z => this (.inl z), fun z => this (.inr (.inl z))⟩
  · rintro e w' ⟨v, bm', rfl, hi, D', K'⟩
    obtain ⟨A4, c4, rfl, hc, hn, hl, hm, hob⟩ := hi.nums
    refine ⟨A4, c4, rfl, hi, hn, ⟨bw, bm', R, (D'.answer hi (fun k hk => Q.lt k hk) ⟨hs1, hs2⟩).less (fun k z => z.imp id (fun z => by rw [hob]; exact z)), hb.trans (K'.below (fun k hk => q k hk) hb.size), fun k hk => .inl (q k hk)⟩, K'⟩
theorem g_keep' (h : LG X w0 wc s r mp mr) {A : Option Addr} {l : List Int} {n ca : Nat} (hn : l.length = n) (hA : Nums wc A l) (hlI : ∀ x, x ∈ l → InI x) (hln : l.length ≤ 1000000) (hd : ∀ b off, A = some ⟨b, off, none⟩ → X b) :
    Calls Try.prog 32 #[.pointer (some ⟨s, 0, none⟩), .slice A n ca] wc fun e w' => ∃ A4 c4, e = .returned (.tuple #[.slice A4 (keepV mp l).2.1.length c4, .int .i64 (keepV mp l).2.2]) ∧ Ints w' wc.heap.size (.slice A4 (keepV mp l).2.1.length c4) (keepV mp l).2.1 ∧ Nums w' A4 (keepV mp l).2.1 ∧ LG (fun k => X k ∨ A4.map (·.block) = some k) w0 w' s r (keepV mp l).1 mr ∧ Keeps X wc w' := by
  subst hn; exact g_keep h hA hlI hln hd
theorem g_turn2 (h : LG X w0 wc s r mp mr) (x y : Int) (hx : InI x) (hy : InI y) : Calls Try.prog 30 #[.pointer (some ⟨s, 0, none⟩), .slice (some ⟨wc.heap.size, 0, none⟩) 2 2, .slice (some ⟨wc.heap.size + 1, 0, none⟩) 2 2] ((wc.alloc (.cells #[.int .i64 x, .int .i64 y] 3)).alloc (.cells #[.int .i64 y, .int .i64 x] 3)) fun e w' => e = .returned (.int .i64 (turnV mp [x, y] [y, x]).2) ∧ LG X w0 w' s r (turnV mp [x, y] [y, x]).1 mr := by
  have hb1 : Below wc.heap.size wc (wc.alloc (.cells #[.int .i64 x, .int .i64 y] 3)) := (Below.refl _ _).alloc (Nat.le_refl _) _
  obtain ⟨w1, hw1⟩ : ∃ w1, wc.alloc (.cells #[.int .i64 x, .int .i64 y] 3) = w1 := ⟨_, rfl⟩
  have o1 : Ints w1 wc.heap.size (.slice (some ⟨wc.heap.size, 0, none⟩) 2 2) [x, y] := by rw [← hw1]; exact World.ownsRow_lit (size := 1) wc #[.int .i64 x, .int .i64 y] 2 (Nat.le_refl _) (by decide) rfl
  have hs1 : w1.heap.size = wc.heap.size + 1 := by rw [← hw1]; simp
  rw [hw1] at hb1 ⊢
  have hb2 : Below w1.heap.size w1 (w1.alloc (.cells #[.int .i64 y, .int .i64 x] 3)) := (Below.refl _ _).alloc (Nat.le_refl _) _
  have o2 : Ints (w1.alloc (.cells #[.int .i64 y, .int .i64 x] 3)) w1.heap.size (.slice (some ⟨w1.heap.size, 0, none⟩) 2 2) [y, x] := World.ownsRow_lit (size := 1) w1 #[.int .i64 y, .int .i64 x] 2 (Nat.le_refl _) (by decide) rfl
  rw [hs1] at o2
  obtain ⟨A, c, hv, _, hn1, _⟩ := o1.nums
  obtain ⟨B, d, hv2, _, hn2, _⟩ := o2.nums
  simp only [Value.slice.injEq] at hv hv2
  obtain ⟨rfl, _, rfl⟩ := hv
  obtain ⟨rfl, _, rfl⟩ := hv2
  refine (g_turn ((h.below hb1).below hb2) (fr := [x, y]) (tl := [y, x]) (hn1.below hb2) hn2 (fun z hz => ?_) (Nat.le_refl _) (show 2 ≤ maxLen by decide) (Nat.le_refl _) (show 2 ≤ maxLen by decide)).mono ?_
  · simp only [List.mem_cons, List.not_mem_nil, or_false] at hz
    rcases hz with rfl | rfl <;> assumption
  · rintro e w' ⟨rfl, h', _⟩
    exact ⟨rfl, h'⟩
end
end Go.Proofs.Ytpifodfckjphiaa
