/- Chapter 04: steps of the laws on both memories. -/
import Derived.Test.YthonodimjglnfaaSI
import Derived.Test.YthonodimjglnfaaSG
namespace Go.Proofs.Ythonodimjglnfaa
open Go.ChangeShapes Go.WideShapes Go.ChangeAt Go.RowKit Go.Deep Go.Joins Go.Maps
set_option linter.unusedVariables false
set_option linter.unusedSimpArgs false
theorem Off.mono {w : World} {T T' : Nat → Prop} {A : Option Addr} {n c : Nat} {l : List Int} (h : Off w T A n c l) (hT : ∀ k, T' k → T k) : Off w T' A n c l := ⟨h.len, h.le, h.cap, h.nums, h.int, fun b off e q => h.off b off e (hT b q)⟩
/-- a list that lies off both memories -/
abbrev Lst (w : World) (X : Nat → Prop) (A : Option Addr) (n c : Nat) (l : List Int) : Prop := Off w (fun k => ¬ X k) A n c l
theorem Lst.keeps {w w' : World} {X : Nat → Prop} {A : Option Addr} {n c : Nat} {l : List Int} (h : Lst w X A n c l) (ht : Keeps X w w') : Lst w' X A n c l := Off.turns h ht
theorem Lst.grow {w : World} {X X' : Nat → Prop} {A : Option Addr} {n c : Nat} {l : List Int} (h : Lst w X A n c l) (hX : ∀ k, X k → X' k) : Lst w X' A n c l := Off.mono h (fun k q z => q (hX k z))
theorem same_lst {w : World} {X Y : Nat → Prop} {A B : Option Addr} {n c d : Nat} {l : List Int} (hA : Lst w X A n c l) (hB : Lst w Y B n d l) : Calls Try.prog 13 #[.slice A n c, .slice B n d] w fun e w' => e = .returned (.bool true) ∧ Below w.heap.size w w' := by
  have e := hA.len
  subst e
  exact same_any hA.nums hB.nums (Nat.le_trans hA.le hA.cap)
section
variable {X Y : Nat → Prop} {w0 wc w' : World} {s r : Nat} {m mp mr : Hp}
/-- new blocks join what is kept -/
def moreX (X : Nat → Prop) (a b : Nat) : Nat → Prop := fun k => X k ∨ (a ≤ k ∧ k < b)
theorem LG.goodr (h : LG X w0 wc s r mp mr) : Good mr := by obtain ⟨_, _, _, ⟨_, _, _, Q, _⟩, _⟩ := h; exact Q.good
theorem LG.grow (h : LG X w0 wc s r mp mr) (hb : Below wc.heap.size wc w') : LG (moreX X wc.heap.size w'.heap.size) w0 w' s r mp mr := by
  have h' := h
  obtain ⟨_, _, _, _, _, q⟩ := h'
  exact h.more hb (fun k z => z) (fun k z => .inl (q k z))
theorem ints_lst {v : Value} {l : List Int} (hv : Ints w' wc.heap.size v l) (hI : ∀ x, x ∈ l → InI x) : ∃ A c, v = .slice A l.length c ∧ Lst w' (moreX X wc.heap.size w'.heap.size) A l.length c l := by
  obtain ⟨A, c, rfl, hc, hn, hl, hm, hob⟩ := hv.nums
  refine ⟨A, c, rfl, rfl, hc, hm, hn, hI, fun b off e q => q (.inr ⟨(hl b off e).1, (World.ownsRow.lt hv b ?_).2⟩)⟩
  rw [hob, e]; rfl
theorem g_robjects (h : LG X w0 wc s r mp mr) {n : Nat} (hn : (ptrs mr.L).length = n) : Calls Try.prog 12 #[.pointer (some ⟨r, 0, none⟩)] wc fun e w' => ∃ A c X', (∀ k, X k → X' k) ∧ e = .returned (.slice A n c) ∧ Lst w' X' A n c (ptrs mr.L) ∧ LG X' w0 w' s r mp mr ∧ Below wc.heap.size wc w' := by
  obtain ⟨bw, bm, R, ⟨lv, fv, P, Q, _⟩, _⟩ := id h
  refine (robjects_any Q).mono ?_
  rintro e w' ⟨v, rfl, hv, hb⟩
  obtain ⟨A, c, rfl, hL⟩ := ints_lst (X := X) hv (ptrs_in Q.good)
  rw [hn] at hL ⊢
  exact ⟨A, c, _, fun k z => .inl z, rfl, hL, h.grow hb, hb⟩
theorem g_pobjects (h : LG X w0 wc s r mp mr) {n : Nat} (hn : (ptrs mp.L).length = n) : Calls Try.prog 22 #[.pointer (some ⟨s, 0, none⟩)] wc fun e w' => ∃ A c X', (∀ k, X k → X' k) ∧ e = .returned (.slice A n c) ∧ Lst w' X' A n c (ptrs mp.L) ∧ LG X' w0 w' s r mp mr ∧ Below wc.heap.size wc w' := by
  obtain ⟨bw, bm, R, ⟨lv, fv, P, Q, _⟩, _⟩ := id h
  refine (objects_any P).mono ?_
  rintro e w' ⟨v, rfl, hv, hb⟩
  obtain ⟨A, c, rfl, hL⟩ := ints_lst (X := X) hv (ptrs_in P.good)
  rw [hn] at hL ⊢
  exact ⟨A, c, _, fun k z => .inl z, rfl, hL, h.grow hb, hb⟩
theorem g_roots (h : LG X w0 wc s r mp mr) {A B : Option Addr} {o js : List Int} {pn n c d nn : Nat} (hO : Lst wc X A pn c o) (hob : pn ≤ 1000000) (hj : RawN w0 B n d js) (hnn : (allV o js).length = nn) :
    Calls Try.prog 19 #[.slice A pn c, .slice B n d] wc fun e w' => ∃ C k X', (∀ k, X k → X' k) ∧ e = .returned (.slice C nn k) ∧ Lst w' X' C nn k (allV o js) ∧ Fm C nn k ∧ LG X' w0 w' s r mp mr ∧ Below wc.heap.size wc w' := by
  have e1 := hO.len
  have e2 := hj.len
  have hj' := hj.below h.stays
  subst e1
  subst e2
  refine (all_any hO.nums hj'.nums hob (Nat.le_trans hj.le hj.cap) hj.int).mono ?_
  rintro e w' ⟨v, rfl, hnil, hv, hb⟩
  obtain ⟨C, k, rfl, hL⟩ := ints_lst (X := X) hv (allV_in hO.int hj.int)
  rw [hnn] at hL ⊢
  refine ⟨C, k, _, fun k z => .inl z, rfl, hL, ?_, h.grow hb, hb⟩
  rcases Nat.eq_zero_or_pos nn with z | z
  · have := hnil (List.length_eq_zero_iff.1 (by rw [hnn]; exact z))
    rw [hnn] at this
    cases this
    exact .inl ⟨rfl, z, rfl⟩
  · exact .inr z
theorem g_like' (h : LG X w0 wc s r m m) : Calls Try.prog 27 #[.pointer (some ⟨s, 0, none⟩), .pointer (some ⟨r, 0, none⟩)] wc fun e w' => e = .returned (.bool true) ∧ LG X w0 w' s r m m ∧ Below wc.heap.size wc w' := g_like h
theorem g_both (h : LG X w0 wc s r mp mr) {A B E : Option Addr} {a b rs : List Int} {na nb nr ca cb ce nn : Nat} (hA : Lst wc X A na ca a) (hB : Lst wc X B nb cb b) (hR : Lst wc X E nr ce rs) (fA : Fm A na ca) (fB : Fm B nb cb) (fR : Fm E nr ce) (ba : na ≤ 1000000) (bb : nb ≤ 1000000) (br : nr ≤ 1000000) (hI : ∀ x, x ∈ (bothV mp a b rs).2.1 → InI x) (hnn : (bothV mp a b rs).2.1.length = nn) :
    Calls Try.prog 20 #[.pointer (some ⟨s, 0, none⟩), .slice A na ca, .slice B nb cb, .slice E nr ce] wc fun e w' => ∃ C k X', (∀ k, X k → X' k) ∧ e = .returned (.tuple #[.slice C nn k, .int .i64 (bothV mp a b rs).2.2]) ∧ Lst w' X' C nn k (bothV mp a b rs).2.1 ∧ Fm C nn k ∧ LG X' w0 w' s r (bothV mp a b rs).1 mr ∧ Keeps X wc w' := by
  obtain ⟨bw, bm, R, D, hb, q⟩ := h
  obtain ⟨lv, fv, P, Q, h1, h2⟩ := id D
  have hoff : ∀ k, pset s bw bm k → ¬ X k := fun k hk hx => (h2 k hx).1 hk
  refine (both_any P (Off.mono hA hoff) (Off.mono hB hoff) (Off.mono hR hoff) fA fB fR ba bb br).mono ?_
  rintro e w' ⟨v, rfl, hni, hi, hP, ht⟩
  obtain ⟨D', K'⟩ := D.goP hP ht
  obtain ⟨C, k, rfl, hL⟩ := ints_lst (X := X) hi hI
  rw [hnn] at hL hni ⊢
  have hfm : Fm C nn k := by
    rcases Nat.eq_zero_or_pos nn with z | z
    · have := hni (List.length_eq_zero_iff.1 (by rw [hnn]; exact z))
      cases this
      exact .inl ⟨rfl, z, rfl⟩
    · exact .inr z
  refine ⟨C, k, moreX X wc.heap.size w'.heap.size, fun k z => .inl z, rfl, hL, hfm, ⟨bw, bm, R, ?_, hb.trans (K'.below (fun k hk => q k hk) hb.size), fun k z => .inl (q k z)⟩, K'⟩
  obtain ⟨lv', fv', P', Q', g1, g2⟩ := D'
  refine ⟨lv', fv', P', Q', g1, fun k hk => ?_⟩
  rcases hk with z | ⟨z, z2⟩
  · exact g2 k z
  · exact ⟨fun u => absurd (P.lt k u) (by omega), fun u => absurd (Q.lt k u) (by omega), z2⟩
theorem gr_both (h : LG X w0 wc s r mp mr) {A B E : Option Addr} {a b rs : List Int} {na nb nr ca cb ce nn : Nat} (hA : Lst wc X A na ca a) (hB : Lst wc X B nb cb b) (hR : Lst wc X E nr ce rs) (fA : Fm A na ca) (fB : Fm B nb cb) (ba : na ≤ 1000000) (bb : nb ≤ 1000000) (br : nr ≤ 1000000) (hnn : (bothV mr a b rs).2.1.length = nn) :
    Calls Try.prog 26 #[.pointer (some ⟨r, 0, none⟩), .slice A na ca, .slice B nb cb, .slice E nr ce] wc fun e w' => ∃ C k, e = .returned (.tuple #[.slice C nn k, .int .i64 (bothV mr a b rs).2.2]) ∧ Nums w' C (bothV mr a b rs).2.1 ∧ LG X w0 w' s r mp (bothV mr a b rs).1 ∧ Keeps X wc w' := by
  obtain ⟨bw, bm, R, D, hb, q⟩ := h
  obtain ⟨lv, fv, P, Q, h1, h2⟩ := id D
  have hoff : ∀ k, R k → ¬ X k := fun k hk hx => (h2 k hx).2.1 hk
  refine (rboth_any Q (Off.mono hA hoff) (Off.mono hB hoff) (Off.mono hR hoff) fA fB ba bb br).mono ?_
  rintro e w' ⟨v, rfl, hi, hQ⟩
  obtain ⟨R', D', K'⟩ := D.goR hQ
  obtain ⟨C, k, rfl, hc, hn, hl, hm, hob⟩ := hi.nums
  rw [hnn]
  exact ⟨C, k, rfl, hn, ⟨bw, bm, R', D', hb.trans (K'.below (fun k hk => q k hk) hb.size), q⟩, K'⟩
theorem g_one (h : LG X w0 wc s r mp mr) {A B E : Option Addr} {a b rs : List Int} {na nb nr ca cb ce nn : Nat} (hA : Lst wc X A na ca a) (hB : Lst wc X B nb cb b) (hR : Lst wc X E nr ce rs) (fR : Fm E nr ce) (ba : na ≤ 1000000) (bb : nb ≤ 1000000) (br : nr ≤ 1000000) (hI : ∀ x, x ∈ (oneV mp a b rs).2.1 → InI x) (hnn : (oneV mp a b rs).2.1.length = nn) :
    Calls Try.prog 21 #[.pointer (some ⟨s, 0, none⟩), .slice A na ca, .slice B nb cb, .slice E nr ce] wc fun e w' => ∃ C k X', (∀ k, X k → X' k) ∧ e = .returned (.tuple #[.slice C nn k, .int .i64 (oneV mp a b rs).2.2]) ∧ Lst w' X' C nn k (oneV mp a b rs).2.1 ∧ Fm C nn k ∧ LG X' w0 w' s r (oneV mp a b rs).1 mr ∧ Keeps X wc w' := by
  obtain ⟨bw, bm, R, D, hb, q⟩ := h
  obtain ⟨lv, fv, P, Q, h1, h2⟩ := id D
  have hoff : ∀ k, pset s bw bm k → ¬ X k := fun k hk hx => (h2 k hx).1 hk
  refine (one_any P (Off.mono hA hoff) (Off.mono hB hoff) (Off.mono hR hoff) fR ba bb br).mono ?_
  rintro e w' ⟨v, rfl, hni, hi, hP, ht⟩
  obtain ⟨D', K'⟩ := D.goP hP ht
  obtain ⟨C, k, rfl, hL⟩ := ints_lst (X := X) hi hI
  rw [hnn] at hL hni ⊢
  have hfm : Fm C nn k := by
    rcases Nat.eq_zero_or_pos nn with z | z
    · have := hni (List.length_eq_zero_iff.1 (by rw [hnn]; exact z))
      cases this
      exact .inl ⟨rfl, z, rfl⟩
    · exact .inr z
  refine ⟨C, k, moreX X wc.heap.size w'.heap.size, fun k z => .inl z, rfl, hL, hfm, ⟨bw, bm, R, ?_, hb.trans (K'.below (fun k hk => q k hk) hb.size), fun k z => .inl (q k z)⟩, K'⟩
  obtain ⟨lv', fv', P', Q', g1, g2⟩ := D'
  refine ⟨lv', fv', P', Q', g1, fun k hk => ?_⟩
  rcases hk with z | ⟨z, z2⟩
  · exact g2 k z
  · exact ⟨fun u => absurd (P.lt k u) (by omega), fun u => absurd (Q.lt k u) (by omega), z2⟩
theorem gr_one (h : LG X w0 wc s r mp mr) {A B E : Option Addr} {a b rs : List Int} {na nb nr ca cb ce nn : Nat} (hA : Lst wc X A na ca a) (hB : Lst wc X B nb cb b) (hR : Lst wc X E nr ce rs)  (ba : na ≤ 1000000) (bb : nb ≤ 1000000) (br : nr ≤ 1000000) (hnn : (oneV mr a b rs).2.1.length = nn) :
    Calls Try.prog 28 #[.pointer (some ⟨r, 0, none⟩), .slice A na ca, .slice B nb cb, .slice E nr ce] wc fun e w' => ∃ C k, e = .returned (.tuple #[.slice C nn k, .int .i64 (oneV mr a b rs).2.2]) ∧ Nums w' C (oneV mr a b rs).2.1 ∧ LG X w0 w' s r mp (oneV mr a b rs).1 ∧ Keeps X wc w' := by
  obtain ⟨bw, bm, R, D, hb, q⟩ := h
  obtain ⟨lv, fv, P, Q, h1, h2⟩ := id D
  have hoff : ∀ k, R k → ¬ X k := fun k hk hx => (h2 k hx).2.1 hk
  refine (rone_any Q (Off.mono hA hoff) (Off.mono hB hoff) (Off.mono hR hoff) ba bb br).mono ?_
  rintro e w' ⟨v, rfl, hi, hQ⟩
  obtain ⟨R', D', K'⟩ := D.goR hQ
  obtain ⟨C, k, rfl, hc, hn, hl, hm, hob⟩ := hi.nums
  rw [hnn]
  exact ⟨C, k, rfl, hn, ⟨bw, bm, R', D', hb.trans (K'.below (fun k hk => q k hk) hb.size), q⟩, K'⟩
theorem g_of (h : LG X w0 wc s r mp mr) (c : Int) {nn : Nat} (hnn : (ofV mp c).length = nn) : Calls Try.prog 14 #[.pointer (some ⟨s, 0, none⟩), .int .i64 c] wc fun e w' => ∃ C k X', (∀ k, X k → X' k) ∧ e = .returned (.slice C nn k) ∧ Lst w' X' C nn k (ofV mp c) ∧ LG X' w0 w' s r mp mr ∧ Below wc.heap.size wc w' := by
  obtain ⟨bw, bm, R, ⟨lv, fv, P, Q, _⟩, _⟩ := id h
  refine (of_any P c).mono ?_
  rintro e w' ⟨v, rfl, hv, hb⟩
  have hI : ∀ x, x ∈ (ofV mp c) → InI x := fun x hx => ptrs_in h.goodp x ((List.mem_filter.1 hx).1)
  obtain ⟨C, k, rfl, hL⟩ := ints_lst (X := X) hv hI
  rw [hnn] at hL ⊢
  exact ⟨C, k, _, fun k z => .inl z, rfl, hL, h.grow hb, hb⟩
theorem gr_of (h : LG X w0 wc s r mp mr) (c : Int) {nn : Nat} (hnn : (ofV mr c).length = nn) : Calls Try.prog 15 #[.pointer (some ⟨r, 0, none⟩), .int .i64 c] wc fun e w' => ∃ C k X', (∀ k, X k → X' k) ∧ e = .returned (.slice C nn k) ∧ Lst w' X' C nn k (ofV mr c) ∧ LG X' w0 w' s r mp mr ∧ Below wc.heap.size wc w' := by
  obtain ⟨bw, bm, R, ⟨lv, fv, P, Q, _⟩, _⟩ := id h
  refine (rof_any Q c).mono ?_
  rintro e w' ⟨v, rfl, hv, hb⟩
  have hI : ∀ x, x ∈ (ofV mr c) → InI x := fun x hx => ptrs_in h.goodr x ((List.mem_filter.1 hx).1)
  obtain ⟨C, k, rfl, hL⟩ := ints_lst (X := X) hv hI
  rw [hnn] at hL ⊢
  exact ⟨C, k, _, fun k z => .inl z, rfl, hL, h.grow hb, hb⟩
theorem g_pt (h : LG X w0 wc s r mp mr) (c : Int) {nn : Nat} (hnn : ((if isV mp.L c = true then (ptrs mp.L).filter (ptP mp c) else [])).length = nn) : Calls Try.prog 16 #[.pointer (some ⟨s, 0, none⟩), .int .i64 c] wc fun e w' => ∃ C k X', (∀ k, X k → X' k) ∧ e = .returned (.slice C nn k) ∧ Lst w' X' C nn k ((if isV mp.L c = true then (ptrs mp.L).filter (ptP mp c) else [])) ∧ LG X' w0 w' s r mp mr ∧ Below wc.heap.size wc w' := by
  obtain ⟨bw, bm, R, ⟨lv, fv, P, Q, _⟩, _⟩ := id h
  refine (pt_any P c).mono ?_
  rintro e w' ⟨v, rfl, hv, hb⟩
  have hI : ∀ x, x ∈ ((if isV mp.L c = true then (ptrs mp.L).filter (ptP mp c) else [])) → InI x := fun x hx => by
    split at hx
    · exact ptrs_in h.goodp x ((List.mem_filter.1 hx).1)
    · cases hx
  obtain ⟨C, k, rfl, hL⟩ := ints_lst (X := X) hv hI
  rw [hnn] at hL ⊢
  exact ⟨C, k, _, fun k z => .inl z, rfl, hL, h.grow hb, hb⟩
theorem gr_pt (h : LG X w0 wc s r mp mr) (c : Int) {nn : Nat} (hnn : ((if isV mr.L c = true then (ptrs mr.L).filter (ptP mr c) else [])).length = nn) : Calls Try.prog 17 #[.pointer (some ⟨r, 0, none⟩), .int .i64 c] wc fun e w' => ∃ C k X', (∀ k, X k → X' k) ∧ e = .returned (.slice C nn k) ∧ Lst w' X' C nn k ((if isV mr.L c = true then (ptrs mr.L).filter (ptP mr c) else [])) ∧ LG X' w0 w' s r mp mr ∧ Below wc.heap.size wc w' := by
  obtain ⟨bw, bm, R, ⟨lv, fv, P, Q, _⟩, _⟩ := id h
  refine (rpt_any Q c).mono ?_
  rintro e w' ⟨v, rfl, hv, hb⟩
  have hI : ∀ x, x ∈ ((if isV mr.L c = true then (ptrs mr.L).filter (ptP mr c) else [])) → InI x := fun x hx => by
    split at hx
    · exact ptrs_in h.goodr x ((List.mem_filter.1 hx).1)
    · cases hx
  obtain ⟨C, k, rfl, hL⟩ := ints_lst (X := X) hv hI
  rw [hnn] at hL ⊢
  exact ⟨C, k, _, fun k z => .inl z, rfl, hL, h.grow hb, hb⟩
end
end Go.Proofs.Ythonodimjglnfaa
