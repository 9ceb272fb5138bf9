/- Chapter 02: a deed under way, on both memories. -/
import Derived.Test.YtpifodfckjphiaaLW3
namespace Go.Proofs.Ytpifodfckjphiaa
open Go.ChangeShapes Go.WideShapes Go.ChangeAt Go.RowKit Go.Deep Go.Joins Go.Maps
set_option linter.unusedVariables false
set_option linter.unusedSimpArgs false
/-- what a memory is behind a deed -/
def stepV (m : Hp) (k0 k1 k2 k3 : Int) (la lb : List Int) : Hp :=
  if k0 = 0 then (makeV m (wordV (ptrs m.L) k1) k2 k3).1
  else if k0 = 1 then (putV m (wordV (ptrs m.L) k1) k2 (wordV (ptrs m.L) k3)).1
  else if k0 = 2 then (setClassV m (wordV (ptrs m.L) k1) (wordV (ptrs m.L) k3)).1
  else if k0 = 3 then (setHashV m (wordV (ptrs m.L) k1) k2).1
  else if k0 = 7 then (setMadeV m k2).1
  else if k0 = 4 then (keepV m (allV (ptrs m.L) la)).1
  else if k0 = 5 then (turnV m (allV (ptrs m.L) la) (allV (ptrs m.L) lb)).1
  else m
theorem ptrs_in {m : Hp} (h : Good m) : ∀ x, x ∈ ptrs m.L → InI x := by
  intro x hx
  unfold ptrs at hx
  obtain ⟨i, _, rfl⟩ := List.mem_map.1 hx
  have := ptr_bd h i
  exact inI_of (by omega) (by omega)
theorem word_any' {w : World} {A : Option Addr} {l : List Int} {n c : Nat} (hA : Nums w A l) (hl : l.length = n) (hn : l.length ≤ 1000000) (i : Int) (hi : InI i) :
    Calls Try.prog 27 #[.slice A n c, .int .i64 i] w fun e w' => e = .returned (.int .i64 (wordV l i)) ∧ w' = w := by subst hl; exact word_any hA hn i hi
theorem all_any' {w : World} {A B : Option Addr} {l js : List Int} {n k c d : Nat} (hA : Nums w A l) (hB : Nums w B js) (hl : l.length = n) (hk : js.length = k) (hn : l.length ≤ 1000000) (hm : js.length ≤ maxLen) (hj : ∀ x, x ∈ js → InI x) :
    Calls Try.prog 34 #[.slice A n c, .slice B k d] w fun e w' => ∃ v, e = .returned v ∧ Ints w' w.heap.size v (allV l js) ∧ Below w.heap.size w w' := by subst hl; subst hk; exact all_any hA hB hn hm hj
theorem Nums.keeps {w w' : World} {A : Option Addr} {l : List Int} {Y : Nat → Prop} (h : Nums w A l) (ht : Keeps Y w w') (hd : ∀ b off, A = some ⟨b, off, none⟩ → 0 < l.length → Y b) : Nums w' A l := fun k hk => h.turns ht (fun b off e q => q (hd b off e (by omega))) k hk
/-- a deed under way: both memories off what is looked at, the objects' pointers, the deed's own box and lists -/
def St (X : Nat → Prop) (w wc : World) (s bw r : Nat) (mp mr : Hp) (A1 : Option Addr) (lp : List Int) (A : Option Addr) (la : List Int) (B : Option Addr) (lb : List Int) (bx : Array Value) : Prop :=
  ∃ (Y : Nat → Prop) (bm : Nat) (R : Nat → Prop), (∀ k, X k → Y k) ∧ Y w.heap.size ∧ Duo Y wc s bw bm r R mp mr ∧ Keeps X w wc ∧ Nums wc A1 lp ∧ (∀ b off, A1 = some ⟨b, off, none⟩ → 0 < lp.length → Y b) ∧ wc.heap[w.heap.size]? = some (.cells bx 30 (0, 0)) ∧ Nums wc A la ∧ (∀ b off, A = some ⟨b, off, none⟩ → 0 < la.length → Y b) ∧ Nums wc B lb ∧ (∀ b off, B = some ⟨b, off, none⟩ → 0 < lb.length → Y b)
section
variable {X : Nat → Prop} {w wc w' : World} {s bw bm r : Nat} {R : Nat → Prop} {m mp mr m' : Hp} {A1 A B : Option Addr} {lp la lb : List Int} {bx : Array Value}
theorem St.goal (h : St X w wc s bw r mp mp A1 lp A la B lb bx) : ∃ bm' R', Duo X wc s bw bm' r R' mp mp ∧ Keeps X w wc := by
  obtain ⟨Y, bm, R, y1, y2, D, K, _⟩ := h
  exact ⟨bm, R, D.less y1, K⟩
theorem St.np (h : St X w wc s bw r mp mr A1 lp A la B lb bx) : Nums wc A1 lp := by obtain ⟨Y, bm, R, y1, y2, D, K, h1, h2, h3, h4, h5, h6, h7⟩ := h; exact h1
theorem St.nA (h : St X w wc s bw r mp mr A1 lp A la B lb bx) : Nums wc A la := by obtain ⟨Y, bm, R, y1, y2, D, K, h1, h2, h3, h4, h5, h6, h7⟩ := h; exact h4
theorem St.nB (h : St X w wc s bw r mp mr A1 lp A la B lb bx) : Nums wc B lb := by obtain ⟨Y, bm, R, y1, y2, D, K, h1, h2, h3, h4, h5, h6, h7⟩ := h; exact h6
theorem St.box (h : St X w wc s bw r mp mr A1 lp A la B lb bx) : wc.heap[w.heap.size]? = some (.cells bx 30 (0, 0)) := by obtain ⟨Y, bm, R, y1, y2, D, K, h1, h2, h3, h4, h5, h6, h7⟩ := h; exact h3
theorem St.ptrs (h : St X w wc s bw r mp mr A1 lp A la B lb bx) : ∀ x, x ∈ ptrs mp.L → InI x := by
  obtain ⟨Y, bm, R, y1, y2, ⟨lv, fv, P, _⟩, _⟩ := h
  exact ptrs_in P.good
theorem St.go (h : St X w wc s bw r mp mr A1 lp A la B lb bx) (Y : Nat → Prop) (bm : Nat) (R : Nat → Prop) : True := trivial
theorem St.keep (h : St X w wc s bw r mp mr A1 lp A la B lb bx) (ht : ∀ (Y : Nat → Prop) bm R, Duo Y wc s bw bm r R mp mr → ∃ bm' R', Duo Y w' s bw bm' r R' m m' ∧ Keeps Y wc w') : St X w w' s bw r m m' A1 lp A la B lb bx := by
  obtain ⟨Y, bm, R, y1, y2, D, K, h1, h2, h3, h4, h5, h6, h7⟩ := h
  obtain ⟨bm', R', D', K'⟩ := ht Y bm R D
  have hw : w.heap.size < wc.heap.size := by obtain ⟨_, _, _, _, _, q⟩ := D; exact (q _ y2).2.2
  exact ⟨Y, bm', R', y1, y2, D', K.trans (K'.mono y1), h1.keeps K' h2, h2, (K'.block y2 hw).trans h3, h4.keeps K' h5, h5, h6.keeps K' h7, h7⟩
theorem St.below (h : St X w wc s bw r mp mr A1 lp A la B lb bx) (hb : Below wc.heap.size wc w') : St X w w' s bw r mp mr A1 lp A la B lb bx := h.keep (fun Y bm R D => ⟨bm, R, D.below hb, Keeps.of_below hb⟩)
theorem St.drew (h : St X w wc s bw r mp mr A1 lp A la B lb bx) : St X w wc.drew s bw r mp mr A1 lp A la B lb bx := h.below (Below.drew (Below.refl _ _))
/-- the new blocks are kept too -/
theorem St.more (h : St X w wc s bw r mp mr A1 lp A la B lb bx) {v : Value} {l : List Int} {b0 : Nat} (hv : Ints wc b0 v l) : True := trivial
end
theorem start_st {X : Nat → Prop} {w : World} {s bw bm r : Nat} {R : Nat → Prop} {m : Hp} (D : Duo X w s bw bm r R m m) {A B : Option Addr} {la lb : List Int} (bx : Array Value) (hA : Nums w A la) (hB : Nums w B lb)
    (xA : ∀ b off, A = some ⟨b, off, none⟩ → 0 < la.length → X b) (xB : ∀ b off, B = some ⟨b, off, none⟩ → 0 < lb.length → X b) :
    Calls Try.prog 36 #[.pointer (some ⟨r, 0, none⟩)] (w.alloc (.cells bx 30)) fun e w1 => ∃ A1 c1, e = .returned (.slice A1 (ptrs m.L).length c1) ∧ St X w w1 s bw r m m A1 (ptrs m.L) A la B lb bx := by
  obtain ⟨wB, hwB⟩ : ∃ wB, w.alloc (.cells bx 30) = wB := ⟨_, rfl⟩
  have hbB : Below w.heap.size w wB := by rw [← hwB]; exact (Below.refl _ _).alloc (Nat.le_refl _) _
  have hsB : wB.heap.size = w.heap.size + 1 := by rw [← hwB]; simp
  have hbox : wB.heap[w.heap.size]? = some (.cells bx 30 (0, 0)) := by rw [← hwB]; exact (MapKept.heap_alloc w _).1
  have DB := D.more (Y := fun k => X k ∨ k = w.heap.size) hbB (fun k q => q.elim .inl (fun q => .inr (by omega)))
  obtain ⟨lvB, fvB, PB, QB, _⟩ := id DB
  rw [hwB]
  refine (robjects_any QB).mono ?_
  rintro e w1 ⟨v, rfl, hv, hb1⟩
  obtain ⟨A1, c1, rfl, hc, hn, hl, hm, hob⟩ := hv.nums
  have hs1 := hb1.size
  refine ⟨A1, c1, rfl, fun k => X k ∨ (w.heap.size ≤ k ∧ k < w1.heap.size), bm, R, fun k q => .inl q, .inr ⟨Nat.le_refl _, by omega⟩, D.more (hbB.trans (hb1.mono (by omega))) (fun k q => q), Keeps.of_below (hbB.trans (hb1.mono (by omega))), hn, fun b off e _ => .inr ⟨?_, ?_⟩, (hb1.block _ (by omega)).trans hbox, hA.below (hbB.trans (hb1.mono (by omega))), fun b off e z => .inl (xA b off e z), hB.below (hbB.trans (hb1.mono (by omega))), fun b off e z => .inl (xB b off e z)⟩
  · have := (hl b off e).1
    omega
  · exact (World.ownsRow.lt hv b (by rw [hob, e]; rfl)).2
theorem sp_put {X : Nat → Prop} {w wc : World} {s bw r : Nat} {mp mr : Hp} {A1 A B : Option Addr} {lp la lb : List Int} {bx : Array Value} (h : St X w wc s bw r mp mr A1 lp A la B lb bx) (a i x : Int) (hi : InI i) (hx : InI x) : Calls Try.prog 28 #[.pointer (some ⟨s, 0, none⟩), .int .i64 a, .int .i64 i, .int .i64 x] wc fun e w' => e = .returned (.int .i64 (putV mp a i x).2) ∧ St X w w' s bw r ((putV mp a i x).1) (mr) A1 lp A la B lb bx := by
  obtain ⟨Y, bm, R, y1, y2, D, K, h1, h2, h3, h4, h5, h6, h7⟩ := h
  refine (d_put D a i x hi hx).mono ?_
  rintro e w' ⟨rfl, D', K'⟩
  have hw : w.heap.size < wc.heap.size := by obtain ⟨_, _, _, _, _, q⟩ := D; exact (q _ y2).2.2
  exact ⟨rfl, Y, bm, R, y1, y2, D', K.trans (K'.mono y1), h1.keeps K' h2, h2, (K'.block y2 hw).trans h3, h4.keeps K' h5, h5, h6.keeps K' h7, h7⟩
theorem sr_put {X : Nat → Prop} {w wc : World} {s bw r : Nat} {mp mr : Hp} {A1 A B : Option Addr} {lp la lb : List Int} {bx : Array Value} (h : St X w wc s bw r mp mr A1 lp A la B lb bx) (a i x : Int) (hi : InI i) (hx : InI x) : Calls Try.prog 29 #[.pointer (some ⟨r, 0, none⟩), .int .i64 a, .int .i64 i, .int .i64 x] wc fun e w' => e = .returned (.int .i64 (putV mr a i x).2) ∧ St X w w' s bw r (mp) ((putV mr a i x).1) A1 lp A la B lb bx := by
  obtain ⟨Y, bm, R, y1, y2, D, K, h1, h2, h3, h4, h5, h6, h7⟩ := h
  refine (dr_put D a i x hi hx).mono ?_
  rintro e w' ⟨rfl, D', K'⟩
  have hw : w.heap.size < wc.heap.size := by obtain ⟨_, _, _, _, _, q⟩ := D; exact (q _ y2).2.2
  exact ⟨rfl, Y, bm, R, y1, y2, D', K.trans (K'.mono y1), h1.keeps K' h2, h2, (K'.block y2 hw).trans h3, h4.keeps K' h5, h5, h6.keeps K' h7, h7⟩
theorem sp_setClass {X : Nat → Prop} {w wc : World} {s bw r : Nat} {mp mr : Hp} {A1 A B : Option Addr} {lp la lb : List Int} {bx : Array Value} (h : St X w wc s bw r mp mr A1 lp A la B lb bx) (a c : Int) (hc : InI c) : Calls Try.prog 39 #[.pointer (some ⟨s, 0, none⟩), .int .i64 a, .int .i64 c] wc fun e w' => e = .returned (.int .i64 (setClassV mp a c).2) ∧ St X w w' s bw r ((setClassV mp a c).1) (mr) A1 lp A la B lb bx := by
  obtain ⟨Y, bm, R, y1, y2, D, K, h1, h2, h3, h4, h5, h6, h7⟩ := h
  refine (d_setClass D a c hc).mono ?_
  rintro e w' ⟨rfl, D', K'⟩
  have hw : w.heap.size < wc.heap.size := by obtain ⟨_, _, _, _, _, q⟩ := D; exact (q _ y2).2.2
  exact ⟨rfl, Y, bm, R, y1, y2, D', K.trans (K'.mono y1), h1.keeps K' h2, h2, (K'.block y2 hw).trans h3, h4.keeps K' h5, h5, h6.keeps K' h7, h7⟩
theorem sr_setClass {X : Nat → Prop} {w wc : World} {s bw r : Nat} {mp mr : Hp} {A1 A B : Option Addr} {lp la lb : List Int} {bx : Array Value} (h : St X w wc s bw r mp mr A1 lp A la B lb bx) (a c : Int) (hc : InI c) : Calls Try.prog 40 #[.pointer (some ⟨r, 0, none⟩), .int .i64 a, .int .i64 c] wc fun e w' => e = .returned (.int .i64 (setClassV mr a c).2) ∧ St X w w' s bw r (mp) ((setClassV mr a c).1) A1 lp A la B lb bx := by
  obtain ⟨Y, bm, R, y1, y2, D, K, h1, h2, h3, h4, h5, h6, h7⟩ := h
  refine (dr_setClass D a c hc).mono ?_
  rintro e w' ⟨rfl, D', K'⟩
  have hw : w.heap.size < wc.heap.size := by obtain ⟨_, _, _, _, _, q⟩ := D; exact (q _ y2).2.2
  exact ⟨rfl, Y, bm, R, y1, y2, D', K.trans (K'.mono y1), h1.keeps K' h2, h2, (K'.block y2 hw).trans h3, h4.keeps K' h5, h5, h6.keeps K' h7, h7⟩
theorem sp_setHash {X : Nat → Prop} {w wc : World} {s bw r : Nat} {mp mr : Hp} {A1 A B : Option Addr} {lp la lb : List Int} {bx : Array Value} (h : St X w wc s bw r mp mr A1 lp A la B lb bx) (a x : Int) (hx : InI x) : Calls Try.prog 41 #[.pointer (some ⟨s, 0, none⟩), .int .i64 a, .int .i64 x] wc fun e w' => e = .returned (.int .i64 (setHashV mp a x).2) ∧ St X w w' s bw r ((setHashV mp a x).1) (mr) A1 lp A la B lb bx := by
  obtain ⟨Y, bm, R, y1, y2, D, K, h1, h2, h3, h4, h5, h6, h7⟩ := h
  refine (d_setHash D a x hx).mono ?_
  rintro e w' ⟨rfl, D', K'⟩
  have hw : w.heap.size < wc.heap.size := by obtain ⟨_, _, _, _, _, q⟩ := D; exact (q _ y2).2.2
  exact ⟨rfl, Y, bm, R, y1, y2, D', K.trans (K'.mono y1), h1.keeps K' h2, h2, (K'.block y2 hw).trans h3, h4.keeps K' h5, h5, h6.keeps K' h7, h7⟩
theorem sr_setHash {X : Nat → Prop} {w wc : World} {s bw r : Nat} {mp mr : Hp} {A1 A B : Option Addr} {lp la lb : List Int} {bx : Array Value} (h : St X w wc s bw r mp mr A1 lp A la B lb bx) (a x : Int) (hx : InI x) : Calls Try.prog 42 #[.pointer (some ⟨r, 0, none⟩), .int .i64 a, .int .i64 x] wc fun e w' => e = .returned (.int .i64 (setHashV mr a x).2) ∧ St X w w' s bw r (mp) ((setHashV mr a x).1) A1 lp A la B lb bx := by
  obtain ⟨Y, bm, R, y1, y2, D, K, h1, h2, h3, h4, h5, h6, h7⟩ := h
  refine (dr_setHash D a x hx).mono ?_
  rintro e w' ⟨rfl, D', K'⟩
  have hw : w.heap.size < wc.heap.size := by obtain ⟨_, _, _, _, _, q⟩ := D; exact (q _ y2).2.2
  exact ⟨rfl, Y, bm, R, y1, y2, D', K.trans (K'.mono y1), h1.keeps K' h2, h2, (K'.block y2 hw).trans h3, h4.keeps K' h5, h5, h6.keeps K' h7, h7⟩
theorem sp_setMade {X : Nat → Prop} {w wc : World} {s bw r : Nat} {mp mr : Hp} {A1 A B : Option Addr} {lp la lb : List Int} {bx : Array Value} (h : St X w wc s bw r mp mr A1 lp A la B lb bx) (n : Int) (hn : InI n) : Calls Try.prog 43 #[.pointer (some ⟨s, 0, none⟩), .int .i64 n] wc fun e w' => e = .returned (.int .i64 (setMadeV mp n).2) ∧ St X w w' s bw r ((setMadeV mp n).1) (mr) A1 lp A la B lb bx := by
  obtain ⟨Y, bm, R, y1, y2, D, K, h1, h2, h3, h4, h5, h6, h7⟩ := h
  refine (d_setMade D n hn).mono ?_
  rintro e w' ⟨rfl, D', K'⟩
  have hw : w.heap.size < wc.heap.size := by obtain ⟨_, _, _, _, _, q⟩ := D; exact (q _ y2).2.2
  exact ⟨rfl, Y, bm, R, y1, y2, D', K.trans (K'.mono y1), h1.keeps K' h2, h2, (K'.block y2 hw).trans h3, h4.keeps K' h5, h5, h6.keeps K' h7, h7⟩
theorem sr_setMade {X : Nat → Prop} {w wc : World} {s bw r : Nat} {mp mr : Hp} {A1 A B : Option Addr} {lp la lb : List Int} {bx : Array Value} (h : St X w wc s bw r mp mr A1 lp A la B lb bx) (n : Int) (hn : InI n) : Calls Try.prog 44 #[.pointer (some ⟨r, 0, none⟩), .int .i64 n] wc fun e w' => e = .returned (.int .i64 (setMadeV mr n).2) ∧ St X w w' s bw r (mp) ((setMadeV mr n).1) A1 lp A la B lb bx := by
  obtain ⟨Y, bm, R, y1, y2, D, K, h1, h2, h3, h4, h5, h6, h7⟩ := h
  refine (dr_setMade D n hn).mono ?_
  rintro e w' ⟨rfl, D', K'⟩
  have hw : w.heap.size < wc.heap.size := by obtain ⟨_, _, _, _, _, q⟩ := D; exact (q _ y2).2.2
  exact ⟨rfl, Y, bm, R, y1, y2, D', K.trans (K'.mono y1), h1.keeps K' h2, h2, (K'.block y2 hw).trans h3, h4.keeps K' h5, h5, h6.keeps K' h7, h7⟩
theorem sp_turn {X : Nat → Prop} {w wc : World} {s bw r : Nat} {mp mr : Hp} {A1 A B : Option Addr} {lp la lb : List Int} {bx : Array Value} (h : St X w wc s bw r mp mr A1 lp A la B lb bx) {C D : Option Addr} {fr tl : List Int} {ca cb : Nat} (hC : Nums wc C fr) (hD : Nums wc D tl) (hfI : ∀ x, x ∈ fr → InI x) (hla : fr.length ≤ ca) (hca : ca ≤ maxLen) (hlb : tl.length ≤ cb) (hcb : cb ≤ maxLen) : Calls Try.prog 30 #[.pointer (some ⟨s, 0, none⟩), .slice C fr.length ca, .slice D tl.length cb] wc fun e w' => e = .returned (.int .i64 (turnV mp fr tl).2) ∧ St X w w' s bw r ((turnV mp fr tl).1) (mr) A1 lp A la B lb bx := by
  obtain ⟨Y, bm, R, y1, y2, D, K, h1, h2, h3, h4, h5, h6, h7⟩ := h
  refine (d_turn D hC hD hfI hla hca hlb hcb).mono ?_
  rintro e w' ⟨rfl, D', K'⟩
  have hw : w.heap.size < wc.heap.size := by obtain ⟨_, _, _, _, _, q⟩ := D; exact (q _ y2).2.2
  exact ⟨rfl, Y, bm, R, y1, y2, D', K.trans (K'.mono y1), h1.keeps K' h2, h2, (K'.block y2 hw).trans h3, h4.keeps K' h5, h5, h6.keeps K' h7, h7⟩
theorem sr_turn {X : Nat → Prop} {w wc : World} {s bw r : Nat} {mp mr : Hp} {A1 A B : Option Addr} {lp la lb : List Int} {bx : Array Value} (h : St X w wc s bw r mp mr A1 lp A la B lb bx) {C D : Option Addr} {fr tl : List Int} {ca cb : Nat} (hC : Nums wc C fr) (hD : Nums wc D tl) (hla : fr.length ≤ ca) (hll : fr.length ≤ 1000000000) : Calls Try.prog 46 #[.pointer (some ⟨r, 0, none⟩), .slice C fr.length ca, .slice D tl.length cb] wc fun e w' => e = .returned (.int .i64 (turnV mr fr tl).2) ∧ St X w w' s bw r (mp) ((turnV mr fr tl).1) A1 lp A la B lb bx := by
  obtain ⟨Y, bm, R, y1, y2, D, K, h1, h2, h3, h4, h5, h6, h7⟩ := h
  refine (dr_turn D hC hD hla hll).mono ?_
  rintro e w' ⟨rfl, R', D', K'⟩
  have hw : w.heap.size < wc.heap.size := by obtain ⟨_, _, _, _, _, q⟩ := D; exact (q _ y2).2.2
  exact ⟨rfl, Y, bm, R', y1, y2, D', K.trans (K'.mono y1), h1.keeps K' h2, h2, (K'.block y2 hw).trans h3, h4.keeps K' h5, h5, h6.keeps K' h7, h7⟩
theorem sp_keep {X : Nat → Prop} {w wc : World} {s bw r : Nat} {mp mr : Hp} {A1 A B : Option Addr} {lp la lb : List Int} {bx : Array Value} (h : St X w wc s bw r mp mr A1 lp A la B lb bx) {C : Option Addr} {l : List Int} {ca : Nat} (hC : Nums wc C l) (hlI : ∀ x, x ∈ l → InI x) (hln : l.length ≤ 1000000) (hd : ∀ b off, C = some ⟨b, off, none⟩ → b ≠ s ∧ b ≠ bw) : Calls Try.prog 32 #[.pointer (some ⟨s, 0, none⟩), .slice C l.length ca] wc fun e w' => ∃ A4 c4, e = .returned (.tuple #[.slice A4 (keepV mp l).2.1.length c4, .int .i64 (keepV mp l).2.2]) ∧ St X w w' s bw r (keepV mp l).1 mr A1 lp A la A4 (keepV mp l).2.1 bx := by
  obtain ⟨Y, bm, R, y1, y2, D, K, h1, h2, h3, h4, h5, h6, h7⟩ := h
  obtain ⟨lv, fv, P, Q, _⟩ := id D
  refine (d_keep D hC hlI hln hd).mono ?_
  rintro e w' ⟨v, bm', rfl, hi, D', K'⟩
  have hw : w.heap.size < wc.heap.size := by obtain ⟨_, _, _, _, _, q⟩ := D; exact (q _ y2).2.2
  have hs1 : s < wc.heap.size := cell_lt P.c0
  have hs2 : bw < wc.heap.size := cell_lt (P.low (k := 0) (by decide))
  obtain ⟨A4, c4, rfl, hc, hn, hl, hm, hob⟩ := hi.nums
  refine ⟨A4, c4, rfl, fun k => Y k ∨ (Value.slice A4 (keepV mp l).2.1.length c4).ownBlock = some k, bm', R, fun k q => .inl (y1 k q), .inl y2, D'.answer hi (fun k hk => Q.lt k hk) ⟨hs1, hs2⟩, K.trans (K'.mono y1), h1.keeps K' h2, fun b off e z => .inl (h2 b off e z), (K'.block y2 hw).trans h3, h4.keeps K' h5, fun b off e z => .inl (h5 b off e z), hn, fun b off e _ => .inr ?_⟩
  rw [hob, e]; rfl
theorem sr_keep {X : Nat → Prop} {w wc : World} {s bw r : Nat} {mp mr : Hp} {A1 A B : Option Addr} {lp la lb : List Int} {bx : Array Value} (h : St X w wc s bw r mp mr A1 lp A la B lb bx) {C : Option Addr} {l : List Int} {ca : Nat} (hC : Nums wc C l) (hla : l.length ≤ ca) (hll : l.length ≤ 1000000) : Calls Try.prog 45 #[.pointer (some ⟨r, 0, none⟩), .slice C l.length ca] wc fun e w' => ∃ A4 c4, e = .returned (.tuple #[.slice A4 (keepV mr l).2.1.length c4, .int .i64 (keepV mr l).2.2]) ∧ Nums w' A4 (keepV mr l).2.1 ∧ St X w w' s bw r mp (keepV mr l).1 A1 lp A la B lb bx := by
  obtain ⟨Y, bm, R, y1, y2, D, K, h1, h2, h3, h4, h5, h6, h7⟩ := h
  refine (dr_keep D hC hla hll).mono ?_
  rintro e w' ⟨v, R', rfl, hi, D', K'⟩
  have hw : w.heap.size < wc.heap.size := by obtain ⟨_, _, _, _, _, q⟩ := D; exact (q _ y2).2.2
  obtain ⟨A4, c4, rfl, hc, hn, hl, hm, hob⟩ := hi.nums
  exact ⟨A4, c4, rfl, hn, Y, bm, R', y1, y2, D', K.trans (K'.mono y1), h1.keeps K' h2, h2, (K'.block y2 hw).trans h3, h4.keeps K' h5, h5, h6.keeps K' h7, h7⟩
theorem St.off {X : Nat → Prop} {w wc : World} {s bw r : Nat} {mp mr : Hp} {A1 A B : Option Addr} {lp la lb : List Int} {bx : Array Value} (h : St X w wc s bw r mp mr A1 lp A la B lb bx) : s < wc.heap.size ∧ bw < wc.heap.size := by
  obtain ⟨Y, bm, R, y1, y2, ⟨_, _, P, _⟩, _⟩ := h
  exact ⟨cell_lt P.c0, cell_lt (P.low (k := 0) (by decide))⟩
theorem sp_make {X : Nat → Prop} {w wc : World} {s bw r : Nat} {mp mr : Hp} {A1 A B : Option Addr} {lp la lb : List Int} {bx : Array Value} (h : St X w wc s bw r mp mr A1 lp A la B lb bx) (c f n : Int) (hc : InI c) (hff : InI f) (hn : InI n) : Calls Try.prog 37 #[.pointer (some ⟨s, 0, none⟩), .int .i64 c, .int .i64 f, .int .i64 n] wc fun e w' => e = .returned (.tuple #[.int .i64 (makeV mp c f n).2.1, .int .i64 (makeV mp c f n).2.2]) ∧ St X w w' s bw r ((makeV mp c f n).1) (mr) A1 lp A la B lb bx := by
  obtain ⟨Y, bm, R, y1, y2, D, K, h1, h2, h3, h4, h5, h6, h7⟩ := h
  refine (d_make D c f n hc hff hn).mono ?_
  rintro e w' ⟨rfl, D', K'⟩
  have hw : w.heap.size < wc.heap.size := by obtain ⟨_, _, _, _, _, q⟩ := D; exact (q _ y2).2.2
  exact ⟨rfl, Y, bm, R, y1, y2, D', K.trans (K'.mono y1), h1.keeps K' h2, h2, (K'.block y2 hw).trans h3, h4.keeps K' h5, h5, h6.keeps K' h7, h7⟩
theorem sr_make {X : Nat → Prop} {w wc : World} {s bw r : Nat} {mp mr : Hp} {A1 A B : Option Addr} {lp la lb : List Int} {bx : Array Value} (h : St X w wc s bw r mp mr A1 lp A la B lb bx) (c f n : Int) (hc : InI c) (hff : InI f) (hn : InI n) : Calls Try.prog 38 #[.pointer (some ⟨r, 0, none⟩), .int .i64 c, .int .i64 f, .int .i64 n] wc fun e w' => e = .returned (.tuple #[.int .i64 (makeV mr c f n).2.1, .int .i64 (makeV mr c f n).2.2]) ∧ St X w w' s bw r (mp) ((makeV mr c f n).1) A1 lp A la B lb bx := by
  obtain ⟨Y, bm, R, y1, y2, D, K, h1, h2, h3, h4, h5, h6, h7⟩ := h
  refine (dr_make D c f n hc hff hn).mono ?_
  rintro e w' ⟨rfl, R', D', K'⟩
  have hw : w.heap.size < wc.heap.size := by obtain ⟨_, _, _, _, _, q⟩ := D; exact (q _ y2).2.2
  exact ⟨rfl, Y, bm, R', y1, y2, D', K.trans (K'.mono y1), h1.keeps K' h2, h2, (K'.block y2 hw).trans h3, h4.keeps K' h5, h5, h6.keeps K' h7, h7⟩
theorem St.drewN {X : Nat → Prop} {w wc : World} {s bw r : Nat} {mp mr : Hp} {A1 A B : Option Addr} {lp la lb : List Int} {bx : Array Value} (h : St X w wc s bw r mp mr A1 lp A la B lb bx) (n : Nat) : St X w (wc.drewN n) s bw r mp mr A1 lp A la B lb bx := h.below (below_drewN (Below.refl _ _) n)
theorem sp_get {X : Nat → Prop} {w wc : World} {s bw r : Nat} {mp mr : Hp} {A1 A B : Option Addr} {lp la lb : List Int} {bx : Array Value} (h : St X w wc s bw r mp mr A1 lp A la B lb bx) (a i : Int) (hi : InI i) : Calls Try.prog 24 #[.pointer (some ⟨s, 0, none⟩), .int .i64 a, .int .i64 i] wc fun e w' => e = .returned (.tuple #[.int .i64 (getV mp.L a i).1, .int .i64 (getV mp.L a i).2]) ∧ St X w w' s bw r mp mr A1 lp A la B lb bx := by
  obtain ⟨Y, bm, R, y1, y2, ⟨lv, fv, P, _⟩, _⟩ := id h
  refine (get_any P a i hi).mono ?_
  rintro e w' ⟨rfl, n, rfl⟩
  exact ⟨rfl, h.drewN n⟩
theorem sr_get {X : Nat → Prop} {w wc : World} {s bw r : Nat} {mp mr : Hp} {A1 A B : Option Addr} {lp la lb : List Int} {bx : Array Value} (h : St X w wc s bw r mp mr A1 lp A la B lb bx) (a i : Int) (hi : InI i) : Calls Try.prog 47 #[.pointer (some ⟨r, 0, none⟩), .int .i64 a, .int .i64 i] wc fun e w' => e = .returned (.tuple #[.int .i64 (getV mr.L a i).1, .int .i64 (getV mr.L a i).2]) ∧ w' = wc := by
  obtain ⟨Y, bm, R, y1, y2, ⟨lv, fv, P, Q, _⟩, _⟩ := id h
  exact rget_any Q a i hi
end Go.Proofs.Ytpifodfckjphiaa
