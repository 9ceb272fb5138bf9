/- The state of the depths, and what reaches a place. -/
import Derived.Test.YtnjfjebmkajpbaaL6
import Derived.OneCell
namespace Go.Proofs.Ytnjfjebmkajpbaa
open Go.ChangeShapes Go.WideShapes Go.ChangeAt Go.RowKit
set_option linter.unusedVariables false
set_option linter.unusedSimpArgs false

/-- the boxes of depths: the code, the owners, the array of depths, its box, the box of what waits, whether all is right -/
structure DS (b0 R : Nat) (p po : Option Addr) (n c co : Nat) (ys : List Int) (wt : List Nat) (v : Value) (rt : Bool) (w : World) : Prop where
  l : w.heap[b0]? = some (.cells #[.slice p n c] 23 (0, 0))
  o : w.heap[b0 + 1]? = some (.cells #[.slice po n co] 29 (0, 0))
  own : OwnI w (b0 + 2) (b0 + 2) n n ys
  u : w.heap[b0 + 3]? = some (.cells #[.slice (some ⟨b0 + 2, 0, none⟩) n n] 29 (0, 0))
  x : w.heap[b0 + 4]? = some (.cells #[v] 29 (0, 0))
  wait : w.ownsRow (b0 + 5) 3 1 v wt.length ((wt.map (fun q : Nat => (q : Int))).map (Value.int .i64))
  r : w.heap[R]? = some (.cells #[.bool rt] 4 (0, 0))
  hR : b0 + 5 ≤ R
theorem one_other {w : World} {b : Nat} {a : Addr} {v u : Value} {t : TypeId} (h : w.heap[b]? = some (.cells #[v] t (0, 0))) (hne : b ≠ a.block) : (w.setCell a u).heap[b]? = some (.cells #[v] t (0, 0)) := by
  rw [Below.heap_setCell _ _ _ _ (fun e => hne e)]; exact h
theorem row_block {w : World} {base g n cap : Nat} {e : TypeId} {size : Nat} {xs : List Value} (h : w.ownsRow base e size (.slice (some ⟨g, 0, none⟩) n cap) n xs) : ∃ cur, w.heap[g]? = some (.cells cur e (0, 0)) := by
  rcases h.2 with ⟨h', _⟩ | ⟨g', cap', cur, h', _, hh, _⟩
  · cases h'
  · cases h'; exact ⟨cur, hh⟩
theorem wait_other {w : World} {base n : Nat} {v : Value} {xs : List Value} (h : w.ownsRow base 3 1 v n xs) {R : Nat} {x : Value} {t : TypeId} (hr : w.heap[R]? = some (.cells #[x] t (0, 0))) (ht : t ≠ 3) : v.ownBlock ≠ some R := by
  rcases h.2 with ⟨rfl, _⟩ | ⟨g, cap, cur, rfl, _, hh, _⟩
  · simp [Value.ownBlock]
  · simp only [Value.ownBlock, ne_eq, Option.some.injEq]
    intro e
    subst e
    rw [hh] at hr
    cases hr
    exact ht rfl
theorem cells_newN (w : World) (t : TypeId) (l : List Value) (n : Nat) (hn : n = w.heap.size) : ∀ (j : Nat) (u : Value), l[j]? = some u → (w.alloc (.cells l.toArray t)).cell? ((⟨n, 0, none⟩ : Addr).add j) = some u := by
  subst hn; exact cells_new w t l
theorem own_shape {w : World} {base : Nat} {e : TypeId} {size n : Nat} {v : Value} {xs : List Value} (h : w.ownsRow base e size v (n + 1) xs) : ∃ g cap, v = .slice (some ⟨g, 0, none⟩) (n + 1) cap := by
  rcases h.2 with ⟨_, h0⟩ | ⟨g, cap, cur, rfl, _⟩
  · omega
  · exact ⟨g, cap, rfl⟩
theorem grown_cell {w w' : World} {row : Option Nat} (h : w.grownBy w' row) {k o : Nat} (hk : k < w.heap.size) (hne : some k ≠ row) : w'.cell? ⟨k, o, none⟩ = w.cell? ⟨k, o, none⟩ := World.cell?_of_block (h.block k hk hne)
section
variable {b0 R : Nat} {p po : Option Addr} {n c co : Nat} {ys : List Int} {wt : List Nat} {v : Value} {rt : Bool} {w : World}
theorem DS.wrong (h : DS b0 R p po n c co ys wt v rt w) (b : Bool) : DS b0 R p po n c co ys wt v b (w.setCell ⟨R, 0, none⟩ (.bool b)) where
  l := one_other h.l (by have := h.hR; simp; omega)
  o := one_other h.o (by have := h.hR; simp; omega)
  own := ownsRow_setCell_other h.own (by have := h.hR; simp [Value.ownBlock]; omega) _
  u := one_other h.u (by have := h.hR; simp; omega)
  x := one_other h.x (by have := h.hR; simp; omega)
  wait := ownsRow_setCell_other h.wait (wait_other h.wait h.r (by decide)) _
  r := one_setCell h.r
  hR := h.hR
theorem DS.put (h : DS b0 R p po n c co ys wt v rt w) (q : Nat) (d : Int) : DS b0 R p po n c co (ys.set q d) wt v rt (w.setCell ⟨b0 + 2, q, none⟩ (.int .i64 d)) where
  l := one_other h.l (by simp)
  o := one_other h.o (by simp)
  own := h.own.put q d
  u := one_other h.u (by simp)
  x := one_other h.x (by simp)
  wait := by
    refine ownsRow_setCell_other h.wait ?_ _
    rcases h.wait.2 with ⟨rfl, _⟩ | ⟨g, cap, cur, rfl, hg, _⟩
    · simp [Value.ownBlock]
    · simp [Value.ownBlock]; omega
  r := one_other h.r (by have := h.hR; simp; omega)
  hR := h.hR
theorem DS.below (h : DS b0 R p po n c co ys wt v rt w) {w' : World} (hb : Below w.heap.size w w') : DS b0 R p po n c co ys wt v rt w' where
  l := (hb.block _ (lt_of_block h.l)).trans h.l
  o := (hb.block _ (lt_of_block h.o)).trans h.o
  own := h.own.below hb
  u := (hb.block _ (lt_of_block h.u)).trans h.u
  x := (hb.block _ (lt_of_block h.x)).trans h.x
  wait := ownsRow_below h.wait hb
  r := (hb.block _ (lt_of_block h.r)).trans h.r
  hR := h.hR
/-- behind an append to what waits: its new slice is in the box -/
theorem DS.push (h : DS b0 R p po n c co ys wt v rt w) {w' : World} {v' : Value} (hg : w.grownBy w' v.ownBlock) {wt' : List Nat} (hw : w'.ownsRow (b0 + 5) 3 1 v' wt'.length ((wt'.map (fun q : Nat => (q : Int))).map (Value.int .i64))) : DS b0 R p po n c co ys wt' v' rt (w'.setCell ⟨b0 + 4, 0, none⟩ v') := by
  have hv : ∀ k, v.ownBlock = some k → b0 + 5 ≤ k := fun k hk => (h.wait.lt k hk).1
  have blk : ∀ k, k < b0 + 5 → ∀ o, w.heap[k]? = some o → w'.heap[k]? = some o := fun k hk o ho => (hg.block k (lt_of_block ho) (fun e => by have := hv k e.symm; omega)).trans ho
  have hr : w'.heap[R]? = some (.cells #[.bool rt] 4 (0, 0)) := (hg.block R (lt_of_block h.r) (fun e => wait_other h.wait h.r (by decide) e.symm)).trans h.r
  have hown : OwnI w' (b0 + 2) (b0 + 2) n n ys := World.ownsRow.kept h.own hg (.inr (fun e => by
    simp only [Value.ownBlock] at e
    have := hv (b0 + 2) e.symm
    omega))
  refine ⟨one_other (blk b0 (by omega) _ h.l) (by simp), one_other (blk (b0 + 1) (by omega) _ h.o) (by simp), ownsRow_setCell_other hown (by simp [Value.ownBlock]) _, one_other (blk (b0 + 3) (by omega) _ h.u) (by simp), one_setCell (blk (b0 + 4) (by omega) _ h.x), ?_, one_other hr (by have := h.hR; simp; omega), h.hR⟩
  refine ownsRow_setCell_other hw ?_ _
  rcases hw.2 with ⟨rfl, _⟩ | ⟨g, cap, cur, rfl, hgb, _⟩
  · simp [Value.ownBlock]
  · simp [Value.ownBlock]; omega
theorem DS.sizes (h : DS b0 R p po n c co ys wt v rt w) : b0 + 4 < w.heap.size ∧ R < w.heap.size := ⟨lt_of_block h.x, lt_of_block h.r⟩
theorem row_take {base : Nat} {m : Nat} {zs : List Value} (h : w.ownsRow base 3 1 v n zs) (g cap : Nat) (hv : v = .slice (some ⟨g, 0, none⟩) n cap) (hm : m ≤ n) : w.ownsRow base 3 1 (.slice (some ⟨g, 0, none⟩) m cap) m (zs.take m) := by
  subst hv
  have hl := h.1
  rcases h.2 with ⟨h', _⟩ | ⟨g', cap', cur, h', hg, hh, h1, h2, h3, h4⟩
  · cases h'
  · cases h'
    refine ⟨by simp; omega, .inr ⟨g, cap, cur, rfl, hg, hh, by omega, h2, h3, ?_⟩⟩
    rw [← h4, List.take_take]
    congr 1; omega
end
/-- what is no number's array, and none of the two boxes that are written, stays -/
def Others (b0 R : Nat) (w w' : World) : Prop := ∀ (k : Nat) (X : Array Value) (t : TypeId), w.heap[k]? = some (.cells X t (0, 0)) → t ≠ 3 → k ≠ b0 + 4 → k ≠ R → w'.heap[k]? = some (.cells X t (0, 0))
theorem Others.refl (b0 R : Nat) (w : World) : Others b0 R w w := fun _ _ _ h _ _ _ => h
theorem block_type {w : World} {base n : Nat} {v : Value} {xs : List Value} (h : w.ownsRow base 3 1 v n xs) {k : Nat} {X : Array Value} {t : TypeId} (hr : w.heap[k]? = some (.cells X t (0, 0))) (ht : t ≠ 3) : v.ownBlock ≠ some k := by
  rcases h.2 with ⟨rfl, _⟩ | ⟨g, cap, cur, rfl, _, hh, _⟩
  · simp [Value.ownBlock]
  · simp only [Value.ownBlock, ne_eq, Option.some.injEq]
    intro e
    subst e
    rw [hh] at hr
    cases hr
    exact ht rfl
theorem set_other {w : World} {k : Nat} {a : Addr} {u : Value} {o : Obj} (h : w.heap[k]? = some o) (hne : k ≠ a.block) : (w.setCell a u).heap[k]? = some o := by
  rw [Below.heap_setCell _ _ _ _ (fun e => hne e)]; exact h
def ReachPost (b0 R : Nat) (p po : Option Addr) (n c co : Nat) (z : List Int × List Nat × Bool) (w : World) (e : Ending) (w' : World) : Prop := e = .returned (.tuple #[]) ∧ ∃ v', DS b0 R p po n c co z.1 z.2.1 v' z.2.2 w' ∧ Below b0 w w' ∧ Others b0 R w w'
/-- what a place's depth becomes -/
def reachV (n : Nat) (O : Nat → Int) (ys : List Int) (wt : List Nat) (rt : Bool) (q : Nat) (owner d : Int) : List Int × List Nat × Bool :=
  if n ≤ q ∨ O q ≠ owner ∨ (0 ≤ ys.getD q 0 ∧ ys.getD q 0 ≠ d) then (ys, wt, false)
  else if ys.getD q 0 < 0 then (ys.set q d, wt ++ [q], rt)
  else (ys, wt, rt)

set_option maxHeartbeats 8000000 in
theorem reach_any {w0 w : World} {b0 R : Nat} {p po : Option Addr} {n c co : Nat} {ys : List Int} {wt : List Nat} {v : Value} {rt : Bool} {O : Nat → Int} (hO : Row w0 po n 1 (fun i _ => .int .i64 (O i))) (hB : Below w0.heap.size w0 w) (h0 : w0.heap.size ≤ b0) (hn : n ≤ 100000) (hwt : wt.length ≤ 100000) (h : DS b0 R p po n c co ys wt v rt w) (q : Nat) (owner d : Int) (hq : q ≤ 300000) :
    Calls Try.prog 38 #[.int .i64 q, .int .i64 owner, .int .i64 d, .pointer (some ⟨b0, 0, none⟩), .pointer (some ⟨b0 + 1, 0, none⟩), .pointer (some ⟨b0 + 3, 0, none⟩), .pointer (some ⟨R, 0, none⟩), .pointer (some ⟨b0 + 4, 0, none⟩)] w (ReachPost b0 R p po n c co (reachV n O ys wt rt q owner d) w) := by
  have cl := cell_of_one h.l
  have co' := cell_of_one h.o
  have cu := cell_of_one h.u
  have cx := cell_of_one h.x
  have cr := cell_of_one h.r
  have fx := free_of_one h.x
  have fr := free_of_one h.r
  have hsz := h.sizes
  have g0 : (0 : Int) ≤ (q : Int) := by omega
  have HH := Lib.hid h
  have hR := h.hR
  have hb0 := hB.size
  by_cases h1 : n ≤ q
  · have d1 : decide (n ≤ q) = true := decide_eq_true h1
    have F : Hid (reachV n O ys wt rt q owner d = (ys, wt, false)) := if_pos (.inl h1)
    clear h
    go_enter Try.func38, Try.ntmps38
    go_wp2
    go_end0
    refine ⟨rfl, v, ?_, ?_⟩
    · rw [F.out]; exact HH.out.wrong false
    · refine ⟨by (repeat' (first | (with_reducible exact Below.refl _ _) | (with_reducible assumption) | (with_reducible refine below_drewN ?_ _) | (with_reducible refine Below.alloc ?_ ?_ _) | (with_reducible refine Below.drew ?_) | (with_reducible refine Below.setCell ?_ ?_ _) | go_size)), fun k X t hk _ _ hkr => set_other hk (by simpa using hkr)⟩
  have h1' : q < n := by omega
  have d1 : decide (n ≤ q) = false := decide_eq_false h1
  have g1 : (q : Int) < (n : Int) := by omega
  obtain ⟨b2, off2, rfl, hlt2, v0⟩ := row_int hO hB h1'
  have cy := h.own.cell h1'
  have fy := h.own.free q
  have hlen := h.own.len
  by_cases h2 : O q = owner
  · have n2 : (O q != owner) = false := by simpa using h2
    have n2' : (owner != owner) = false := by simp
    rw [h2] at v0
    obtain ⟨y, hy⟩ : ∃ y, ys.getD q 0 = y := ⟨_, rfl⟩
    have HY := Lib.hid hy
    rw [hy] at cy
    have H2 := Lib.hid h2
    clear hy h2
    by_cases h3 : 0 ≤ y
    · have d3 : decide (0 ≤ y) = true := decide_eq_true h3
      have d3' : decide (y < 0) = false := decide_eq_false (by omega)
      by_cases h4 : y = d
      · have n4 : (y != d) = false := by simpa using h4
        have F : Hid (reachV n O ys wt rt q owner d = (ys, wt, rt)) := by
          show _ = _
          unfold reachV
          rw [HY.out, if_neg (by rintro (h | h | h); exact h1 h; exact h H2.out; exact h.2 h4), if_neg (by omega)]
        have H4 := Lib.hid h4
        clear h h4
        go_enter Try.func38, Try.ntmps38
        go_wp2
        go_end0
        refine ⟨rfl, v, ?_, ?_⟩
        · rw [F.out]; exact HH.out
        · exact ⟨by (repeat' (first | (with_reducible exact Below.refl _ _) | (with_reducible assumption) | (with_reducible refine below_drewN ?_ _) | (with_reducible refine Below.alloc ?_ ?_ _) | (with_reducible refine Below.drew ?_) | (with_reducible refine Below.setCell ?_ ?_ _) | go_size)), Others.refl _ _ _⟩
      · have n4 : (y != d) = true := by simpa using h4
        have F : Hid (reachV n O ys wt rt q owner d = (ys, wt, false)) := if_pos (.inr (.inr ⟨by rw [HY.out]; exact h3, by rw [HY.out]; exact h4⟩))
        clear h
        go_enter Try.func38, Try.ntmps38
        go_wp2
        go_end0
        refine ⟨rfl, v, ?_, ?_⟩
        · rw [F.out]; exact HH.out.wrong false
        · refine ⟨by (repeat' (first | (with_reducible exact Below.refl _ _) | (with_reducible assumption) | (with_reducible refine below_drewN ?_ _) | (with_reducible refine Below.alloc ?_ ?_ _) | (with_reducible refine Below.drew ?_) | (with_reducible refine Below.setCell ?_ ?_ _) | go_size)), fun k X t hk _ _ hkr => set_other hk (by simpa using hkr)⟩
    · have d3 : decide (0 ≤ y) = false := decide_eq_false h3
      have d3' : decide (y < 0) = true := decide_eq_true (by omega)
      have F : Hid (reachV n O ys wt rt q owner d = (ys.set q d, wt ++ [q], rt)) := by
        show _ = _
        unfold reachV
        rw [HY.out, if_neg (by rintro (h | h | h); exact h1 h; exact h H2.out; exact h3 h.1), if_pos (by omega)]
      obtain ⟨i0, hi, hz0, hz1, hz2⟩ := info_parts infoI
      have hown2 := (HH.out.put q d).wait
      have HW2 := Lib.hid hown2
      have cx2 : (w.setCell ⟨b0 + 2, q, none⟩ (.int .i64 d)).cell? ⟨b0 + 4, 0, none⟩ = some v := cell_of_one (HH.out.put q d).x
      have hput : DS b0 R p (some ⟨b2, off2, none⟩) n c co (ys.set q d) wt v rt ((w.setCell ⟨b0 + 2, q, none⟩ (.int .i64 d)).alloc (.cells #[.int .i64 (q : Int)] 3)) := (HH.out.put q d).below (Below.refl _ _ |>.alloc (Nat.le_refl _) _)
      have HPUT := Lib.hid hput
      clear h hown2 hput
      go_enter Try.func38, Try.ntmps38
      go_wp2_with (at_builtin; refine wpList_append_own _ rfl _ _ 29 rfl (b0 + 5) 3 i0 (.int .i64 0) 1 8 Try.underlying29 hi hz0 hz1 hz2 rfl (by decide) _ _ _ rfl (HW2.out.alloc _) ⟨w.heap.size, 0, none⟩ 1 1 [.int .i64 (q : Int)] rfl rfl (cells_newN _ _ _ _ (by simp)) (by simp [Value.oneCell']) (by unfold maxLen; omega) (by omega) (by simp; omega) ?_; intro v3 w3 hown3 hg3 _; obtain ⟨g3, cap3, rfl⟩ := own_shape hown3; have hxx := (hg3.block (b0 + 4) (lt_of_block HPUT.out.x) (fun e => by have := (HPUT.out.wait.lt _ e.symm).1; omega)).trans HPUT.out.x; have HXX := Lib.hid hxx; have cxx := cell_of_one hxx; have fxx := free_of_one hxx; clear hxx cx2 fx)
      go_end0
      refine ⟨rfl, .slice (some ⟨g3, 0, none⟩) (wt.length + 1) cap3, ?_, ?_⟩
      · rw [F.out]
        exact HPUT.out.push hg3 (by rw [List.length_append, List.map_append, List.map_append]; exact hown3)
      · have hbel : Below b0 w w3 := ((show Below b0 w ((w.setCell ⟨b0 + 2, q, none⟩ (.int .i64 d)).alloc (.cells #[.int .i64 (q : Int)] 3)) by (repeat' (first | (with_reducible exact Below.refl _ _) | (with_reducible assumption) | (with_reducible refine below_drewN ?_ _) | (with_reducible refine Below.alloc ?_ ?_ _) | (with_reducible refine Below.drew ?_) | (with_reducible refine Below.setCell ?_ ?_ _) | go_size))).trans ((below_of_append (HW2.out.alloc _) hg3 (by simp; omega)).mono (by omega)))
        refine ⟨by (repeat' (first | (with_reducible exact Below.refl _ _) | (with_reducible assumption) | (with_reducible refine below_drewN ?_ _) | (with_reducible refine Below.alloc ?_ ?_ _) | (with_reducible refine Below.drew ?_) | (with_reducible refine Below.setCell ?_ ?_ _) | go_size)), fun k X t hk ht hk4 _ => ?_⟩
        have hgk : k ≠ b0 + 2 := fun e => by
          subst e
          obtain ⟨cur, hcur⟩ := row_block HH.out.own
          rw [hcur] at hk
          cases hk
          exact ht rfl
        have h1 := set_other (a := ⟨b0 + 2, q, none⟩) (u := .int .i64 d) hk (by simpa using hgk)
        have hlt := lt_of_block h1
        have h2 : ((w.setCell ⟨b0 + 2, q, none⟩ (.int .i64 d)).alloc (.cells #[.int .i64 (q : Int)] 3)).heap[k]? = some (.cells X t (0, 0)) := ((Below.refl _ _ |>.alloc (Nat.le_refl _) _ : Below (w.setCell ⟨b0 + 2, q, none⟩ (.int .i64 d)).heap.size _ _).block k hlt).trans h1
        refine set_other ((hg3.block k (lt_of_block h2) (fun e => block_type HPUT.out.wait h2 ht e.symm)).trans h2) (by simpa using hk4)
  · have n2 : (O q != owner) = true := by simpa using h2
    have F : Hid (reachV n O ys wt rt q owner d = (ys, wt, false)) := if_pos (.inr (.inl h2))
    clear h
    go_enter Try.func38, Try.ntmps38
    go_wp2
    go_end0
    refine ⟨rfl, v, ?_, ?_⟩
    · rw [F.out]; exact HH.out.wrong false
    · refine ⟨by (repeat' (first | (with_reducible exact Below.refl _ _) | (with_reducible assumption) | (with_reducible refine below_drewN ?_ _) | (with_reducible refine Below.alloc ?_ ?_ _) | (with_reducible refine Below.drew ?_) | (with_reducible refine Below.setCell ?_ ?_ _) | go_size)), fun k X t hk _ _ hkr => set_other hk (by simpa using hkr)⟩
end Go.Proofs.Ytnjfjebmkajpbaa
