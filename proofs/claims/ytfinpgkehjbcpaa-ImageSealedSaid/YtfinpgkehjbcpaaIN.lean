/- Chapter 05: an object is read. -/
import Derived.Test.YtfinpgkehjbcpaaIK
import Derived.Deep.RegionHeld3
import Derived.Deep.RegionLaw
import Derived.Lib.SlBytesConst
namespace Go.Proofs.Ytfinpgkehjbcpaa
open Go.ChangeShapes Go.WideShapes Go.ChangeAt Go.RowKit Go.Deep Go.Joins Go.Maps
set_option linter.unusedVariables false
set_option linter.unusedSimpArgs false
theorem Turns.setNew {S : Nat → Prop} {w w' : World} (h : Turns S w w') (a : Addr) (v : Value) (ha : w.heap.size ≤ a.block) : Turns S w (w'.setCell a v) :=
  ⟨h.os, h.tape, h.output, by simpa using h.size, fun k hk hs => by rw [Below.heap_setCell _ _ _ _ (fun e => by omega)]; exact h.block k hk hs⟩
theorem Turns.setsNew {S : Nat → Prop} {w w' : World} (h : Turns S w w') (b o : Nat) (vs : List Value) (ha : w.heap.size ≤ b) : Turns S w (w'.setCells b o vs) := by
  induction vs generalizing w' o with
  | nil => exact h
  | cons v vs ih => exact ih (h.setNew ⟨b, o, none⟩ v ha) (o + 1)
theorem step_num {ops : Array Oper} {o : Oper} {a : Act} {w : World} {K : Act → World → Prop} {Q : Exit → Act → World → Prop} {E : Prop} (hg : o.guard = none) (s x : Operand)
    (ho : o.op = .call { callee := .builtin .append, args := #[s, x], argTypes := #[23, 23] })
    (base : Nat) (v : Value) (zs : List Int) (hs : a.eval s = v) (hown : Ints w base v zs) {B : Nat} {y : Int}
    (hx : a.eval x = .slice (some ⟨B, 0, none⟩) 1 1) (hc : w.cell? ⟨B, 0, none⟩ = some (.int .i64 y)) (hb : zs.length ≤ 1000000) (hbase : base ≤ w.heap.size)
    (hK : ∀ v' w', Ints w' base v' (zs ++ [y]) → w.grownBy w' v.ownBlock → K (a.put o.dst v') w') : if Region.wanted o (yielded ops a.tmps) = true then Oper.wp Try.prog o a w K Q else E := by
  obtain ⟨i0, hi, hz0, hz1, hz2⟩ := info_parts infoI
  rw [if_pos (by simp [Region.wanted, hg])]
  refine wp_append_own (P := Try.prog) _ s x 23 ho base 3 i0 (.int .i64 0) 1 8 Try.underlying23 hi hz0 hz1 hz2 rfl (by decide) v zs.length _ hs hown ⟨B, 0, none⟩ 1 1 [.int .i64 y] hx rfl (fun j u hj => ?_) (by simp [Value.oneCell']) (by unfold maxLen; omega) (by omega) hbase ?_
  · cases j with
    | zero => simp at hj; rw [← hj, add_plain]; exact hc
    | succ j => simp at hj
  intro v' w' h2 h3 h4
  refine hK v' w' ?_ h3
  unfold Ints
  rw [List.length_append, List.map_append]
  exact h2
/-- an object under way: what reads, the result's cell, the thing -/
structure OS (w : World) (rb bb tr tb : Nat) (f h c : Int) (v : Value) (σ : RdS) (wi : World) : Prop where
  rs : RS wi rb bb σ
  ts : Turns (rset rb) w wi
  t0 : wi.heap[tr]? = some (.cells #[.int .i64 0, .int .i64 0, .int .i64 0, .slice none 0 0] 83 (0, 0))
  t1 : wi.heap[tb]? = some (.cells #[.int .i64 f, .int .i64 h, .int .i64 c, v] 83 (0, 0))
  ne : rb ≠ tr ∧ rb ≠ tb ∧ bb ≠ tr ∧ bb ≠ tb ∧ tr ≠ tb ∧ w.heap.size ≤ tr ∧ w.heap.size ≤ tb
section
variable {w wi w' : World} {rb bb tr tb : Nat} {f h c : Int} {v : Value} {σ σ' : RdS}
theorem OS.lt (H : OS w rb bb tr tb f h c v σ wi) : tb < wi.heap.size ∧ tr < wi.heap.size := by
  have h1 := H.t1
  have h0 := H.t0
  constructor
  · rcases Nat.lt_or_ge tb wi.heap.size with q | q
    · exact q
    · rw [Array.getElem?_eq_none q] at h1; cases h1
  · rcases Nat.lt_or_ge tr wi.heap.size with q | q
    · exact q
    · rw [Array.getElem?_eq_none q] at h0; cases h0
theorem OS.c1 (H : OS w rb bb tr tb f h c v σ wi) : wi.cell? ⟨tb, 1, none⟩ = some (.int .i64 h) := by simp [World.cell?, H.t1]
theorem OS.c0 (H : OS w rb bb tr tb f h c v σ wi) : wi.cell? ⟨tb, 0, none⟩ = some (.int .i64 f) := by simp [World.cell?, H.t1]
theorem OS.c2 (H : OS w rb bb tr tb f h c v σ wi) : wi.cell? ⟨tb, 2, none⟩ = some (.int .i64 c) := by simp [World.cell?, H.t1]
theorem OS.c3 (H : OS w rb bb tr tb f h c v σ wi) : wi.cell? ⟨tb, 3, none⟩ = some v := by simp [World.cell?, H.t1]
theorem OS.r0 (H : OS w rb bb tr tb f h c v σ wi) : wi.cell? ⟨tr, 0, none⟩ = some (.int .i64 0) := by simp [World.cell?, H.t0]
theorem OS.r1 (H : OS w rb bb tr tb f h c v σ wi) : wi.cell? ⟨tr, 1, none⟩ = some (.int .i64 0) := by simp [World.cell?, H.t0]
theorem OS.r2 (H : OS w rb bb tr tb f h c v σ wi) : wi.cell? ⟨tr, 2, none⟩ = some (.int .i64 0) := by simp [World.cell?, H.t0]
theorem OS.r3 (H : OS w rb bb tr tb f h c v σ wi) : wi.cell? ⟨tr, 3, none⟩ = some (.slice none 0 0) := by simp [World.cell?, H.t0]
theorem OS.free (H : OS w rb bb tr tb f h c v σ wi) (k : Nat) : wi.frozen? ⟨tb, k, none⟩ = false := by simp [World.frozen?, H.t1]
theorem OS.free0 (H : OS w rb bb tr tb f h c v σ wi) (k : Nat) : wi.frozen? ⟨tr, k, none⟩ = false := by simp [World.frozen?, H.t0]
theorem OS.read (H : OS w rb bb tr tb f h c v σ wi) (hr : RS w' rb bb σ') (ht : Turns (rset rb) wi w') : OS w rb bb tr tb f h c v σ' w' :=
  ⟨hr, H.ts.trans ht, (ht.block tr H.lt.2 (fun q => H.ne.1 q.symm)).trans H.t0, (ht.block tb H.lt.1 (fun q => H.ne.2.1 q.symm)).trans H.t1, H.ne⟩
theorem OS.below (H : OS w rb bb tr tb f h c v σ wi) (hb : Below wi.heap.size wi w') : OS w rb bb tr tb f h c v σ w' := H.read (H.rs.below hb) (Turns.of_below hb)
theorem OS.drew (H : OS w rb bb tr tb f h c v σ wi) : OS w rb bb tr tb f h c v σ wi.drew := H.below (Below.drew (Below.refl _ _))
theorem OS.set_ (H : OS w rb bb tr tb f h c v σ wi) {k : Nat} {x : Value} {f' h' c' : Int} {v' : Value} (hk : (#[Value.int .i64 f, .int .i64 h, .int .i64 c, v] : Array Value).set! k x = #[.int .i64 f', .int .i64 h', .int .i64 c', v']) : OS w rb bb tr tb f' h' c' v' σ (wi.setCell ⟨tb, k, none⟩ x) := by
  have ht : Turns (fun b => b = tb) wi (wi.setCell ⟨tb, k, none⟩ x) := (Turns.refl _ _).setCell _ _ rfl
  obtain ⟨n1, n2, n3, n4, n5, n6, n7⟩ := H.ne
  refine ⟨H.rs.turns ht n2 n4, H.ts.setNew _ _ n7, (ht.block tr H.lt.2 n5).trans H.t0, ?_, H.ne⟩
  rw [heap_setCell_same wi tb k _ _ _ H.t1, ← hk]; rfl
theorem OS.grow (H : OS w rb bb tr tb f h c v σ wi) {o : Option Nat} (hg : wi.grownBy w' o) (ho : ∀ k, o = some k → tb < k ∧ k ≠ rb ∧ k ≠ bb ∧ k ≠ tr) : OS w rb bb tr tb f h c v σ w' := by
  have ht : Turns (fun b => o = some b) wi w' := ⟨hg.os, hg.tape, hg.output, hg.size, fun k hk hs => hg.block k hk (fun q => hs q.symm)⟩
  have hne := H.ne
  have hlt := H.lt
  refine ⟨H.rs.turns ht (fun q => (ho _ q).2.1 rfl) (fun q => (ho _ q).2.2.1 rfl), ?_, (ht.block tr hlt.2 (fun q => (ho _ q).2.2.2 rfl)).trans H.t0, (ht.block tb hlt.1 (fun q => by have := (ho _ q).1; omega)).trans H.t1, hne⟩
  exact H.ts.trans2 ht (fun j hj => .inr (by have := (ho j hj).1; omega))
theorem OS.alloc1 (H : OS w rb bb tr tb f h c v σ wi) (o : Obj) : OS w rb bb tr tb f h c v σ (wi.alloc o) := H.below ((Below.refl _ _).alloc (Nat.le_refl _) o)
end
theorem agg_set {w : World} {b : Nat} {a0 a1 a2 a3 x0 x1 x2 x3 : Value} {T : TypeId} (h : w.heap[b]? = some (.cells #[a0, a1, a2, a3] T (0, 0))) : ((((w.setCell ⟨b, 0, none⟩ x0).setCell ⟨b, 1, none⟩ x1).setCell ⟨b, 2, none⟩ x2).setCell ⟨b, 3, none⟩ x3).heap[b]? = some (.cells #[x0, x1, x2, x3] T (0, 0)) := by
  have h0 : (w.setCell ⟨b, 0, none⟩ x0).heap[b]? = some (.cells #[x0, a1, a2, a3] T (0, 0)) := by rw [heap_setCell_same _ b 0 _ _ _ h]; rfl
  have h1 : ((w.setCell ⟨b, 0, none⟩ x0).setCell ⟨b, 1, none⟩ x1).heap[b]? = some (.cells #[x0, x1, a2, a3] T (0, 0)) := by rw [heap_setCell_same _ b 1 _ _ _ h0]; rfl
  have h2 : (((w.setCell ⟨b, 0, none⟩ x0).setCell ⟨b, 1, none⟩ x1).setCell ⟨b, 2, none⟩ x2).heap[b]? = some (.cells #[x0, x1, x2, a3] T (0, 0)) := by rw [heap_setCell_same _ b 2 _ _ _ h1]; rfl
  rw [heap_setCell_same _ b 3 _ _ _ h2]; rfl
theorem four_new {S : Nat → Prop} {w wr : World} {b : Nat} {x0 x1 x2 x3 : Value} (h : Turns S w wr) (hb : w.heap.size ≤ b) : Turns S w ((((wr.setCell ⟨b, 0, none⟩ x0).setCell ⟨b, 1, none⟩ x1).setCell ⟨b, 2, none⟩ x2).setCell ⟨b, 3, none⟩ x3) :=
  (((h.setNew ⟨b, 0, none⟩ x0 hb).setNew ⟨b, 1, none⟩ x1 hb).setNew ⟨b, 2, none⟩ x2 hb).setNew ⟨b, 3, none⟩ x3 hb
theorem four_turns {wr : World} {b : Nat} {x0 x1 x2 x3 : Value} : Turns (fun j => j = b) wr ((((wr.setCell ⟨b, 0, none⟩ x0).setCell ⟨b, 1, none⟩ x1).setCell ⟨b, 2, none⟩ x2).setCell ⟨b, 3, none⟩ x3) :=
  ((((Turns.refl (fun j => j = b) wr).setCell ⟨b, 0, none⟩ x0 rfl).setCell ⟨b, 1, none⟩ x1 rfl).setCell ⟨b, 2, none⟩ x2 rfl).setCell ⟨b, 3, none⟩ x3 rfl
theorem Ints.nil0 (w : World) (base : Nat) : Ints w base (.slice none 0 0) [] := World.ownsRow_nil _ _ _ _
theorem Ints.drew' {w : World} {base : Nat} {v : Value} {zs : List Int} (h : Ints w base v zs) : Ints w.drew base v zs := ownsRow_below h (Below.drew (Below.refl _ _))
theorem Ints.below1 {w : World} {base : Nat} {v : Value} {zs : List Int} (h : Ints w base v zs) (o : Obj) : Ints (w.alloc o) base v zs := ownsRow_below h ((Below.refl _ _).alloc (Nat.le_refl _) o)
theorem Ints.turnsT {w w' : World} {base : Nat} {v : Value} {zs : List Int} {T : Nat → Prop} (h : Ints w base v zs) (ht : Turns T w w') (hd : ∀ k, base ≤ k → ¬ T k) : Ints w' base v zs := by
  refine ⟨h.1, ?_⟩
  rcases h.2 with h1 | ⟨g, cap, cur, hv, hg, hh, rest⟩
  · exact .inl h1
  · refine .inr ⟨g, cap, cur, hv, hg, (ht.block g ?_ (hd g hg)).trans hh, rest⟩
    rcases Nat.lt_or_ge g w.heap.size with q | q
    · exact q
    · rw [Array.getElem?_eq_none q] at hh; cases hh
theorem Ints.base_ {w : World} {b b' : Nat} {v : Value} {zs : List Int} (h : Ints w b v zs) (hb : b' ≤ b) : Ints w b' v zs := by
  refine ⟨h.1, ?_⟩
  rcases h.2 with h1 | ⟨g, cap, cur, hv, hg, rest⟩
  · exact .inl h1
  · exact .inr ⟨g, cap, cur, hv, Nat.le_trans hb hg, rest⟩
theorem Ints.own1 {w : World} {rb bb tr tb : Nat} {v : Value} {zs : List Int} (h : Ints w (tb + 1) v zs) (hp : rb ≤ tb ∧ bb ≤ tb ∧ tr ≤ tb) (k : Nat) (hk : v.ownBlock = some k) : tb < k ∧ k ≠ rb ∧ k ≠ bb ∧ k ≠ tr := by
  have := (World.ownsRow.lt h k hk).1
  omega
theorem alloc_keep3 {w : World} {a : Addr} {v : Value} {o : Obj} (h : w.cell? a = some v) : (w.alloc o).cell? a = some v := Lib.cell?_alloc_marked o h
end Go.Proofs.Ytfinpgkehjbcpaa
