/- Chapter 03: pairs of words, side by side. -/
import Derived.Test.YthjjanjmiinpbaaMJ
import Derived.Test.YthjjanjmiinpbaaMQ
namespace Go.Proofs.Ythjjanjmiinpbaa
open Go.ChangeShapes Go.WideShapes Go.ChangeAt Go.RowKit Go.Deep Go.Joins Go.Maps
set_option linter.unusedVariables false
set_option linter.unusedSimpArgs false
/-- what a walk side by side needs: σ is where a word went, Ok says which words are met -/
structure Same (m m2 : Hp) (rs ys : List Int) (σ : Int → Int) (Ok : Int → Prop) : Prop where
  roots : ys = rs.map σ ∧ ∀ x, x ∈ rs → Ok x
  none : ∀ a, Ok a → isV m.L a = false → σ a = a
  obj : ∀ a, Ok a → isV m.L a = true → isV m2.L (σ a) = true ∧ (lookO m2.L (σ a)).fmt = (lookO m.L a).fmt ∧ (lookO m2.L (σ a)).hash = (lookO m.L a).hash ∧ (lookO m2.L (σ a)).F.length = (lookO m.L a).F.length ∧ (lookO m2.L (σ a)).cls = σ (lookO m.L a).cls ∧ Ok (lookO m.L a).cls
  field : ∀ a, Ok a → isV m.L a = true → ∀ j, j < (lookO m.L a).F.length → ∃ x, getV m.L a (j : Int) = (x, 0) ∧ getV m2.L (σ a) (j : Int) = ((if (lookO m.L a).fmt = 0 then σ x else x), 0) ∧ ((lookO m.L a).fmt = 0 → Ok x)
  inj : ∀ a b, Ok a → isV m.L a = true → Ok b → (b == a) = (σ b == σ a)
theorem Coll.same {m m2 : Hp} {rs ys : List Int} (c : Coll m rs m2 ys) (hg : Good m) : ∃ σ Ok, Same m m2 rs ys σ Ok := by
  refine ⟨sgm m.L (reachL m.L rs), OkA m.L rs, ?_, ?_, ?_, ?_, ?_⟩
  · refine ⟨?_, fun x hx => c.root hx⟩
    rw [c.roots]
    exact List.map_congr_left (fun x hx => c.at_ hg (c.root hx))
  · intro a ha hv
    rcases ha with ha | ha
    · rw [ha.valid] at hv; cases hv
    · exact sgm_no ha
  · intro a ha hv
    have hr : Rch m.L rs a := ha.resolve_right (fun q => by rw [isV_pointer hg hv] at q; cases q)
    obtain ⟨h1, h2⟩ := c.moved hg hr
    rw [h2]
    exact ⟨h1, rfl, rfl, turnO_len _ _, rfl, c.word hg hr (by unfold kids wordsO; simp)⟩
  · intro a ha hv j hj
    have hr : Rch m.L rs a := ha.resolve_right (fun q => by rw [isV_pointer hg hv] at q; cases q)
    obtain ⟨h1, h2⟩ := c.moved hg hr
    have hj2 : j < (lookO m2.L (sgm m.L (reachL m.L rs) a)).F.length := by rw [h2, turnO_len]; exact hj
    refine ⟨(lookO m.L a).F[j], ?_, ?_, fun h0 => c.word hg hr (by unfold kids wordsO; rw [if_pos h0]; exact List.mem_cons_of_mem _ (List.getElem_mem hj))⟩
    · unfold getV
      rw [hv, if_pos rfl, if_neg (by omega), Int.toNat_natCast, List.getD_eq_getElem?_getD, List.getElem?_eq_getElem hj, Option.getD_some]
    · unfold getV
      rw [h1, if_pos rfl, if_neg (by omega), Int.toNat_natCast, List.getD_eq_getElem?_getD, List.getElem?_eq_getElem hj2, Option.getD_some]
      refine Prod.ext ?_ rfl
      dsimp only
      have : (lookO m2.L (sgm m.L (reachL m.L rs) a)).F[j]? = some (if (lookO m.L a).fmt = 0 then sgm m.L (reachL m.L rs) (lookO m.L a).F[j] else (lookO m.L a).F[j]) := by
        rw [h2]
        unfold turnO
        dsimp only
        split
        · rw [List.getElem?_map, List.getElem?_eq_getElem hj]; rfl
        · rw [List.getElem?_eq_getElem hj]
      rw [List.getElem?_eq_getElem hj2] at this
      exact Option.some.inj this
  · intro a b ha hv hb
    have hr : Rch m.L rs a := ha.resolve_right (fun q => by rw [isV_pointer hg hv] at q; cases q)
    rw [Bool.eq_iff_iff, beq_iff_eq, beq_iff_eq]
    constructor
    · intro e; rw [e]
    · intro e; exact (c.inj hg hr hb e.symm).symm
theorem infoP : (Try.prog.info? 41).map (fun i => (i.zero, i.size, i.bytes)) = some (some (.agg #[.int .i64 0, .int .i64 0]), 2, 16) := by kernel_rfl
def pV (ps : List (Int × Int)) (i : Nat) : Nat → Value
  | 0 => .int .i64 (ps.getD i (0, 0)).1
  | _ => .int .i64 (ps.getD i (0, 0)).2
/-- a list of pairs of the call's own -/
def PR (w : World) (base : Nat) (v : Value) (ps : List (Int × Int)) : Prop := w.ownsRow base 41 2 v ps.length (rowsL ps.length 2 (pV ps))
theorem PR.nil (w : World) (base : Nat) : PR w base (.slice none 0 0) [] := World.ownsRow_nil _ _ _ _
theorem PR.below {w w' : World} {base : Nat} {v : Value} {ps : List (Int × Int)} (h : PR w base v ps) (hb : Below w.heap.size w w') : PR w' base v ps := ownsRow_below h hb
theorem PR.shape {w : World} {base : Nat} {v : Value} {ps : List (Int × Int)} (h : PR w base v ps) : ∃ A c, v = .slice A ps.length c ∧ ∀ i (hi : i < ps.length), ∃ g, A = some ⟨g, 0, none⟩ ∧ w.cell? ⟨g, i * 2, none⟩ = some (.int .i64 ps[i].1) ∧ w.cell? ⟨g, i * 2 + 1, none⟩ = some (.int .i64 ps[i].2) := by
  rcases h.2 with ⟨rfl, h0⟩ | ⟨g, cap, cur, rfl, hg, hh, h1, h2, h3, h4⟩
  · exact ⟨none, 0, by rw [h0], fun i hi => by omega⟩
  · refine ⟨_, _, rfl, fun i hi => ⟨g, rfl, ?_, ?_⟩⟩
    · have := World.ownsRow.cellAt h (i * 2) (by omega)
      rw [this, show i * 2 = i * 2 + 0 from rfl, rowsL_at hi (show 0 < 2 by decide)]
      show some (Value.int .i64 (ps.getD i (0, 0)).1) = _
      rw [List.getD_eq_getElem?_getD, List.getElem?_eq_getElem hi]; rfl
    · have := World.ownsRow.cellAt h (i * 2 + 1) (by omega)
      rw [this, rowsL_at hi (show 1 < 2 by decide)]
      show some (Value.int .i64 (ps.getD i (0, 0)).2) = _
      rw [List.getD_eq_getElem?_getD, List.getElem?_eq_getElem hi]; rfl
theorem PR.cells {w : World} {base g n c : Nat} {ps : List (Int × Int)} (h : PR w base (.slice (some ⟨g, 0, none⟩) n c) ps) {i : Nat} (hi : i < ps.length) : w.cell? ⟨g, i * 2, none⟩ = some (.int .i64 ps[i].1) ∧ w.cell? ⟨g, i * 2 + 1, none⟩ = some (.int .i64 ps[i].2) := by
  obtain ⟨A, c', e, hc⟩ := h.shape
  obtain ⟨g', e2, h1, h2⟩ := hc i hi
  have := (Value.slice.inj e).1
  rw [e2] at this
  cases this
  exact ⟨h1, h2⟩
theorem pair_rows (ps : List (Int × Int)) (p q : Int) : rowsL ps.length 2 (pV ps) ++ [.int .i64 p, .int .i64 q] = rowsL (ps ++ [(p, q)]).length 2 (pV (ps ++ [(p, q)])) := by
  rw [List.length_append, List.length_singleton, rowsL_succ]
  congr 1
  · refine rowsL_congr (fun i hi j hj => ?_)
    have hd : (ps ++ [(p, q)]).getD i (0, 0) = ps.getD i (0, 0) := by
      rw [List.getD_eq_getElem?_getD, List.getD_eq_getElem?_getD, List.getElem?_append_left hi]
    match j with
    | 0 => show Value.int .i64 _ = Value.int .i64 _; rw [hd]
    | j + 1 => show Value.int .i64 _ = Value.int .i64 _; rw [hd]
  · have hd : (ps ++ [(p, q)]).getD ps.length (0, 0) = (p, q) := by
      rw [List.getD_eq_getElem?_getD, List.getElem?_append_right (Nat.le_refl _), Nat.sub_self]; rfl
    show [_, _] = [Value.int .i64 ((ps ++ [(p, q)]).getD ps.length (0, 0)).1, Value.int .i64 ((ps ++ [(p, q)]).getD ps.length (0, 0)).2]
    rw [hd]
/-- one pair more -/
theorem wpList_pair {w : World} {ops : Array Oper} {rest : List Oper} {o : Oper} {a : Act} {Q : Exit → Act → World → Prop} (hgd : o.guard = none) (s x : Operand)
    (ho : o.op = .call { callee := .builtin .append, args := #[s, x], argTypes := #[39, 39] })
    (base : Nat) (v : Value) (ps : List (Int × Int)) (hs : a.eval s = v) (hown : PR w base v ps) {B : Nat} {p q : Int}
    (hx : a.eval x = .slice (some ⟨B, 0, none⟩) 1 1) (hc0 : w.cell? ⟨B, 0, none⟩ = some (.int .i64 p)) (hc1 : w.cell? ⟨B, 1, none⟩ = some (.int .i64 q)) (hb : ps.length ≤ 1000000) (hbase : base ≤ w.heap.size)
    (h : ∀ v' w', PR w' base v' (ps ++ [(p, q)]) → Below base w w' → wpList Try.prog ops Q rest (a.put o.dst v') w') : wpList Try.prog ops Q (o :: rest) a w := by
  obtain ⟨i0, hi, hz0, hz1, hz2⟩ := info_parts infoP
  refine wpList_append_own (P := Try.prog) _ hgd s x 39 ho base 41 i0 (.agg #[.int .i64 0, .int .i64 0]) 2 16 Try.underlying39 hi hz0 hz1 hz2 rfl (by decide) v ps.length _ hs hown ⟨B, 0, none⟩ 1 1 [.int .i64 p, .int .i64 q] hx rfl ?_ (by simp [Value.oneCell']) (by unfold maxLen; omega) (by omega) hbase ?_
  · intro j u hu
    match j with
    | 0 => cases hu; rw [add_plain]; exact hc0
    | 1 => cases hu; rw [add_plain]; exact hc1
    | j + 2 => cases hu
  · intro v' w' h2 h3 _
    refine h v' w' ?_ (below_of_append hown h3 hbase)
    unfold PR
    rw [← pair_rows, List.length_append, List.length_singleton]
    exact h2
theorem step_pair {ops : Array Oper} {o : Oper} {a : Act} {w : World} {K : Act → World → Prop} {Q : Exit → Act → World → Prop} {E : Prop} (hg : o.guard = none) (s x : Operand)
    (ho : o.op = .call { callee := .builtin .append, args := #[s, x], argTypes := #[39, 39] })
    (base : Nat) (v : Value) (ps : List (Int × Int)) (hs : a.eval s = v) (hown : PR w base v ps) {B : Nat} {p q : Int}
    (hx : a.eval x = .slice (some ⟨B, 0, none⟩) 1 1) (hc0 : w.cell? ⟨B, 0, none⟩ = some (.int .i64 p)) (hc1 : w.cell? ⟨B, 1, none⟩ = some (.int .i64 q)) (hb : ps.length ≤ 1000000) (hbase : base ≤ w.heap.size)
    (hK : ∀ v' w', PR w' base v' (ps ++ [(p, q)]) → Below base w w' → K (a.put o.dst v') w') : if Region.wanted o (yielded ops a.tmps) = true then Oper.wp Try.prog o a w K Q else E := by
  obtain ⟨i0, hi, hz0, hz1, hz2⟩ := info_parts infoP
  rw [if_pos (by simp [Region.wanted, hg])]
  refine wp_append_own (P := Try.prog) _ s x 39 ho base 41 i0 (.agg #[.int .i64 0, .int .i64 0]) 2 16 Try.underlying39 hi hz0 hz1 hz2 rfl (by decide) v ps.length _ hs hown ⟨B, 0, none⟩ 1 1 [.int .i64 p, .int .i64 q] hx rfl ?_ (by simp [Value.oneCell']) (by unfold maxLen; omega) (by omega) hbase ?_
  · intro j u hu
    match j with
    | 0 => cases hu; rw [add_plain]; exact hc0
    | 1 => cases hu; rw [add_plain]; exact hc1
    | j + 2 => cases hu
  · intro v' w' h2 h3 _
    refine hK v' w' ?_ (below_of_append hown h3 hbase)
    unfold PR
    rw [← pair_rows, List.length_append, List.length_singleton]
    exact h2
theorem pair_cells (w : World) (p q : Int) : (w.alloc (.cells #[.int .i64 p, .int .i64 q] 41)).cell? ⟨w.heap.size, 0, none⟩ = some (.int .i64 p) ∧ (w.alloc (.cells #[.int .i64 p, .int .i64 q] 41)).cell? ⟨w.heap.size, 1, none⟩ = some (.int .i64 q) := by
  have := heap_alloc_new w (.cells #[.int .i64 p, .int .i64 q] 41)
  constructor <;> (unfold World.cell?; rw [this]; rfl)
theorem PM.keeps {w w' : World} {s bw bm : Nat} {m : Hp} {X : Nat → Prop} (h : PM w s bw bm m) (hX : ∀ k, pset s bw bm k → X k) (hk : Keeps X w w') : PM w' s bw bm m :=
  h.same (hk.block (hX _ (.inl rfl)) (h.lt _ (.inl rfl))) (hk.block (hX _ (.inr (.inl rfl))) (h.lt _ (.inr (.inl rfl)))) (hk.block (hX _ (.inr (.inr rfl))) (h.lt _ (.inr (.inr rfl))))
theorem second_made {X : Nat → Prop} {w0 wc : World} {s r : Nat} {mp mr : Hp} (h : LG X w0 wc s r mp mr) {A : Option Addr} {n c : Nat} {T : Nat → ThT} (hR : RawT w0 A n c T) :
    Calls Try.prog 9 #[.slice A n c] wc fun e w' => ∃ s2 r2 X' bw2 bm2, (∀ k, X k → X' k) ∧ e = .returned (.tuple #[.pointer (some ⟨s2, 0, none⟩), .pointer (some ⟨r2, 0, none⟩), .bool true]) ∧ LG X' w0 w' s r mp mr ∧ PM w' s2 bw2 bm2 (madeV T n) ∧ (∀ k, pset s2 bw2 bm2 k → X' k) ∧ Below wc.heap.size wc w' := by
  refine (things_any (hR.below h.stays)).mono ?_
  rintro e w' ⟨s2, r2, rfl, hg⟩
  obtain ⟨bw2, bm2, R2, ⟨lv, fv, P, Q, _, h4⟩, hb, q⟩ := hg
  refine ⟨s2, r2, moreX X wc.heap.size w'.heap.size, bw2, bm2, fun k z => .inl z, rfl, h.grow hb, P, fun k hk => ?_, hb⟩
  rcases Nat.lt_or_ge k wc.heap.size with z | z
  · exact absurd hk (h4 k z).1
  · exact .inr ⟨z, P.lt k hk⟩
theorem LG.pm {X : Nat → Prop} {w0 wc : World} {s r : Nat} {mp mr : Hp} (h : LG X w0 wc s r mp mr) : ∃ bw bm, PM wc s bw bm mp := by
  obtain ⟨bw, bm, R, ⟨lv, fv, P, Q, _⟩, _⟩ := h
  exact ⟨bw, bm, P⟩
end Go.Proofs.Ythjjanjmiinpbaa
