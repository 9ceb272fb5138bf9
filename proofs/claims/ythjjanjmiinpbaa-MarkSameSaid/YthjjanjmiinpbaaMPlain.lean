/- Chapter 03: what is reached: plain mathematics. -/
import Derived.Test.YthjjanjmiinpbaaHKeep
import Derived.Test.YthjjanjmiinpbaaRR1
import Derived.Test.YthjjanjmiinpbaaHMaps
import Derived.Maps.RangeWalk
import Derived.Maps.Views
import Derived.WalkSmall
namespace Go.Proofs.Ythjjanjmiinpbaa
set_option linter.unusedVariables false
set_option linter.unusedSimpArgs false
/-- the words of an object by which others are reached -/
def kids (L : List Ob) (o : Int) : List Int := wordsO (lookO L o)
/-- what is reached from roots -/
inductive Rch (L : List Ob) (rs : List Int) : Int → Prop
  | root {x : Int} (h : x ∈ rs) (v : isV L x = true) : Rch L rs x
  | step {o x : Int} (h : Rch L rs o) (hk : x ∈ kids L o) (v : isV L x = true) : Rch L rs x
section
variable {L : List Ob} {rs : List Int}
theorem Rch.valid {x : Int} (h : Rch L rs x) : isV L x = true := by
  cases h with
  | root _ v => exact v
  | step _ _ v => exact v
theorem Rch.to {S : Int → Prop} (hr : ∀ x, x ∈ rs → isV L x = true → S x) (hc : ∀ o, S o → ∀ x, x ∈ kids L o → isV L x = true → S x) {x : Int} (h : Rch L rs x) : S x := by
  induction h with
  | root h v => exact hr _ h v
  | step _ hk v ih => exact hc _ ih _ hk v
noncomputable instance (L : List Ob) (rs : List Int) (x : Int) : Decidable (Rch L rs x) := Classical.propDecidable _
noncomputable def reachL (L : List Ob) (rs : List Int) : List Int := (ptrs L).filter (fun x => decide (Rch L rs x))
theorem isV_ptrs {x : Int} : x ∈ ptrs L ↔ isV L x = true := by
  unfold ptrs
  constructor
  · intro h
    obtain ⟨i, hi, rfl⟩ := List.mem_map.1 h
    exact isV_iff.2 ⟨i, List.mem_range.1 hi, rfl⟩
  · intro h
    obtain ⟨i, hi, rfl⟩ := isV_iff.1 h
    exact List.mem_map.2 ⟨i, List.mem_range.2 hi, rfl⟩
theorem ptrs_rise (L : List Ob) : (ptrs L).Pairwise (· < ·) := by
  unfold ptrs
  rw [List.pairwise_map]
  refine List.pairwise_lt_range.imp_of_mem ?_
  intro i j hi hj hij
  have h2 := List.mem_range.1 hj
  have := adr_lt L j i hij (by omega)
  unfold ptr
  omega
theorem ptrs_nodup (L : List Ob) : (ptrs L).Nodup := (ptrs_rise L).imp (fun h => by omega)
theorem mem_reach {x : Int} : x ∈ reachL L rs ↔ Rch L rs x := by
  unfold reachL
  rw [List.mem_filter]
  constructor
  · rintro ⟨_, h⟩; exact of_decide_eq_true h
  · intro h; exact ⟨isV_ptrs.2 h.valid, decide_eq_true h⟩
theorem reach_rise : (reachL L rs).Pairwise (· < ·) := (ptrs_rise L).filter _
theorem reach_nodup : (reachL L rs).Nodup := (ptrs_nodup L).filter _
theorem reach_filter {p : Int → Bool} (h : ∀ x, p x = true ↔ Rch L rs x) : (ptrs L).filter p = reachL L rs := by
  unfold reachL
  refine List.filter_congr (fun x _ => ?_)
  rw [Bool.eq_iff_iff, h x]
  simp
/-- what is told of what is reached -/
noncomputable def reachedV (m : Hp) (rs : List Int) : List Int × Int := if rs.all (mayV m.L) then (reachL m.L rs, 0) else ([], 1)
theorem nodup_len : ∀ {l l' : List Int}, l.Nodup → (∀ x, x ∈ l → x ∈ l') → l.length ≤ l'.length
  | [], _, _, _ => Nat.zero_le _
  | a :: l, l', hd, hs => by
    have ha := hs a (List.mem_cons_self ..)
    have hc := List.nodup_cons.1 hd
    have h2 : ∀ x, x ∈ l → x ∈ l'.erase a := fun x hx => (List.mem_erase_of_ne (fun e => hc.1 (by rw [← e]; exact hx))).2 (hs x (List.mem_cons_of_mem _ hx))
    have := nodup_len (l' := l'.erase a) hc.2 h2
    rw [List.length_erase_of_mem ha] at this
    have := List.length_pos_of_mem ha
    simp only [List.length_cons]; omega
/-- valid numbers, each once: no more than there are objects -/
theorem len_nodup {l : List Int} (hd : l.Nodup) (hv : ∀ x, x ∈ l → isV L x = true) : l.length ≤ L.length := by
  have := nodup_len hd (fun x hx => isV_ptrs.2 (hv x hx))
  simpa [ptrs] using this
/-! ### the way in depth -/
/-- what is seen, what waits, what is still to be looked at -/
structure DF (L : List Ob) (rs pend : List Int) (seen : Int → Bool) (waits : List Int) : Prop where
  snd : ∀ x, seen x = true → Rch L rs x
  sub : ∀ x, x ∈ waits → seen x = true
  nodup : waits.Nodup
  roots : ∀ x, x ∈ rs → isV L x = true → seen x = true ∨ x ∈ pend
  closed : ∀ o, seen o = true → o ∈ waits ∨ ∀ x, x ∈ kids L o → isV L x = true → seen x = true ∨ x ∈ pend
  pok : ∀ x, x ∈ pend → isV L x = true → Rch L rs x
def upd (f : Int → Bool) (w : Int) : Int → Bool := fun x => if x = w then true else f x
theorem DF.start : DF L rs rs (fun _ => false) [] := ⟨fun x h => (by cases h), fun x h => (by cases h), List.nodup_nil, fun x h _ => .inr h, fun o h => (by cases h), fun x h v => .root h v⟩
theorem DF.skip {pend waits : List Int} {seen : Int → Bool} {w : Int} (h : DF L rs (w :: pend) seen waits) (hw : (isV L w && !seen w) = false) : DF L rs pend seen waits := by
  have key : ∀ x, isV L x = true → seen x = true ∨ x ∈ w :: pend → seen x = true ∨ x ∈ pend := by
    intro x v q
    rcases q with q | q
    · exact .inl q
    · rcases List.mem_cons.1 q with rfl | q
      · rw [v] at hw
        simp at hw
        exact .inl hw
      · exact .inr q
  exact ⟨h.snd, h.sub, h.nodup, fun x hx v => key x v (h.roots x hx v), fun o ho => (h.closed o ho).imp id (fun q x hx v => key x v (q x hx v)), fun x hx v => h.pok x (List.mem_cons_of_mem _ hx) v⟩
theorem DF.see {pend waits : List Int} {seen : Int → Bool} {w : Int} (h : DF L rs (w :: pend) seen waits) (hv : isV L w = true) (hs : seen w = false) : DF L rs pend (upd seen w) (waits ++ [w]) := by
  have up : ∀ x, seen x = true → upd seen w x = true := fun x q => by unfold upd; rw [q]; split <;> rfl
  have key : ∀ x, seen x = true ∨ x ∈ w :: pend → upd seen w x = true ∨ x ∈ pend := by
    intro x q
    rcases q with q | q
    · exact .inl (up x q)
    · rcases List.mem_cons.1 q with rfl | q
      · exact .inl (by unfold upd; rw [if_pos rfl])
      · exact .inr q
  have hwn : w ∉ waits := fun q => by rw [h.sub w q] at hs; cases hs
  refine ⟨fun x hx => ?_, fun x hx => ?_, ?_, fun x hx v => key x (h.roots x hx v), fun o ho => ?_, fun x hx v => h.pok x (List.mem_cons_of_mem _ hx) v⟩
  · unfold upd at hx
    by_cases e : x = w
    · subst e; exact h.pok _ (List.mem_cons_self ..) hv
    · rw [if_neg e] at hx; exact h.snd x hx
  · rcases List.mem_append.1 hx with q | q
    · exact up x (h.sub x q)
    · rw [List.mem_singleton.1 q]; unfold upd; rw [if_pos rfl]
  · rw [List.nodup_append]
    exact ⟨h.nodup, by simp, fun a ha b hb e => hwn (by rw [← List.mem_singleton.1 hb, ← e]; exact ha)⟩
  · unfold upd at ho
    by_cases e : o = w
    · subst e; exact .inl (List.mem_append.2 (.inr (by simp)))
    · rw [if_neg e] at ho
      exact (h.closed o ho).imp (fun q => List.mem_append.2 (.inl q)) (fun q x hx v => key x (q x hx v))
theorem DF.pop {waits : List Int} {seen : Int → Bool} {o : Int} (h : DF L rs [] seen (waits ++ [o])) : DF L rs (kids L o) seen waits := by
  have ho := h.sub o (by simp)
  have hd := List.nodup_append.1 h.nodup
  refine ⟨h.snd, fun x hx => h.sub x (List.mem_append.2 (.inl hx)), hd.1, fun x hx v => (h.roots x hx v).imp id (fun q => by cases q), fun p hp => ?_, fun x hx v => .step (h.snd o ho) hx v⟩
  rcases h.closed p hp with q | q
  · rcases List.mem_append.1 q with q | q
    · exact .inl q
    · rw [List.mem_singleton.1 q]; exact .inr (fun x hx _ => .inr hx)
  · exact .inr (fun x hx v => (q x hx v).imp id (fun z => by cases z))
theorem DF.fin {seen : Int → Bool} (h : DF L rs [] seen []) (x : Int) : seen x = true ↔ Rch L rs x :=
  ⟨h.snd x, fun q => q.to (S := fun x => seen x = true) (fun x hx v => (h.roots x hx v).resolve_right (fun z => by cases z)) (fun o ho x hx v => ((h.closed o ho).resolve_left (fun z => by cases z) x hx v).resolve_right (fun z => by cases z))⟩
/-- how many are not yet seen -/
def unseen (L : List Ob) (seen : Int → Bool) : Nat := ((ptrs L).filter (fun x => !seen x)).length
theorem filter_lt {l : List Int} {p q : Int → Bool} (hpq : ∀ x, x ∈ l → q x = true → p x = true) {w : Int} (hw : w ∈ l) (hp : p w = true) (hq : q w = false) : (l.filter q).length < (l.filter p).length := by
  induction l with
  | nil => cases hw
  | cons a l ih =>
    have hle : (l.filter q).length ≤ (l.filter p).length := by
      rw [← List.countP_eq_length_filter, ← List.countP_eq_length_filter]
      exact List.countP_mono_left (fun x hx => hpq x (List.mem_cons_of_mem _ hx))
    rcases List.mem_cons.1 hw with rfl | hw
    · rw [List.filter_cons_of_pos hp, List.filter_cons_of_neg (by rw [hq]; simp)]
      simp only [List.length_cons]; omega
    · have := ih (fun x hx => hpq x (List.mem_cons_of_mem _ hx)) hw
      rw [List.filter_cons, List.filter_cons]
      by_cases h1 : q a = true
      · rw [if_pos h1, if_pos (hpq a (List.mem_cons_self ..) h1)]; simp only [List.length_cons]; omega
      · rw [if_neg h1]
        split <;> (try simp only [List.length_cons]) <;> omega
theorem unseen_see {seen : Int → Bool} {w : Int} (hv : isV L w = true) (hs : seen w = false) : unseen L (upd seen w) < unseen L seen := by
  unfold unseen
  refine filter_lt (w := w) (fun x _ hx => ?_) (isV_ptrs.2 hv) (by rw [hs]; rfl) (by unfold upd; rw [if_pos rfl]; rfl)
  unfold upd at hx
  split at hx
  · cases hx
  · exact hx
theorem DF.len {pend waits : List Int} {seen : Int → Bool} (h : DF L rs pend seen waits) : waits.length ≤ L.length := len_nodup h.nodup (fun x hx => (h.snd x (h.sub x hx)).valid)
/-! ### the way in breadth -/
structure BF (L : List Ob) (rs pend now : List Int) (i : Nat) : Prop where
  snd : ∀ x, x ∈ now → Rch L rs x
  nodup : now.Nodup
  le : i ≤ now.length
  roots : ∀ x, x ∈ rs → isV L x = true → x ∈ now ∨ x ∈ pend
  closed : ∀ j (hj : j < now.length), j < i → ∀ x, x ∈ kids L now[j] → isV L x = true → x ∈ now ∨ x ∈ pend
  pok : ∀ x, x ∈ pend → isV L x = true → Rch L rs x
theorem BF.start : BF L rs rs [] 0 := ⟨fun x h => (by cases h), List.nodup_nil, Nat.le_refl _, fun x h _ => .inr h, fun j hj => absurd hj (Nat.not_lt_zero _), fun x h v => .root h v⟩
theorem BF.skip {pend now : List Int} {i : Nat} {w : Int} (h : BF L rs (w :: pend) now i) (hw : (isV L w && !now.contains w) = false) : BF L rs pend now i := by
  have key : ∀ x, isV L x = true → x ∈ now ∨ x ∈ w :: pend → x ∈ now ∨ x ∈ pend := by
    intro x v q
    rcases q with q | q
    · exact .inl q
    · rcases List.mem_cons.1 q with rfl | q
      · rw [v] at hw
        simp at hw
        exact .inl hw
      · exact .inr q
  exact ⟨h.snd, h.nodup, h.le, fun x hx v => key x v (h.roots x hx v), fun j hj hji x hx v => key x v (h.closed j hj hji x hx v), fun x hx v => h.pok x (List.mem_cons_of_mem _ hx) v⟩
theorem BF.see {pend now : List Int} {i : Nat} {w : Int} (h : BF L rs (w :: pend) now i) (hv : isV L w = true) (hs : now.contains w = false) : BF L rs pend (now ++ [w]) i := by
  have hwn : w ∉ now := fun q => by rw [List.contains_iff_mem.2 q] at hs; cases hs
  have key : ∀ x, x ∈ now ∨ x ∈ w :: pend → x ∈ now ++ [w] ∨ x ∈ pend := by
    intro x q
    rcases q with q | q
    · exact .inl (List.mem_append.2 (.inl q))
    · rcases List.mem_cons.1 q with rfl | q
      · exact .inl (by simp)
      · exact .inr q
  have hle := h.le
  refine ⟨fun x hx => ?_, ?_, by simp; omega, fun x hx v => key x (h.roots x hx v), fun j hj hji x hx v => ?_, fun x hx v => h.pok x (List.mem_cons_of_mem _ hx) v⟩
  · rcases List.mem_append.1 hx with q | q
    · exact h.snd x q
    · rw [List.mem_singleton.1 q]; exact h.pok _ (List.mem_cons_self ..) hv
  · rw [List.nodup_append]
    exact ⟨h.nodup, by simp, fun a ha b hb e => hwn (by rw [← List.mem_singleton.1 hb, ← e]; exact ha)⟩
  · rw [List.getElem_append_left (by omega)] at hx
    exact key x (h.closed j (by omega) hji x hx v)
theorem BF.next {now : List Int} {i : Nat} (h : BF L rs [] now i) (hi : i < now.length) : BF L rs (kids L now[i]) now (i + 1) := by
  refine ⟨h.snd, h.nodup, hi, fun x hx v => (h.roots x hx v).imp id (fun q => by cases q), fun j hj hji x hx v => ?_, fun x hx v => .step (h.snd _ (List.getElem_mem hi)) hx v⟩
  rcases Nat.lt_or_ge j i with q | q
  · exact (h.closed j hj q x hx v).imp id (fun z => by cases z)
  · obtain rfl : j = i := by omega
    exact .inr hx
theorem BF.fin {now : List Int} (h : BF L rs [] now now.length) (x : Int) : now.contains x = true ↔ Rch L rs x := by
  rw [List.contains_iff_mem]
  exact ⟨h.snd x, fun q => q.to (S := fun x => x ∈ now) (fun x hx v => (h.roots x hx v).resolve_right (fun z => by cases z)) (fun o ho x hx v => by
    obtain ⟨j, hj, rfl⟩ := List.mem_iff_getElem.1 ho
    exact (h.closed j hj hj x hx v).resolve_right (fun z => by cases z))⟩
theorem BF.len {pend now : List Int} {i : Nat} (h : BF L rs pend now i) : now.length ≤ L.length := len_nodup h.nodup (fun x hx => (h.snd x hx).valid)
/-! ### two lists of roots -/
theorem rch_union {xs ys : List Int} {z : Int} : Rch L (xs ++ ys) z ↔ Rch L xs z ∨ Rch L ys z := by
  constructor
  · intro h
    refine h.to (S := fun z => Rch L xs z ∨ Rch L ys z) (fun x hx v => ?_) (fun o ho x hx v => ?_)
    · exact (List.mem_append.1 hx).imp (fun q => .root q v) (fun q => .root q v)
    · exact ho.imp (fun q => .step q hx v) (fun q => .step q hx v)
  · rintro (h | h)
    · exact h.to (S := Rch L (xs ++ ys)) (fun x hx v => .root (List.mem_append.2 (.inl hx)) v) (fun o ho x hx v => .step ho hx v)
    · exact h.to (S := Rch L (xs ++ ys)) (fun x hx v => .root (List.mem_append.2 (.inr hx)) v) (fun o ho x hx v => .step ho hx v)
end
end Go.Proofs.Ythjjanjmiinpbaa
/- Chapter 03: the map of what is seen, and its keys. -/
namespace Go.Proofs.Ythjjanjmiinpbaa
open Go.ChangeShapes Go.WideShapes Go.ChangeAt Go.RowKit Go.Deep Go.Joins Go.Maps
set_option linter.unusedVariables false
set_option linter.unusedSimpArgs false
/-- block b is a map of at most n ints which holds 'true' at those that f says, and no more -/
def SeenMap (w : World) (b n : Nat) (f : Int → Bool) : Prop := ∃ D : DataW Unit, w.ownsMap Try.prog 3 (plainElem Try.prog 4) b n D ∧ (∀ a, InI a → D.atKey (.int .i64 a) (.lit (.bool false)) = .lit (.bool (f a))) ∧ ∀ a, InI a → Maps.has D (.int .i64 a) = f a
theorem SeenMap.bool {w : World} {b n : Nat} {f : Int → Bool} (h : SeenMap w b n f) : BoolMap w b n f := by
  obtain ⟨D, h1, h2, _⟩ := h; exact ⟨D, h1, h2⟩
theorem SeenMap.made (w : World) : SeenMap (w.alloc (.map #[] 0)) w.heap.size 0 (fun _ => false) := ⟨_, World.ownsMap_made _ _ _ _, fun a _ => rfl, fun a _ => rfl⟩
theorem SeenMap.mono {w : World} {b n n' : Nat} {f : Int → Bool} (h : SeenMap w b n f) (hn : n ≤ n') : SeenMap w b n' f := by
  obtain ⟨D, h1, h2⟩ := h; exact ⟨D, h1.mono hn, h2⟩
theorem SeenMap.lt {w : World} {b n : Nat} {f : Int → Bool} (h : SeenMap w b n f) : b < w.heap.size := h.bool.lt
theorem SeenMap.same {w w' : World} {b n : Nat} {f : Int → Bool} (h : SeenMap w b n f) (hb : w'.heap[b]? = w.heap[b]?) : SeenMap w' b n f := by
  obtain ⟨D, ⟨es, clock, h1, h3⟩, h2⟩ := h
  exact ⟨D, ⟨es, clock, hb.trans h1, h3⟩, h2⟩
theorem SeenMap.look {w : World} {b n : Nat} {f : Int → Bool} (h : SeenMap w b n f) {a : Int} (ha : InI a) : (Instr.lookup 61 (.map (some b)) (.int .i64 a) false).run Try.prog w = .ok (.bool (f a)) w := h.bool.look ha
/-- 'seen[k] = true', at the operation -/
theorem wpList_seen (w : World) {ops : Array Oper} {rest : List Oper} {o : Oper} {a : Act} {Q : Exit → Act → World → Prop} (hg : o.guard = none) (m x v : Operand) (hop : o.op = Op.mapUpdate 61 m x v) {b n : Nat} {f : Int → Bool} (h : SeenMap w b n f) (hn : n < maxLen) {k : Int} (hk : InI k) (hm : a.eval m = .map (some b)) (hx : a.eval x = .int .i64 k) (hv : a.eval v = .bool true)
    (hK : ∀ w', SeenMap w' b (n + 1) (upd f k) → w.grownBy w' (some b) → wpList Try.prog ops Q rest (a.put o.dst undef) w') : wpList Try.prog ops Q (o :: rest) a w := by
  obtain ⟨D, h1, h2, h3⟩ := h
  refine wpList_mapUpdate_own w hg m x v 61 hop 3 4 keyedI Try.underlying61 _ b n D hm h1 hn _ _ (.int .i64 k) hx hv (key_i hk) (.lit (.bool true)) [] (plainElem_bool Try.underlying4 true) (fun w' r1 r2 => hK w' ⟨_, r1, fun c hc => ?_, fun c hc => ?_⟩ r2)
  · unfold upd
    by_cases e : c = k
    · subst e
      rw [if_pos rfl]
      exact atKey_put_same (h1.isMap) (show WideAt.IsKeyLit (.int .i64 c) from trivial) _ _
    · rw [if_neg e, atKey_put_other (by intro q; cases q; exact e rfl), h2 c hc]
  · unfold upd
    by_cases e : c = k
    · subst e
      rw [if_pos rfl]
      exact has_put_same (h1.isMap) (show WideAt.IsKeyLit (.int .i64 c) from trivial) _
    · rw [if_neg e, has_put_other (by intro q; cases q; exact e rfl), h3 c hc]
/-- no key twice; a key is on the list just where the map has it and it is no longer to come -/
def CollI (D0 : DataW Unit) (left : Lit → Bool) (ks : List Int) : Prop := ks.Nodup ∧ (∀ x, x ∈ ks → InI x) ∧ ∀ x, InI x → (x ∈ ks ↔ (Maps.has D0 (.int .i64 x) = true ∧ left (.int .i64 x) = false))
theorem CollI.start (D0 : DataW Unit) : CollI D0 (Maps.has D0) [] := ⟨List.nodup_nil, fun x h => (by cases h), fun x _ => by cases Maps.has D0 (.int .i64 x) <;> simp⟩
theorem CollI.step {D0 : DataW Unit} {left : Lit → Bool} {ks : List Int} (h : CollI D0 left ks) {x : Int} (hx : InI x) {y : DataW Unit} (hlk : left (.int .i64 x) = true) (hat : ∀ zd, D0.atKey (.int .i64 x) zd = y) : CollI D0 (fun z => left z && !z.sameKey (.int .i64 x)) (ks ++ [x]) := by
  have hhas : Maps.has D0 (.int .i64 x) = true := has_true_of_atKey hat
  have hn : x ∉ ks := fun q => by rw [((h.2.2 x hx).1 q).2] at hlk; cases hlk
  refine ⟨?_, fun z hz => ?_, fun z hz => ?_⟩
  · rw [List.nodup_append]
    exact ⟨h.1, by simp, fun a ha b hb e => hn (by rw [← List.mem_singleton.1 hb, ← e]; exact ha)⟩
  · rcases List.mem_append.1 hz with q | q
    · exact h.2.1 z q
    · rw [List.mem_singleton.1 q]; exact hx
  · rw [List.mem_append, h.2.2 z hz, List.mem_singleton]
    by_cases e : z = x
    · subst e
      simp [hhas, Lit.sameKey]
    · have hs : (Lit.int .i64 z).sameKey (.int .i64 x) = false := by simp [Lit.sameKey, e]
      simp [hs, e]
/-- at the end: the keys are what is seen -/
theorem CollI.fin {D0 : DataW Unit} {left : Lit → Bool} {ks : List Int} (h : CollI D0 left ks) (hl : ∀ kl, left kl = false) {f : Int → Bool} (hf : ∀ a, InI a → Maps.has D0 (.int .i64 a) = f a) {L : List Ob} {rs : List Int} (hr : ∀ x, f x = true ↔ Rch L rs x) (hI : ∀ x, isV L x = true → InI x) : ks.Perm (reachL L rs) := by
  refine (List.perm_ext_iff_of_nodup h.1 reach_nodup).2 (fun x => ?_)
  rw [mem_reach, ← hr]
  constructor
  · intro hx
    have hi := h.2.1 x hx
    rw [← hf x hi]; exact ((h.2.2 x hi).1 hx).1
  · intro hx
    have hi := hI x ((hr x).1 hx).valid
    exact (h.2.2 x hi).2 ⟨by rw [hf x hi]; exact hx, hl _⟩
end Go.Proofs.Ythjjanjmiinpbaa
