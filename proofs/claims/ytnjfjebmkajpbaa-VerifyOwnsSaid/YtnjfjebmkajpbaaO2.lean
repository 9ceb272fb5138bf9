/- What the statements' arguments hold: literals, methods. -/
import Derived.Test.YtnjfjebmkajpbaaO1
import Derived.Test.YtnjfjebmkajpbaaB3
namespace Go.Proofs.Ytnjfjebmkajpbaa
open Go.ChangeShapes Go.WideShapes Go.ChangeAt Go.RowKit Go.Deep Go.Joins
set_option linter.unusedVariables false
set_option linter.unusedSimpArgs false

section
variable {H : Type} {enc : TypeId × Value → H} {P : Program} {w : World} {base b0 : Nat} {spare : Nat → Bool} {held : Bool} {r : Go.Reach}
theorem open_row_fuel {t e : TypeId} {fs : Array Field} {fuel : Nat} {cs : List Value} {x : DataW H × List MemPlace} (ht : P.underlying t = some (.slice e)) (he : P.underlying e = some (.struct fs))
    (hone : oneCellFields P fs = true) (hC : P.cellsOf e = fs.size) (hs : 0 < fs.size) (h : DataW.trod enc P w base spare held fuel t cs = some x) :
    ∃ A n c F, cs = [.slice A n c] ∧ n ≤ c ∧ c ≤ maxLen ∧ Row w A n fs.size F ∧
      ∀ i, i < n → ∃ m, m < fuel ∧ ∀ (j : Nat) (f : Field), fs[j]? = some f → ∃ y, DataW.trod enc P w base spare held m f.type [F i j] = some y := by
  rcases DataW.trod_slice ht h with ⟨rfl, _⟩ | ⟨a, len, cap, elems, rest, n, hfu, rfl, rfl, hb, hl, hm, hlen, hel, hsp, hns⟩
  · exact ⟨none, 0, 0, fun _ _ => undef, rfl, Nat.le_refl _, by unfold maxLen; omega, fun h => absurd h (by omega), fun i hi => absurd hi (by omega)⟩
  · have key : ∀ i, i < len → ∃ m, m < fuel ∧ ∀ (j : Nat) (f : Field), fs[j]? = some f → ∃ v y, w.cell? (a.add (i * fs.size + j)) = some v ∧ DataW.trod enc P w base spare held m f.type [v] = some y := by
      intro i hil
      have h1 := hel i hil
      rw [List.getElem?_eq_getElem (by omega)] at h1
      obtain ⟨cs', hc, ht'⟩ := Option.bind_eq_some_iff.1 h1
      rw [hC] at hc
      obtain ⟨ys, n', hfu', hy, hlen', hyl, hf⟩ := DataW.trod_struct he ht'
      refine ⟨n', by omega, fun j f hj => ?_⟩
      obtain ⟨_, hcl, hat⟩ := World.cells?_some hc
      obtain ⟨ho, hk⟩ := hone_of hone j f hj
      have hjl : j < fs.size := (Array.getElem?_eq_some_iff.1 hj).1
      have hcell := hat j hjl
      have hv : cs'[j]? = some (cs'[j]'(by omega)) := List.getElem?_eq_getElem (by omega)
      have h1 := hf j f hj
      rw [ho, hk] at h1
      have hone' : (cs'.drop j).take 1 = [cs'[j]'(by omega)] := by
        rw [List.drop_eq_getElem_cons (by omega)]
        rfl
      rw [hone'] at h1
      have hys : ys[j]? = some (ys[j]'(by omega)) := List.getElem?_eq_getElem (by omega)
      refine ⟨_, _, ?_, h1.trans hys⟩
      rw [← Go.Deep.add_add, hcell, hv]
    by_cases h0 : 0 < len
    · obtain ⟨_, _, hk0⟩ := key 0 h0
      obtain ⟨v, _, hv, _⟩ := hk0 0 fs[0] (by simp [hs])
      have hspot : a.spot = none := by
        have := World.cell?_spot hv
        simpa [Addr.add] using this
      have hblk := cell_lt hv
      obtain ⟨b, off, spot⟩ := a
      subst hspot
      have hblk' : b < w.heap.size := by simpa [Addr.add] using hblk
      refine ⟨some ⟨b, off, none⟩, len, cap, fun i j => (w.cell? ⟨b, off + i * fs.size + j, none⟩).getD undef, rfl, hl, hm, fun _ => ⟨b, off, rfl, hblk', ?_⟩, ?_⟩
      · intro i hil j hj
        obtain ⟨_, _, hk⟩ := key i hil
        obtain ⟨v, y, hcv, _⟩ := hk j fs[j] (by simp [hj])
        rw [add_plain, ← Nat.add_assoc] at hcv
        simp [hcv]
      · intro i hil
        obtain ⟨m, hm', hk⟩ := key i hil
        refine ⟨m, hm', fun j f hj => ?_⟩
        obtain ⟨v, y, hcv, hty⟩ := hk j f hj
        rw [add_plain, ← Nat.add_assoc] at hcv
        exact ⟨y, by simpa [hcv] using hty⟩
    · have hl0 : len = 0 := by omega
      subst hl0
      exact ⟨some a, 0, cap, fun _ _ => undef, rfl, hl, hm, fun h => absurd h (by omega), fun i hi => absurd hi (by omega)⟩
theorem open_lits : ∀ (fuel : Nat) {cs : List Value} {x : DataW H × List MemPlace}, DataW.trod enc Try.prog w base spare held fuel 22 cs = some x →
    ∃ A c F ts, cs = [.slice A ts.length c] ∧ ts.length ≤ c ∧ c ≤ 9223372036854775807 ∧ IsLits w A ts.length F ts := by
  intro fuel
  induction fuel using Nat.strongRecOn with
  | ind fuel ih =>
    intro cs x h
    obtain ⟨A, n, c, F, rfl, hl, hm, hR, hf⟩ := open_row_fuel Try.underlying22 Try.underlying42 (by kernel_rfl) (by kernel_rfl) (by decide) h
    have hex : ∀ i, ∃ t, i < n → IsLit w t (F i) := by
      intro i
      by_cases hi : i < n
      · obtain ⟨m, hm', hk⟩ := hf i hi
        obtain ⟨_, u0⟩ := hk 0 _ rfl
        obtain ⟨_, u1⟩ := hk 1 _ rfl
        obtain ⟨_, u2⟩ := hk 2 _ rfl
        obtain ⟨_, u3⟩ := hk 3 _ rfl
        obtain ⟨p, c', F', ks, e3, k1, k2, k3⟩ := ih m hm' u3
        obtain ⟨e1, e1'⟩ := string_field Try.underlying9 u1
        exact ⟨.node (intOf (F i 0)) (strOf (F i 1)) (intOf (F i 2)) ks, fun _ => .node _ _ _ ks p c' F' (F i) (int_field Try.underlying3 u0).1 e1 (int_field Try.underlying3 u2).1 (by simpa using e3) k1 k2 e1' k3.2.1 k3.2.2⟩
      · exact ⟨.node 0 ⟨#[]⟩ 0 [], fun h => absurd h hi⟩
    have hch : ∃ T : Nat → LitT, ∀ i, i < n → IsLit w (T i) (F i) := ⟨fun i => Classical.choose (hex i), fun i => Classical.choose_spec (hex i)⟩
    obtain ⟨T, hT⟩ := hch
    have hlen : ((List.range n).map T).length = n := by simp
    refine ⟨A, c, F, (List.range n).map T, by rw [hlen], by rw [hlen]; exact hl, hm, ⟨rfl, by rw [hlen]; exact hR, fun i hi => ?_⟩⟩
    have hi' : i < n := by rw [← hlen]; exact hi
    have : ((List.range n).map T)[i] = T i := by simp
    rw [this]; exact hT i hi'
/-- a method that was handed in -/
structure RawM (w : World) (sel : ByteArray) (p : Option Addr) (c : Nat) (F : Nat → Nat → Value) (ts : List LitT) (q : Option Addr) (n5 c5 : Nat) (C : Nat → Ins) : Prop where
  lits : IsLits w p ts.length F ts
  le : ts.length ≤ c
  cap : c ≤ 9223372036854775807
  code : RawC w q n5 c5 C
  sel : sel.size ≤ 9223372036854775807
theorem open_method {v : Value} {d : DataW H} {p : List MemPlace} (hv : Value.okWide Try.prog w r b0 25 v) (h : DataW.Trod enc Try.prog w base spare held 25 v d p) :
    ∃ s x0 x1 x2 LA ts lc CA cn cc F C, v = .agg #[.string s, .int .i64 x0, .int .i64 x1, .int .i64 x2, .slice LA ts.length lc, .slice CA cn cc] ∧ RawM w s LA lc F ts CA cn cc C := by
  obtain ⟨cs, rfl, hsz, hf⟩ := open_agg Try.underlying25 (by kernel_rfl) (by kernel_rfl) hv h
  obtain ⟨a, b, c, d, e, f, rfl⟩ := agg6 hsz
  obtain ⟨k0, y0, t0⟩ := hf 0 _ a rfl rfl
  obtain ⟨k1, y1, t1⟩ := hf 1 _ b rfl rfl
  obtain ⟨k2, y2, t2⟩ := hf 2 _ c rfl rfl
  obtain ⟨k3, y3, t3⟩ := hf 3 _ d rfl rfl
  obtain ⟨k4, y4, t4⟩ := hf 4 _ e rfl rfl
  obtain ⟨k5, y5, t5⟩ := hf 5 _ f rfl rfl
  obtain ⟨e0, e0'⟩ := string_field Try.underlying9 t0
  obtain ⟨e1, _⟩ := int_field Try.underlying3 t1
  obtain ⟨e2, _⟩ := int_field Try.underlying3 t2
  obtain ⟨e3, _⟩ := int_field Try.underlying3 t3
  obtain ⟨LA, lc, F, ts, e4, hl, hm, hL⟩ := open_lits _ t4
  obtain ⟨CA, cn, cc, C, e5, hC⟩ := open_codes t5
  obtain rfl : e = .slice LA ts.length lc := by simpa using e4
  obtain rfl : f = .slice CA cn cc := by simpa using e5
  exact ⟨strOf a, intOf b, intOf c, intOf d, LA, ts, lc, CA, cn, cc, F, C, by rw [← e0, ← e1, ← e2, ← e3], hL, hl, hm, hC, e0'⟩
end
theorem IsLits.take {w : World} {p : Option Addr} {F : Nat → Nat → Value} {ts : List LitT} (h : IsLits w p ts.length F ts) (m : Nat) (hm : m ≤ ts.length) : IsLits w p (ts.take m).length F (ts.take m) := by
  have hl : (ts.take m).length = m := by simp; omega
  refine ⟨rfl, by rw [hl]; exact h.2.1.less hm, fun i hi => ?_⟩
  rw [List.getElem_take]
  exact h.2.2 i (by omega)
end Go.Proofs.Ytnjfjebmkajpbaa
