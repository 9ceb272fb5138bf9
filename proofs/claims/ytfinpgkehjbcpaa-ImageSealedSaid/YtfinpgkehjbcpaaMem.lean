/- Words for memory, over any program: what an argument's slices hold, and what stays. -/
import Derived.Deep.Slices
import Derived.Deep.Fields
import Derived.ChangeSame
import Derived.ChangeOld
import Derived.Lib.SmallJoins
import Derived.Below
import Derived.Handy
import Derived.Lib.Hide
import Derived.RegionTactic
import Derived.Deep.QuietTactic
import Derived.BigQuiet
import Derived.Outline
import Derived.OwnWalk
set_option linter.unusedVariables false
namespace Go.Proofs.Ytfinpgkehjbcpaa
open Go.ChangeShapes Go.WideShapes Go.ChangeAt Go.RowKit Go.Deep Go.Joins

/-! ### frames -/
theorem bcell {W w1 : World} (hb : Below W.heap.size W w1) : (∀ b o, b < W.heap.size → w1.cell? ⟨b, o, none⟩ = W.cell? ⟨b, o, none⟩) ∧ (∀ b o, b < W.heap.size → w1.frozen? ⟨b, o, none⟩ = W.frozen? ⟨b, o, none⟩) :=
  ⟨fun b o h => hb.cell (p := ⟨b, o, none⟩) h, fun b o h => hb.frozen (p := ⟨b, o, none⟩) h⟩
theorem bsize {W w1 : World} (hb : Below W.heap.size W w1) : (∀ b, b < W.heap.size → b < w1.heap.size) ∧ (∀ b, b < W.heap.size → b ≤ w1.heap.size) :=
  ⟨fun _ h => Nat.lt_of_lt_of_le h hb.size, fun _ h => Nat.le_of_lt (Nat.lt_of_lt_of_le h hb.size)⟩
theorem below_drewN {B : Nat} {a w : World} (h : Below B a w) (n : Nat) : Below B a (w.drewN n) := ⟨h.os, h.tape, h.output, h.size, h.block⟩
theorem size_drewN (w : World) (n : Nat) : (w.drewN n).heap.size = w.heap.size := rfl
theorem Below.trans' {a b c : World} (h : Below a.heap.size a b) (k : Below b.heap.size b c) : Below a.heap.size a c := h.trans (k.mono h.size)

/-- in the current world c: the static memory w0, all that was before the call w, and the call's own boxes (made up to W) are as they were -/
structure Inv (w0 w W c : World) : Prop where
  b0 : Below w0.heap.size w0 c
  bw : Below w.heap.size w c
  bW : Below W.heap.size W c
section
variable {w0 w W c d e : World}
theorem Inv.start (h : Below w0.heap.size w0 w) (k : Below w.heap.size w W) : Inv w0 w W W := ⟨h.trans (k.mono h.size), k, Below.refl _ _⟩
theorem Inv.go (h : Inv w0 w W c) (k : Below c.heap.size c d) : Inv w0 w W d := ⟨h.b0.trans (k.mono h.b0.size), h.bw.trans (k.mono h.bw.size), h.bW.trans (k.mono h.bW.size)⟩
theorem Inv.step (h : Inv w0 w W c) (k : Below c.heap.size c d) (l : Below d.heap.size d e) : Inv w0 w W e := (h.go k).go l
theorem Inv.at0 (h : Inv w0 w W c) (k : Below c.heap.size c d) : Below w0.heap.size w0 d := (h.go k).b0
theorem Inv.out (h : Inv w0 w W c) (k : Below c.heap.size c d) : Below w.heap.size w d := (h.go k).bw
theorem Inv.cell (h : Inv w0 w W c) : ∀ b o, b < W.heap.size → c.cell? ⟨b, o, none⟩ = W.cell? ⟨b, o, none⟩ := fun b o hb => h.bW.cell (p := ⟨b, o, none⟩) hb
theorem Inv.frozen (h : Inv w0 w W c) : ∀ b o, b < W.heap.size → c.frozen? ⟨b, o, none⟩ = W.frozen? ⟨b, o, none⟩ := fun b o hb => h.bW.frozen (p := ⟨b, o, none⟩) hb
theorem Inv.lt_ (h : Inv w0 w W c) {b : Nat} (hb : b < W.heap.size) : b < c.heap.size := Nat.lt_of_lt_of_le hb h.bW.size
end

/-! ### a slice that reads as rows of 'size' cells -/
def Row (w : World) (A : Option Addr) (n size : Nat) (f : Nat → Nat → Value) : Prop :=
  0 < n → ∃ b off, A = some ⟨b, off, none⟩ ∧ b < w.heap.size ∧ ∀ i, i < n → ∀ j, j < size → w.cell? ⟨b, off + i * size + j, none⟩ = some (f i j)

section
variable {w w' : World} {A : Option Addr} {n size : Nat} {f : Nat → Nat → Value}
theorem Row.below (h : Row w A n size f) (hb : Below w.heap.size w w') : Row w' A n size f := fun hn => by
  obtain ⟨b, off, e, hlt, hc⟩ := h hn
  exact ⟨b, off, e, Nat.lt_of_lt_of_le hlt hb.size, fun i hi j hj => (hb.cell (p := ⟨b, _, none⟩) hlt).trans (hc i hi j hj)⟩
theorem Row.less {m : Nat} (h : Row w A n size f) (hm : m ≤ n) : Row w A m size f := fun hn => by
  obtain ⟨b, off, e, hlt, hc⟩ := h (Nat.lt_of_lt_of_le hn hm)
  exact ⟨b, off, e, hlt, fun i hi j hj => hc i (Nat.lt_of_lt_of_le hi hm) j hj⟩
end

theorem grown_of_below {w w' : World} (hb : Below w.heap.size w w') (row : Option Nat) : w.grownBy w' row := ⟨hb.os, hb.tape, hb.output, hb.size, fun k hk _ => hb.block k hk⟩
theorem ownsRow_below {w w' : World} {base : Nat} {e : TypeId} {size : Nat} {v : Value} {n : Nat} {xs : List Value} (h : w.ownsRow base e size v n xs) (hb : Below w.heap.size w w') : w'.ownsRow base e size v n xs :=
  h.kept (grown_of_below hb none) (by cases v.ownBlock <;> simp)
theorem ownsRow_mono {w : World} {base base' : Nat} {e : TypeId} {size : Nat} {v : Value} {n : Nat} {xs : List Value} (h : w.ownsRow base e size v n xs) (hb : base' ≤ base) : w.ownsRow base' e size v n xs := by
  refine ⟨h.1, ?_⟩
  rcases h.2 with hn | ⟨g, cap, cur, hv, hg, rest⟩
  · exact .inl hn
  · exact .inr ⟨g, cap, cur, hv, by omega, rest⟩
/-- behind an append to a row of the call's own: all below its base is as it was -/
theorem below_of_append {w w' : World} {base : Nat} {e : TypeId} {size : Nat} {v : Value} {n : Nat} {xs : List Value} (h : w.ownsRow base e size v n xs) (hg : w.grownBy w' v.ownBlock) (hb : base ≤ w.heap.size) : Below base w w' :=
  (Below.refl _ _).grown hg hb (fun k hk => (h.lt k hk).1)
theorem Inv.append {w0 w W c d : World} (h : Inv w0 w W c) {base : Nat} (hb : Below base c d) (h0 : w0.heap.size ≤ base) (h1 : w.heap.size ≤ base) (h2 : W.heap.size ≤ base) : Inv w0 w W d :=
  ⟨h.b0.trans (hb.mono h0), h.bw.trans (hb.mono h1), h.bW.trans (hb.mono h2)⟩
theorem cell_lt {w : World} {a : Addr} {v : Value} (h : w.cell? a = some v) : a.block < w.heap.size := by
  rcases Nat.lt_or_ge a.block w.heap.size with hl | hl
  · exact hl
  · unfold World.cell? at h; rw [Array.getElem?_eq_none hl] at h; cases h

theorem add_plain (b off k : Nat) : (⟨b, off, none⟩ : Addr).add k = ⟨b, off + k, none⟩ := by
  unfold Addr.add; split
  · subst_vars; rfl
  · rfl

section
variable {H : Type} {enc : TypeId × Value → H} {P : Program} {w : World} {base : Nat} {spare : Nat → Bool} {held : Bool}

/-- the cells of a block that was just made -/
theorem cells_new (w : World) (t : TypeId) (l : List Value) : ∀ (j : Nat) (u : Value), l[j]? = some u → (w.alloc (.cells l.toArray t)).cell? ((⟨w.heap.size, 0, none⟩ : Addr).add j) = some u := by
  intro j u hu
  rw [add_plain, Nat.zero_add, World.cell?_alloc_new]
  simpa using hu

/-- an argument (or a field) that is a slice of structs of one-cell fields -/
theorem open_row {t e : TypeId} {fs : Array Field} {fuel : Nat} {cs : List Value} {x : DataW H × List MemPlace} (ht : P.underlying t = some (.slice e)) (he : P.underlying e = some (.struct fs))
    (hone : oneCellFields P fs = true) (hC : P.cellsOf e = fs.size) (hs : 0 < fs.size) (h : DataW.trod enc P w base spare held fuel t cs = some x) :
    ∃ A n c F, cs = [.slice A n c] ∧ n ≤ c ∧ c ≤ maxLen ∧ Row w A n fs.size F ∧
      ∀ i, i < n → ∀ (j : Nat) (f : Field), fs[j]? = some f → ∃ k y, DataW.trod enc P w base spare held k f.type [F i j] = some y := by
  rcases open_slice ht h with ⟨rfl, _⟩ | ⟨a, len, cap, m, n, D, Pl, rfl, hb, hl, hm, hmm, hx, hi⟩
  · exact ⟨none, 0, 0, fun _ _ => undef, rfl, Nat.le_refl _, by unfold maxLen; omega, fun h => absurd h (by omega), fun i hi => absurd hi (by omega)⟩
  · have hlm : len ≤ m := by rw [hmm]; split <;> omega
    have key : ∀ i, i < len → ∀ (j : Nat) (f : Field), fs[j]? = some f → ∃ v k y, w.cell? (a.add (i * fs.size + j)) = some v ∧ DataW.trod enc P w base spare held k f.type [v] = some y := by
      intro i hil j f hj
      obtain ⟨cs', hc, ht'⟩ := hi i (by omega)
      rw [hC] at hc
      obtain ⟨ys, n', _, hy, hlen, hyl, hf⟩ := DataW.trod_struct he ht'
      obtain ⟨_, hcl, hat⟩ := World.cells?_some hc
      obtain ⟨ho, hk⟩ := hone_of hone j f hj
      have hjl : j < fs.size := (Array.getElem?_eq_some_iff.1 hj).1
      have hcell := hat j hjl
      have hv : cs'[j]? = some (cs'[j]'(by omega)) := List.getElem?_eq_getElem (by omega)
      have h1 := hf j f hj
      rw [ho, hk] at h1
      have hone' : (cs'.drop j).take 1 = [cs'[j]'(by omega)] := by
        rw [List.drop_eq_getElem_cons (by omega)]
        rfl
      rw [hone'] at h1
      have hys : ys[j]? = some (ys[j]'(by omega)) := List.getElem?_eq_getElem (by omega)
      refine ⟨_, _, _, ?_, h1.trans hys⟩
      rw [← Go.Deep.add_add, hcell, hv]
    by_cases h0 : 0 < len
    · obtain ⟨v, _, _, hv, _⟩ := key 0 h0 0 fs[0] (by simp [hs])
      have hspot : a.spot = none := by
        have := World.cell?_spot hv
        simpa [Addr.add] using this
      have hblk := cell_lt hv
      obtain ⟨b, off, spot⟩ := a
      subst hspot
      have hblk' : b < w.heap.size := by simpa [Addr.add] using hblk
      refine ⟨some ⟨b, off, none⟩, len, cap, fun i j => (w.cell? ⟨b, off + i * fs.size + j, none⟩).getD undef, rfl, hl, hm, fun _ => ⟨b, off, rfl, hblk', ?_⟩, ?_⟩
      · intro i hil j hj
        obtain ⟨v, k, y, hcv, _⟩ := key i hil j fs[j] (by simp [hj])
        rw [add_plain, ← Nat.add_assoc] at hcv
        simp [hcv]
      · intro i hil j f hj
        obtain ⟨v, k, y, hcv, hty⟩ := key i hil j f hj
        rw [add_plain, ← Nat.add_assoc] at hcv
        exact ⟨k, y, by simpa [hcv] using hty⟩
    · have hl0 : len = 0 := by omega
      subst hl0
      exact ⟨some a, 0, cap, fun _ _ => undef, rfl, hl, hm, fun h => absurd h (by omega), fun i hi => absurd hi (by omega)⟩

/-- an argument (or a field) that is a slice of ints -/
theorem open_nums {t e : TypeId} {k : IntKind} {fuel : Nat} {cs : List Value} {x : DataW H × List MemPlace} (ht : P.underlying t = some (.slice e)) (he : P.underlying e = some (.int k)) (hc : P.cellsOf e = 1)
    (h : DataW.trod enc P w base spare held fuel t cs = some x) :
    ∃ A n c, ∃ F : Nat → Int, cs = [.slice A n c] ∧ n ≤ c ∧ c ≤ maxLen ∧ Row w A n 1 (fun i _ => .int k (F i)) ∧ ∀ i, i < n → (Lit.int k (F i)).wf = true := by
  rcases open_ints ht he hc h with ⟨rfl, _⟩ | ⟨a, len, cap, zs, rfl, hb, hl, hm, hz, _, hcell, hwf⟩
  · exact ⟨none, 0, 0, fun _ => 0, rfl, Nat.le_refl _, by unfold maxLen; omega, fun h => absurd h (by omega), fun i hi => absurd hi (by omega)⟩
  · have hlm : len ≤ zs.length := by rw [hz]; split <;> omega
    refine ⟨some a, len, cap, fun i => zs.getD i 0, rfl, hl, hm, fun h0 => ?_, fun i hi => ?_⟩
    · have hv := hcell 0 (by omega)
      have hspot : a.spot = none := by
        have := World.cell?_spot hv
        simpa [Addr.add] using this
      have hblk := cell_lt hv
      obtain ⟨b, off, spot⟩ := a
      subst hspot
      refine ⟨b, off, rfl, by simpa [Addr.add] using hblk, fun i hi j hj => ?_⟩
      have hj0 : j = 0 := by omega
      subst hj0
      have := hcell i (by omega)
      rw [add_plain] at this
      simpa using this
    · have hi' : i < zs.length := by omega
      have : zs.getD i 0 ∈ zs := by
        rw [List.getD_eq_getElem?_getD, List.getElem?_eq_getElem hi']
        exact List.getElem_mem hi'
      exact hwf _ this

/-- a field of an int kind -/
theorem int_field {t : TypeId} {k : IntKind} {fuel : Nat} {v : Value} {x : DataW H × List MemPlace} (ht : P.underlying t = some (.int k)) (h : DataW.trod enc P w base spare held fuel t [v] = some x) :
    v = .int k (intOf v) ∧ (Lit.int k (intOf v)).wf = true := by
  obtain ⟨n, hv, _, hw⟩ := DataW.trod_int ht h
  obtain rfl : v = .int k n := by simpa using hv
  exact ⟨rfl, hw⟩

def strOf : Value → ByteArray | .string s => s | _ => ⟨#[]⟩
theorem string_field {t : TypeId} {fuel : Nat} {v : Value} {x : DataW H × List MemPlace} (ht : P.underlying t = some .string) (h : DataW.trod enc P w base spare held fuel t [v] = some x) :
    v = .string (strOf v) ∧ (strOf v).size ≤ maxLen := by
  obtain ⟨s, hv, _, hw⟩ := DataW.trod_string ht h
  obtain rfl : v = .string s := by simpa using hv
  exact ⟨rfl, hw⟩

def addrOf : Value → Option Addr | .slice a _ _ => a | _ => none
def lenOf : Value → Nat | .slice _ n _ => n | _ => 0
def capOf : Value → Nat | .slice _ _ c => c | _ => 0
theorem slice_field {t e : TypeId} {fuel : Nat} {v : Value} {x : DataW H × List MemPlace} (ht : P.underlying t = some (.slice e)) (h : DataW.trod enc P w base spare held fuel t [v] = some x) :
    v = .slice (addrOf v) (lenOf v) (capOf v) := by
  rcases open_slice ht h with ⟨hv, _⟩ | ⟨a, len, cap, m, n, D, Pl, hv, _⟩ <;> (obtain rfl : v = _ := by simpa using hv) <;> rfl

/-- a struct of one-cell fields, by value: its cells, each with its reading -/
theorem open_agg {r : Reach} {b0 : Nat} {t : TypeId} {fs : Array Field} {v : Value} {d : DataW H} {p : List MemPlace} (hs : P.underlying t = some (.struct fs)) (hone : oneCellFields P fs = true) (hC : P.cellsOf t = fs.size)
    (hv : Value.okWide P w r b0 t v) (h : DataW.Trod enc P w base spare held t v d p) :
    ∃ cs : Array Value, v = .agg cs ∧ cs.size = fs.size ∧ ∀ (j : Nat) (f : Field) (u : Value), fs[j]? = some f → cs[j]? = some u → ∃ k y, DataW.trod enc P w base spare held k f.type [u] = some y := by
  obtain ⟨cs, rfl, hsz⟩ := okWide_struct hs hv
  obtain ⟨fuel, hf⟩ := h
  obtain ⟨xs, n, _, hx, _, hlen, hg⟩ := DataW.trod_struct hs hf
  refine ⟨cs, rfl, hsz.trans hC, fun j f u hj hu => ?_⟩
  obtain ⟨o, k⟩ := hone_of hone j f hj
  have h1 := hg j f hj
  rw [o, k] at h1
  have hjl : j < cs.size := (Array.getElem?_eq_some_iff.1 hu).1
  have hone' : ((Value.agg cs).cells.toList.drop j).take 1 = [u] := by
    have hl : j < cs.toList.length := by simpa using hjl
    show (cs.toList.drop j).take 1 = [u]
    rw [List.drop_eq_getElem_cons hl]
    have : cs.toList[j] = u := by
      have := (Array.getElem?_eq_some_iff.1 hu).2
      simpa using this
    rw [this]; rfl
  rw [hone'] at h1
  have hjf : j < fs.size := (Array.getElem?_eq_some_iff.1 hj).1
  have hys : xs[j]? = some (xs[j]'(by omega)) := List.getElem?_eq_getElem (by omega)
  exact ⟨n, _, h1.trans hys⟩
end

theorem agg6 {cs : Array Value} (h : cs.size = 6) : ∃ a b c d e f, cs = #[a, b, c, d, e, f] := by
  obtain ⟨l⟩ := cs
  match l, h with
  | [a, b, c, d, e, f], _ => exact ⟨a, b, c, d, e, f, rfl⟩

end Go.Proofs.Ytfinpgkehjbcpaa
