/- Chapter 02: the contract of the reference's Turn. -/
import Derived.Test.YthjjanjmiinpbaaRT1
import Derived.Test.YthjjanjmiinpbaaHK4
namespace Go.Proofs.Ythjjanjmiinpbaa
open Go.ChangeShapes Go.WideShapes Go.ChangeAt Go.RowKit Go.Deep Go.Joins Go.Maps
set_option linter.unusedVariables false
set_option linter.unusedSimpArgs false

theorem slice_pre (A : Option Addr) (n c k : Nat) (hk : k ≤ c) (hA : ∃ b off, A = some ⟨b, off, none⟩) (w : World) : (Instr.slice 23 (.slice A n c) none (some (.int .i64 (k : Int))) none).run Try.prog w = .ok (.slice A k c) w := by
  obtain ⟨b, off, rfl⟩ := hA
  rw [run_slice_h w 23 _ n c Try.underlying23 .i64 _ (by omega) (by omega)]
  have hs : (sizeOf (Try.prog.elem 23)).run Try.prog w = .ok 1 w := by kernel_rfl
  rw [hs]
  simp only [Result.andThen, sliced, Int.toNat_natCast, Nat.sub_zero]
  split
  · rfl
  · simp [Addr.add]
theorem Nums.take {w : World} {A : Option Addr} {l : List Int} (h : Nums w A l) (k : Nat) : Nums w A (l.take k) := fun j hj => by
  obtain ⟨b, off, e, hlt, hc⟩ := h j (by simp at hj; omega)
  exact ⟨b, off, e, hlt, by rw [List.getElem_take]; exact hc⟩
theorem RM.nums {w : World} {R : Nat → Prop} {r : Nat} {m : Hp} {lv : Value} {fv : Nat → Value} (h : RM w R r m lv fv) {i : Nat} (hi : i < m.L.length) : ∃ A c, fv i = .slice A m.L[i].F.length c ∧ Nums w A m.L[i].F := by
  obtain ⟨A, c, e, _, hc⟩ := h.field hi
  refine ⟨A, c, e, fun k hk => ?_⟩
  obtain ⟨g, rfl, hcell, _⟩ := hc k hk
  refine ⟨g, 0, rfl, cell_lt hcell, ?_⟩
  rw [Nat.zero_add, hcell, List.getD_eq_getElem?_getD, List.getElem?_eq_getElem hk]; rfl
theorem ownsRow_rebase {w : World} {base base' n size : Nat} {e : TypeId} {v : Value} {xs : List Value} (h : w.ownsRow base e size v n xs) (hb : ∀ k, v.ownBlock = some k → base' ≤ k) : w.ownsRow base' e size v n xs := by
  refine ⟨h.1, ?_⟩
  rcases h.2 with hn | ⟨g, cap, cur, hv, hg, rest⟩
  · exact .inl hn
  · exact .inr ⟨g, cap, cur, hv, hb g (by rw [hv]; rfl), rest⟩
theorem LM.objs {w : World} {R : Nat → Prop} {L : List Ob} {lv : Value} {fv : Nat → Value} (h : LM w R L lv fv) {B : Nat} (hB : ∀ k, R k → B ≤ k) : w.ownsRow B 71 4 lv L.length (rowsL L.length 4 (objF L fv)) := ownsRow_rebase h.own (fun k hk => hB k (h.inL k hk))
/-- the blocks made since w -/
def since (w wr : World) (b : Nat) : Prop := w.heap.size ≤ b ∧ b < wr.heap.size

end Go.Proofs.Ythjjanjmiinpbaa
