/- The document's examples of chapter 18 hold. -/
import Derived.Test.YtjiidjcehhdnbaaFW11
namespace Go.Proofs.Ytjiidjcehhdnbaa
open Go.ChangeShapes Go.WideShapes Go.ChangeAt Go.RowKit
set_option linter.unusedVariables false
set_option linter.unusedSimpArgs false

theorem row_of_block {w : World} {b n size : Nat} {cs : Array Value} {t : TypeId} {f : Nat → Nat → Value} (h : w.heap[b]? = some (.cells cs t (0, 0))) (hf : ∀ i, i < n → ∀ j, j < size → cs[i * size + j]? = some (f i j)) : Row w (some ⟨b, 0, none⟩) n size f := fun _ =>
  ⟨b, 0, rfl, (by rcases Nat.lt_or_ge b w.heap.size with hl | hl; exact hl; rw [Array.getElem?_eq_none hl] at h; cases h), fun i hi j hj => by rw [Nat.zero_add, cell_of_row w b _ cs t (0, 0) h]; exact hf i hi j hj⟩
theorem IsM.below {w w' : World} {LA : Option Addr} {ln : Nat} {CA : Option Addr} {cn : Nat} {L : Nat → LitR} {C : Nat → InsR} (h : IsM w LA ln CA cn L C) (hb : Below w.heap.size w w') : IsM w' LA ln CA cn L C := ⟨h.lits.below hb, h.code.below hb, h.ln_le, h.cn_le⟩
theorem words_new (X : World) (v : Int) : Words (X.alloc (.cells #[.int .i64 v] 3)) (some ⟨X.heap.size, 0, none⟩) 1 (fun _ => v) :=
  ⟨row_of_block (heap_alloc_new X _) (fun i hi j hj => by obtain rfl : i = 0 := (by omega); obtain rfl : j = 0 := (by omega); rfl), by omega⟩

def exL : Nat → LitR
  | 0 => ⟨1, ⟨#[]⟩, 1, none, 0, 0⟩
  | _ => ⟨3, ⟨#[43]⟩, 0, none, 0, 0⟩
def exC : Nat → InsR
  | 0 => ⟨7, 0, 0⟩
  | 1 => ⟨6, 0, 0⟩
  | 2 => ⟨14, 1, 1⟩
  | 3 => ⟨7, 0, 0⟩
  | 4 => ⟨10, 1, 0⟩
  | _ => ⟨12, 0, 0⟩
theorem ex_isM (w : World) : IsM (((w.alloc (.cells #[.int .i64 1, .string ⟨#[]⟩, .int .i64 1, .slice none 0 0, .int .i64 3, .string ⟨#[43]⟩, .int .i64 0, .slice none 0 0] 58)).alloc (.cells #[.int .i64 7, .int .i64 0, .int .i64 0, .int .i64 6, .int .i64 0, .int .i64 0, .int .i64 14, .int .i64 1, .int .i64 1, .int .i64 7, .int .i64 0, .int .i64 0, .int .i64 10, .int .i64 1, .int .i64 0, .int .i64 12, .int .i64 0, .int .i64 0] 56)).alloc (.cells #[.string ⟨#[]⟩, .int .i64 0, .int .i64 0, .int .i64 0, .slice (some ⟨w.heap.size, 0, none⟩) 2 2, .slice (some ⟨w.heap.size + 1, 0, none⟩) 6 6] 25)) (some ⟨w.heap.size, 0, none⟩) 2 (some ⟨w.heap.size + 1, 0, none⟩) 6 exL exC := by
  refine ⟨row_of_block (cs := #[.int .i64 1, .string ⟨#[]⟩, .int .i64 1, .slice none 0 0, .int .i64 3, .string ⟨#[43]⟩, .int .i64 0, .slice none 0 0]) (t := 58) ?_ ?_, row_of_block (cs := #[.int .i64 7, .int .i64 0, .int .i64 0, .int .i64 6, .int .i64 0, .int .i64 0, .int .i64 14, .int .i64 1, .int .i64 1, .int .i64 7, .int .i64 0, .int .i64 0, .int .i64 10, .int .i64 1, .int .i64 0, .int .i64 12, .int .i64 0, .int .i64 0]) (t := 56) ?_ ?_, by omega, by omega⟩
  · rw [Below.heap_alloc _ _ _ (by simp only [World.size_alloc]; omega), Below.heap_alloc _ _ _ (by simp only [World.size_alloc]; omega)]; exact heap_alloc_new _ _
  · intro i hi j hj
    match i, hi, j, hj with
    | 0, _, 0, _ => rfl
    | 0, _, 1, _ => rfl
    | 0, _, 2, _ => rfl
    | 0, _, 3, _ => rfl
    | 1, _, 0, _ => rfl
    | 1, _, 1, _ => rfl
    | 1, _, 2, _ => rfl
    | 1, _, 3, _ => rfl
  · rw [Below.heap_alloc _ _ _ (by simp only [World.size_alloc]; omega)]; rw [← World.size_alloc w (.cells #[.int .i64 1, .string ⟨#[]⟩, .int .i64 1, .slice none 0 0, .int .i64 3, .string ⟨#[43]⟩, .int .i64 0, .slice none 0 0] 58)]; exact heap_alloc_new (w.alloc (.cells #[.int .i64 1, .string ⟨#[]⟩, .int .i64 1, .slice none 0 0, .int .i64 3, .string ⟨#[43]⟩, .int .i64 0, .slice none 0 0] 58)) _
  · intro i hi j hj
    match i, hi, j, hj with
    | 0, _, 0, _ => rfl
    | 0, _, 1, _ => rfl
    | 0, _, 2, _ => rfl
    | 1, _, 0, _ => rfl
    | 1, _, 1, _ => rfl
    | 1, _, 2, _ => rfl
    | 2, _, 0, _ => rfl
    | 2, _, 1, _ => rfl
    | 2, _, 2, _ => rfl
    | 3, _, 0, _ => rfl
    | 3, _, 1, _ => rfl
    | 3, _, 2, _ => rfl
    | 4, _, 0, _ => rfl
    | 4, _, 1, _ => rfl
    | 4, _, 2, _ => rfl
    | 5, _, 0, _ => rfl
    | 5, _, 1, _ => rfl
    | 5, _, 2, _ => rfl
theorem ex_good : okV 6 exC := by
  intro k hk
  match k, hk with
  | 0, _ => exact ⟨by decide, by decide, by decide, by decide⟩
  | 1, _ => exact ⟨by decide, by decide, by decide, by decide⟩
  | 2, _ => exact ⟨by decide, by decide, by decide, by decide⟩
  | 3, _ => exact ⟨by decide, by decide, by decide, by decide⟩
  | 4, _ => exact ⟨by decide, by decide, by decide, by decide⟩
  | 5, _ => exact ⟨by decide, by decide, by decide, by decide⟩
theorem ex_s0 : strokeV 2 exL 6 exC 0 = (1, 0, 3) := by
  simp [strokeV, strokeS, isOp, insAt, exC, exL, smallL, litAt, smallV, selV, letterV, ByteArray.toList_eq]
theorem ex_s3 : strokeV 2 exL 6 exC 3 = (4, 3, 3) := by
  simp [strokeV, strokeS, isOp, insAt, exC, exL, smallL, litAt, smallV, selV, letterV, ByteArray.toList_eq]
theorem ex_a0 (tc : Nat) : applyV 2 exL 6 exC 0 1 (fun _ => 9) 0 (fun _ => 0) 1 0 3 = ⟨3, [11], -1, 0, true⟩ := by
  simp [applyV, ex_s0, neqB, opndV, isOp, insAt, exC, exL, smallL, litAt, smallV, selV, ByteArray.toList_eq, opEff, wordAt, isSmallV, valueV]
theorem ex_a3 (tc : Nat) : applyV 2 exL 6 exC 0 1 (fun _ => 9) 0 (fun _ => 0) 4 3 3 = ⟨6, [], 1, 9, true⟩ := by
  simp [applyV, ex_s3, neqB, opndV, isOp, insAt, exC, exL, smallL, litAt, smallV, wordAt]
end Go.Proofs.Ytjiidjcehhdnbaa
