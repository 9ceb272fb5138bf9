/- Chapter 03: the library's sort of integers, laid at the program. -/
import Derived.Test.YthjjanjmiinpbaaMPlain
import Derived.Shelf.Lays
import Derived.Shelf.Sort.Plain
import Derived.Shelf.Slices.In.SortNone
import Derived.Sort.OwnSortedInts
namespace Go.Proofs.Ythjjanjmiinpbaa
open Go.ChangeShapes Go.WideShapes Go.ChangeAt Go.RowKit Go.Deep Go.Joins Go.Maps Go.Shelf Go.Sort
set_option linter.unusedVariables false
set_option linter.unusedSimpArgs false
def sortRen : Go.Shelf.Ren := ⟨fun | 189 => 42 | 125 => 65 | 257 => 64 | 128 => 81 | 129 => 82 | 294 => 72 | 295 => 73 | 296 => 74 | 297 => 75 | 298 => 76 | 299 => 77 | 216 => 78 | 300 => 79 | 301 => 80 | 328 => 83 | 329 => 84 | 330 => 85 | 331 => 86 | 332 => 87 | 215 => 88 | 343 => 89 | n => n, fun | 28 => 23 | 3 => 3 | 46 => 73 | 0 => 0 | 51 => 90 | 53 => 92 | 4 => 4 | 183 => 83 | 182 => 82 | 131 => 65 | 5 => 5 | 9 => 9 | 218 => 93 | 222 => 97 | 228 => 99 | 229 => 100 | n => n, fun | n => n⟩
theorem sortLays : Lays.n189 Try.prog sortRen := {
  mixed := by kernel_rfl,
  f125 := Try.func65.trans (congrArg some (by kernel_rfl)),
  f128 := Try.func81.trans (congrArg some (by kernel_rfl)),
  f129 := Try.func82.trans (congrArg some (by kernel_rfl)),
  f189 := Try.func42.trans (congrArg some (by kernel_rfl)),
  f215 := Try.func88.trans (congrArg some (by kernel_rfl)),
  f216 := Try.func78.trans (congrArg some (by kernel_rfl)),
  f257 := Try.func64.trans (congrArg some (by kernel_rfl)),
  f294 := Try.func72.trans (congrArg some (by kernel_rfl)),
  f295 := Try.func73.trans (congrArg some (by kernel_rfl)),
  f296 := Try.func74.trans (congrArg some (by kernel_rfl)),
  f297 := Try.func75.trans (congrArg some (by kernel_rfl)),
  f298 := Try.func76.trans (congrArg some (by kernel_rfl)),
  f299 := Try.func77.trans (congrArg some (by kernel_rfl)),
  f300 := Try.func79.trans (congrArg some (by kernel_rfl)),
  f301 := Try.func80.trans (congrArg some (by kernel_rfl)),
  f328 := Try.func83.trans (congrArg some (by kernel_rfl)),
  f329 := Try.func84.trans (congrArg some (by kernel_rfl)),
  f330 := Try.func85.trans (congrArg some (by kernel_rfl)),
  f331 := Try.func86.trans (congrArg some (by kernel_rfl)),
  f332 := Try.func87.trans (congrArg some (by kernel_rfl)),
  f343 := Try.func89.trans (congrArg some (by kernel_rfl)),
  t0 := Try.underlying0,
  a0 := Try.isAgg0,
  z0 := Try.sizeOf0,
  v0 := Try.zeroValue0,
  t3 := Try.underlying3,
  a3 := Try.isAgg3,
  z3 := Try.sizeOf3,
  v3 := Try.zeroValue3,
  t4 := Try.underlying4,
  a4 := Try.isAgg4,
  z4 := Try.sizeOf4,
  v4 := Try.zeroValue4,
  t5 := Try.underlying5,
  a5 := Try.isAgg5,
  z5 := Try.sizeOf5,
  v5 := Try.zeroValue5,
  t9 := Try.underlying9,
  a9 := Try.isAgg9,
  z9 := Try.sizeOf9,
  v9 := Try.zeroValue9,
  t28 := Try.underlying23,
  a28 := Try.isAgg23,
  z28 := Try.sizeOf23,
  v28 := Try.zeroValue23,
  t46 := Try.underlying73,
  a46 := Try.isAgg73,
  z46 := Try.sizeOf73,
  v46 := Try.zeroValue73,
  t51 := Try.underlying90,
  a51 := Try.isAgg90,
  z51 := Try.sizeOf90,
  v51 := Try.zeroValue90,
  t53 := Try.underlying92,
  a53 := Try.isAgg92,
  z53 := Try.sizeOf92,
  v53 := Try.zeroValue92,
  t131 := Try.underlying65,
  a131 := Try.isAgg65,
  z131 := Try.sizeOf65,
  v131 := Try.zeroValue65,
  t182 := Try.underlying82,
  a182 := Try.isAgg82,
  z182 := Try.sizeOf82,
  v182 := Try.zeroValue82,
  t183 := Try.underlying83,
  a183 := Try.isAgg83,
  z183 := Try.sizeOf83,
  v183 := Try.zeroValue83,
  t218 := Try.underlying93,
  a218 := Try.isAgg93,
  z218 := Try.sizeOf93,
  v218 := Try.zeroValue93,
  t222 := Try.underlying97,
  a222 := Try.isAgg97,
  z222 := Try.sizeOf97,
  v222 := Try.zeroValue97,
  t228 := Try.underlying99,
  a228 := Try.isAgg99,
  z228 := Try.sizeOf99,
  v228 := Try.zeroValue99,
  t229 := Try.underlying100,
  a229 := Try.isAgg100,
  z229 := Try.sizeOf100,
  v229 := Try.zeroValue100 }
/-- the sort of integers, ascending -/
def sortL (l : List Int) : List Int := l.mergeSort (fun x y => decide (x ≤ y))
theorem sort_rising {l r : List Int} (h : l.Perm r) (hr : r.Pairwise (· < ·)) : sortL l = r := by
  unfold sortL
  have tr : ∀ a b c : Int, decide (a ≤ b) = true → decide (b ≤ c) = true → decide (a ≤ c) = true := fun a b c h1 h2 => by simp only [decide_eq_true_eq] at *; omega
  have tot : ∀ a b : Int, (decide (a ≤ b) || decide (b ≤ a)) = true := fun a b => by simp only [Bool.or_eq_true, decide_eq_true_eq]; omega
  refine List.Perm.eq_of_pairwise (le := fun a b => decide (a ≤ b) = true) (fun a b _ _ h1 h2 => ?_) (List.pairwise_mergeSort tr tot l) (hr.imp (fun q => ?_)) ((List.mergeSort_perm l _).trans h)
  · simp only [decide_eq_true_eq] at h1 h2; omega
  · simp only [decide_eq_true_eq]; omega
theorem sort_any {w : World} {g0 : Nat} {v : Value} {zs : List Int} (h : Ints w g0 v zs) (hl : zs.length ≤ 1000000) : Calls Try.prog 42 #[v] w fun e w' => e = .returned (.tuple #[]) ∧ Ints w' g0 v (sortL zs) ∧ Below g0 w w' := by
  rcases h.2 with ⟨hnil, h0⟩ | ⟨g, cap, cur, rfl, hbase, hb, h1, h2, h3, h4⟩
  · subst hnil
    have hz : zs = [] := List.length_eq_zero_iff.1 h0
    subst hz
    refine (Any.slices_Sort_int_none sortLays none 0 w).mono ?_
    rintro e w' ⟨rfl, rfl⟩
    exact ⟨rfl, by simpa [sortL] using h, Below.refl _ _⟩
  · have hH : Holds (Value.int .i64) w g 0 zs.toArray := holds_of_blockI hb (by simpa using h4)
    refine (Any.slices_Sort_int sortLays g 0 cap zs w hH (Array.getElem?_eq_some_iff.1 hb).1 (by omega)).mono ?_
    rintro e w' ⟨rfl, n, os, rfl⟩
    have hlen : (sortL zs).length = zs.length := by unfold sortL; exact (List.mergeSort_perm _ _).length_eq
    refine ⟨rfl, ?_, ?_⟩
    · have := ownsRow_sortedI (w := w) (n := n) (os := os) (ts := sortL zs) hlen hbase hb h1 h2 h3
      unfold Ints
      rw [hlen]
      exact this
    · have hg := grownBy_sortedI (w := w) (g := g) (n := n) (os := os) (sortL zs).toArray
      exact ⟨hg.os, hg.tape, hg.output, hg.size, fun k hk => hg.block k (by have := (Array.getElem?_eq_some_iff.1 hb).1; omega) (fun e => by cases e; omega)⟩
end Go.Proofs.Ythjjanjmiinpbaa
