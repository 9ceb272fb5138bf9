/- Chapter 06: the reference's token: a text, taken. -/
import Derived.Test.YtdcibeagljeioaaR13
namespace Go.Proofs.Ytdcibeagljeioaa
open Go.ChangeShapes Go.WideShapes Go.ChangeAt Go.RowKit
set_option linter.unusedVariables false
set_option linter.unusedSimpArgs false
theorem RPost.shape {V : Took Tok} {w : World} {i base : Nat} {e : Ending} {w' : World} (h : RPost V w i base e w') : ∃ (k1 : Int) (k2 : ByteArray) (k3 m x : Int), e = .returned (.tuple #[.agg #[.int .i64 k1, .string k2, .int .i64 k3, .int .i64 i], .int .i64 m, .int .i64 x]) := by
  obtain ⟨_, ⟨x, _, k1, k2, k3, rfl⟩ | ⟨t, n, T, _, _, rfl⟩⟩ := h
  · exact ⟨_, _, _, _, _, rfl⟩
  · exact ⟨_, _, _, _, _, rfl⟩
theorem RPost.on {V : Took Tok} {w w1 : World} {i base : Nat} {e : Ending} {w' : World} (h : RPost V w1 i base e w') (g : w.grownBy w1 none) : RPost V w i base e w' := ⟨g.trans h.1, h.2⟩
set_option maxRecDepth 100000 in
set_option maxHeartbeats 4000000 in
theorem rtok_text (s : ByteArray) (i : Nat) (w : World) (hs : s.size ≤ 100000) (hi : i < s.size) (h39 : byteU s i = 39) :
    Calls Try.prog 19 #[.string s, .int .i64 i] w (RPost (tokV (s.data.toList.drop i)) w i i) := by
  have R := fun w' => rtextR s i w' hs hi h39
  have h0 : atV s i = 0 := by unfold atV; rw [dif_pos hi, ← byteU_lt hi, h39]; rfl
  obtain ⟨V, hV⟩ : ∃ V, tokV (s.data.toList.drop i) = V := ⟨_, rfl⟩
  rw [hV]
  rw [hV] at R
  obtain ⟨a, ha⟩ : ∃ a, a = (0 : Int) := ⟨_, rfl⟩
  rw [← ha] at h0
  have HA := Lib.hid h0
  have a1 : (a == 1) = false := by rw [ha]; rfl
  have a2 : (a == 2) = false := by rw [ha]; rfl
  have a3 : (a == 3) = false := by rw [ha]; rfl
  have a4 : (a == 4) = false := by rw [ha]; rfl
  have hx : s[i] = 39 := by rw [← byteU_lt hi, h39]
  have b0 : (0 : Int) ≤ (i : Int) := by omega
  have b1 : (i : Int) < (s.size : Int) := by omega
  clear ha h0 hV h39
  have v0 : ∀ o : Obj, ((w.alloc (.cells #[.int .i64 0, .string ⟨#[]⟩, .int .i64 0, .int .i64 0] 33)).alloc o).cell? ⟨w.heap.size, 0, none⟩ = some (.int .i64 0) := fun o => by simp [go_sem]
  have v1 : ∀ o : Obj, ((w.alloc (.cells #[.int .i64 0, .string ⟨#[]⟩, .int .i64 0, .int .i64 0] 33)).alloc o).cell? ⟨w.heap.size, 1, none⟩ = some (.string ⟨#[]⟩) := fun o => by simp [go_sem]
  have v2 : ∀ o : Obj, ((w.alloc (.cells #[.int .i64 0, .string ⟨#[]⟩, .int .i64 0, .int .i64 0] 33)).alloc o).cell? ⟨w.heap.size, 2, none⟩ = some (.int .i64 0) := fun o => by simp [go_sem]
  have v3 : ∀ o : Obj, ((w.alloc (.cells #[.int .i64 0, .string ⟨#[]⟩, .int .i64 0, .int .i64 0] 33)).alloc o).cell? ⟨w.heap.size, 3, none⟩ = some (.int .i64 0) := fun o => by simp [go_sem]
  have z0 : ∀ (o : Obj) (k : Nat), ((w.alloc (.cells #[.int .i64 0, .string ⟨#[]⟩, .int .i64 0, .int .i64 0] 33)).alloc o).frozen? ⟨w.heap.size, k, none⟩ = false := fun o k => by simp [go_sem]
  go_enter Try.func19, Try.ntmps19
  go_wp2_with (first | (go_at_call 31; (with_reducible refine (rat_any _ _ _ hs).mono ?_); rw [HA.out]; rintro e w' ⟨rfl, rfl⟩))
  (with_reducible refine (R _).mono ?_)
  rintro e w2 hR
  obtain ⟨k1, k2, k3, m, x, rfl⟩ := hR.shape
  have hbk := hR.1.block w.heap.size (by simp only [World.alloc, Array.size_push]; omega) (by simp)
  have cf := fun (o : Nat) => World.cell?_of_block (a := ⟨w.heap.size, o, none⟩) hbk
  have ff := fun (o : Nat) => World.frozen?_of_block (a := ⟨w.heap.size, o, none⟩) hbk
  have c0 := (cf 0).trans (v0 _)
  have c1 := (cf 1).trans (v1 _)
  have c2 := (cf 2).trans (v2 _)
  have c3 := (cf 3).trans (v3 _)
  have f0 := (ff 0).trans (z0 _ 0)
  have f1 := (ff 1).trans (z0 _ 1)
  have f2 := (ff 2).trans (z0 _ 2)
  have f3 := (ff 3).trans (z0 _ 3)
  go_wp2
  refine bodyPost_ret (v := .tuple #[.agg #[.int .i64 k1, .string k2, .int .i64 k3, .int .i64 i], .int .i64 m, .int .i64 x]) (by simp [results, Try.results19, go_sem, *]) rfl ?_
  refine ⟨?_, hR.2⟩
  have g0 : w.grownBy w2 none := ((World.grownBy_alloc _ _ _).trans (World.grownBy_alloc _ _ _)).trans hR.1
  repeat' (first | (with_reducible assumption) | (with_reducible refine grown_drewN ?_ _) | (with_reducible refine grown_setOwn ?_ ?_ _) | omega)
end Go.Proofs.Ytdcibeagljeioaa
