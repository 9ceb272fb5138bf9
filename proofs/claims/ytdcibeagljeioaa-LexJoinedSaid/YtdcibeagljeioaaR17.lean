/- Chapter 06: the reference's token: a hash. -/
import Derived.Test.YtdcibeagljeioaaR16
import Derived.Test.YtdcibeagljeioaaR15
namespace Go.Proofs.Ytdcibeagljeioaa
open Go.ChangeShapes Go.WideShapes Go.ChangeAt Go.RowKit
set_option linter.unusedVariables false
set_option linter.unusedSimpArgs false
theorem rsym_any (s : ByteArray) (i : Nat) (w : World) (hs : s.size ≤ 100000) (hi : i + 1 ≤ s.size) :
    Calls Try.prog 35 #[.string s, .agg #[.int .i64 0, .string ⟨#[]⟩, .int .i64 0, .int .i64 i]] w (RPost (hashV (s.data.toList.drop (i + 1))) w i (i + 1)) := by
  cases h40 : hd (· == 40) (s.data.toList.drop (i + 1))
  · cases hsg : hd signB (s.data.toList.drop (i + 1))
    · cases hlt : hd letB (s.data.toList.drop (i + 1))
      · exact rsym_none s i w hs hi h40 hsg hlt
      · by_cases h24 : nmLen (s.data.toList.drop (i + 1)) > 24
        · exact rsym_long s i w hs hi h40 hsg hlt h24
        · exact rsym_name s i w hs hi h40 hsg hlt h24
    · cases hsg2 : hd signB (s.data.toList.drop (i + 1 + 1))
      · exact rsym_sign1 s i w hs hi h40 hsg hsg2
      · exact rsym_sign2 s i w hs hi h40 hsg hsg2
  · exact rsym_arr s i w hs hi h40
theorem tok_hash (r : Bs) : tokV (35 :: r) = match hashV r with | .err e => .err e | .ok t n => .ok t (n + 1) := by
  show (if hd (· == 40) r then Took.ok (Tok.mk 7 [] 0) 2 else match symV r with | .err e => .err e | .ok t n => .ok ⟨6, t, 0⟩ (n + 1)) = _
  unfold hashV
  cases hd (· == 40) r
  · rw [if_neg (by simp), if_neg (by simp)]
    cases symV r <;> rfl
  · rw [if_pos rfl, if_pos rfl]
theorem rsymR (s : ByteArray) (i : Nat) (w : World) (hs : s.size ≤ 100000) (hi : i + 1 ≤ s.size) (h35 : byteU s i = 35) :
    Calls Try.prog 35 #[.string s, .agg #[.int .i64 0, .string ⟨#[]⟩, .int .i64 0, .int .i64 i]] w (RPost (tokV (s.data.toList.drop i)) w i i) := by
  refine (rsym_any s i w hs hi).mono ?_
  have hc : s.data.toList.drop i = 35 :: s.data.toList.drop (i + 1) := by rw [byte_cons hi, h35]
  rintro e w' ⟨hg, ⟨x, hn, k1, k2, k3, rfl⟩ | ⟨t, n, T, ht, hT, rfl⟩⟩
  · exact ⟨hg, .inl ⟨x, by rw [hc, tok_hash, hn], _, _, _, rfl⟩⟩
  · refine ⟨hg, .inr ⟨t, n + 1, T, by rw [hc, tok_hash, ht], hT, ?_⟩⟩
    rw [show i + 1 + n = i + (n + 1) by omega]
set_option maxRecDepth 100000 in
set_option maxHeartbeats 4000000 in
theorem rtok_hash (s : ByteArray) (i : Nat) (w : World) (hs : s.size ≤ 100000) (hi : i < s.size) (h35 : byteU s i = 35) :
    Calls Try.prog 19 #[.string s, .int .i64 i] w (RPost (tokV (s.data.toList.drop i)) w i i) := by
  have R := fun w' => rsymR s i w' hs hi h35
  have h0 : atV s i = 0 := by unfold atV; rw [dif_pos hi, ← byteU_lt hi, h35]; rfl
  obtain ⟨V, hV⟩ : ∃ V, tokV (s.data.toList.drop i) = V := ⟨_, rfl⟩
  rw [hV]
  rw [hV] at R
  obtain ⟨a, ha⟩ : ∃ a, a = (0 : Int) := ⟨_, rfl⟩
  rw [← ha] at h0
  have HA := Lib.hid h0
  have a1 : (a == 1) = false := by rw [ha]; rfl
  have a2 : (a == 2) = false := by rw [ha]; rfl
  have a3 : (a == 3) = false := by rw [ha]; rfl
  have a4 : (a == 4) = false := by rw [ha]; rfl
  have hx : s[i] = 35 := by rw [← byteU_lt hi, h35]
  have b0 : (0 : Int) ≤ (i : Int) := by omega
  have b1 : (i : Int) < (s.size : Int) := by omega
  clear ha h0 hV h35
  have v0 : ∀ o : Obj, ((w.alloc (.cells #[.int .i64 0, .string ⟨#[]⟩, .int .i64 0, .int .i64 0] 33)).alloc o).cell? ⟨w.heap.size, 0, none⟩ = some (.int .i64 0) := fun o => by simp [go_sem]
  have v1 : ∀ o : Obj, ((w.alloc (.cells #[.int .i64 0, .string ⟨#[]⟩, .int .i64 0, .int .i64 0] 33)).alloc o).cell? ⟨w.heap.size, 1, none⟩ = some (.string ⟨#[]⟩) := fun o => by simp [go_sem]
  have v2 : ∀ o : Obj, ((w.alloc (.cells #[.int .i64 0, .string ⟨#[]⟩, .int .i64 0, .int .i64 0] 33)).alloc o).cell? ⟨w.heap.size, 2, none⟩ = some (.int .i64 0) := fun o => by simp [go_sem]
  have v3 : ∀ o : Obj, ((w.alloc (.cells #[.int .i64 0, .string ⟨#[]⟩, .int .i64 0, .int .i64 0] 33)).alloc o).cell? ⟨w.heap.size, 3, none⟩ = some (.int .i64 0) := fun o => by simp [go_sem]
  have z0 : ∀ (o : Obj) (k : Nat), ((w.alloc (.cells #[.int .i64 0, .string ⟨#[]⟩, .int .i64 0, .int .i64 0] 33)).alloc o).frozen? ⟨w.heap.size, k, none⟩ = false := fun o k => by simp [go_sem]
  go_enter Try.func19, Try.ntmps19
  go_wp2_with (first | (go_at_call 31; (with_reducible refine (rat_any _ _ _ hs).mono ?_); rw [HA.out]; rintro e w' ⟨rfl, rfl⟩))
  (with_reducible refine (R _).mono ?_)
  rintro e w2 hR
  obtain ⟨k1, k2, k3, m, x, rfl⟩ := RPost.shape (V := V) (i := i) (base := i) hR
  have hbk := hR.1.block w.heap.size (by simp only [World.alloc, Array.size_push]; omega) (by simp)
  have cf := fun (o : Nat) => World.cell?_of_block (a := ⟨w.heap.size, o, none⟩) hbk
  have ff := fun (o : Nat) => World.frozen?_of_block (a := ⟨w.heap.size, o, none⟩) hbk
  have c0 := (cf 0).trans (v0 _)
  have c1 := (cf 1).trans (v1 _)
  have c2 := (cf 2).trans (v2 _)
  have c3 := (cf 3).trans (v3 _)
  have f0 := (ff 0).trans (z0 _ 0)
  have f1 := (ff 1).trans (z0 _ 1)
  have f2 := (ff 2).trans (z0 _ 2)
  have f3 := (ff 3).trans (z0 _ 3)
  go_wp2
  refine bodyPost_ret (v := .tuple #[.agg #[.int .i64 k1, .string k2, .int .i64 k3, .int .i64 i], .int .i64 m, .int .i64 x]) (by simp [results, Try.results19, go_sem, *]) rfl ?_
  refine ⟨?_, hR.2⟩
  have g0 : w.grownBy w2 none := ((World.grownBy_alloc _ _ _).trans (World.grownBy_alloc _ _ _)).trans hR.1
  repeat' (first | (with_reducible assumption) | (with_reducible refine grown_drewN ?_ _) | (with_reducible refine grown_setOwn ?_ ?_ _) | omega)
end Go.Proofs.Ytdcibeagljeioaa
