/- Contracts of package fuse: what a stroke comes to. -/
import Derived.Test.YtjiidjcehhdnbaaFW3
import Derived.Test.YtjiidjcehhdnbaaFW4
import Derived.Deep.DeepCutAuto
import Derived.Deep.RegionHeld3
namespace Go.Proofs.Ytjiidjcehhdnbaa
open Go.ChangeShapes Go.WideShapes Go.ChangeAt Go.RowKit
set_option linter.unusedVariables false
set_option linter.unusedSimpArgs false

structure Eff where
  dst : Int
  push : List Int
  temp : Int
  val : Int
  ok : Bool
def noEff : Eff := ⟨0, [], 0, 0, false⟩
def neqB (a b c a' b' c' : Int) : Bool := !(a == a' && b == b' && c == c')
theorem neq34 (a b c a' b' c' : Int) (w : World) : (binOp .neq 34 (.agg #[.int .i64 a, .int .i64 b, .int .i64 c]) (.agg #[.int .i64 a', .int .i64 b', .int .i64 c'])).run Try.prog w = .ok (.bool (neqB a b c a' b' c')) w := by
  unfold neqB
  cases h1 : a == a' <;> cases h2 : b == b' <;> cases h3 : c == c' <;> simp [go_sem, h1, h2, h3]
theorem eql34 (a b c a' b' c' : Int) (w : World) : (binOp .eql 34 (.agg #[.int .i64 a, .int .i64 b, .int .i64 c]) (.agg #[.int .i64 a', .int .i64 b', .int .i64 c'])).run Try.prog w = .ok (.bool (!neqB a b c a' b' c')) w := by
  unfold neqB
  cases h1 : a == a' <;> cases h2 : b == b' <;> cases h3 : c == c' <;> simp [go_sem, h1, h2, h3]
section
variable {w0 w : World} {LA : Option Addr} {ln lc : Nat} {CA : Option Addr} {cn cc : Nat} {L : Nat → LitR} {C : Nat → InsR} {s : ByteArray} {x0 x1 x2 : Int} {TA : Option Addr} {tn tc : Nat} {TF : Nat → Int} {FA : Option Addr} {fn fc : Nat} {FF : Nat → Int} {self : Int}

theorem Inv.rebase {W c d : World} (h : Inv w0 w W c) (k : Below c.heap.size c d) : Inv w0 w d d := ⟨h.at0 k, h.out k, Below.refl _ _⟩
theorem fld1 : ∀ (a b c : Value) (w : World), (Instr.field 56 (.agg #[a, b, c]) 1).run Try.prog w = .ok b w := fun _ _ _ _ => by kernel_rfl
theorem truth_any (b : Bool) (w : World) : Calls Try.prog 31 #[.bool b] w fun e w' => e = .returned (.int .i64 (bif b then 2 else 4)) ∧ w' = w := by
  cases b
  all_goals
    go_enter Try.func31, Try.ntmps31
    go_wp2
    go_ret
    exact ⟨rfl, rfl⟩
theorem target_any (a b : Int) (ha : -100000 ≤ a) (ha' : a ≤ 100000) (hb : -100000 ≤ b) (hb' : b ≤ 100000) (w : World) :
    Calls Try.prog 32 #[.agg #[.int .i64 17, .int .i64 a, .int .i64 b]] w fun e w' => e = .returned (.int .i64 (a + 256 * b)) ∧ Below w.heap.size w w' := by
  have F : Hid (a + b * 256 = a + 256 * b) := by show _ = _; omega
  go_enter Try.func32, Try.ntmps32
  go_wp2
  go_ret
  refine ⟨?_, ?_⟩
  · rw [← F.out]; rfl
  · (repeat' (first | (with_reducible exact Below.refl _ _) | (with_reducible assumption) | (with_reducible refine below_drewN ?_ _) | (with_reducible refine Below.alloc ?_ ?_ _) | (with_reducible refine Below.drew ?_) | (with_reducible refine Below.setCell ?_ ?_ _) | go_size))

set_option maxRecDepth 100000 in
set_option maxHeartbeats 4000000 in
theorem app_zero (hM : IsM w0 LA ln CA cn L C) (hB : Below w0.heap.size w0 w) (kind at_ n : Int) (g : ((kind == 0) = true) ∨ ((kind == 0) = false ∧ (kind == 5) = true)) :
    Calls Try.prog 16 #[.agg #[.string s, .int .i64 x0, .int .i64 x1, .int .i64 x2, .slice LA ln lc, .slice CA cn cc], .agg #[.int .i64 kind, .int .i64 at_, .int .i64 n], .agg #[.int .i64 self, .slice TA tn tc, .slice FA fn fc]] w fun e w' => ∃ PV, e = .returned (.tuple #[.agg #[.int .i64 (noEff).dst, PV, .int .i64 (noEff).temp, .int .i64 (noEff).val], .bool (noEff).ok]) ∧ w'.ownsRow w.heap.size 3 1 PV (noEff).push.length ((noEff).push.map (.int .i64)) ∧ Below w.heap.size w w' := by
  have hI : Inv w0 w (((((w.alloc (.cells #[.string s, .int .i64 x0, .int .i64 x1, .int .i64 x2, .slice LA ln lc, .slice CA cn cc] 25)).alloc (.cells #[.int .i64 kind, .int .i64 at_, .int .i64 n] 34)).alloc (.cells #[.int .i64 self, .slice TA tn tc, .slice FA fn fc] 41)).alloc (.cells #[.int .i64 0, .slice none 0 0, .int .i64 0, .int .i64 0] 45)).alloc (.cells #[.string s, .int .i64 x0, .int .i64 x1, .int .i64 x2, .slice LA ln lc, .slice CA cn cc] 60)) (((((w.alloc (.cells #[.string s, .int .i64 x0, .int .i64 x1, .int .i64 x2, .slice LA ln lc, .slice CA cn cc] 25)).alloc (.cells #[.int .i64 kind, .int .i64 at_, .int .i64 n] 34)).alloc (.cells #[.int .i64 self, .slice TA tn tc, .slice FA fn fc] 41)).alloc (.cells #[.int .i64 0, .slice none 0 0, .int .i64 0, .int .i64 0] 45)).alloc (.cells #[.string s, .int .i64 x0, .int .i64 x1, .int .i64 x2, .slice LA ln lc, .slice CA cn cc] 60)) := Inv.start hB (by (repeat' (first | (with_reducible exact Below.refl _ _) | (with_reducible assumption) | (with_reducible refine below_drewN ?_ _) | (with_reducible refine Below.alloc ?_ ?_ _) | (with_reducible refine Below.drew ?_) | (with_reducible refine Below.setCell ?_ ?_ _) | go_size)))
  clear hB
  rcases g with g0 | ⟨g0, g5⟩
  all_goals
    go_enter Try.func16, Try.ntmps16
    go_wp2_with fail
    go_quiet (fail)
    go_wp2
    refine bodyPost_ret (v := .tuple #[.agg #[.int .i64 0, .slice none 0 0, .int .i64 0, .int .i64 0], .bool false]) (by simp [results, Try.results16, go_sem]) rfl ⟨_, rfl, World.ownsRow_nil _ _ _ _, ?_⟩
    (have hS := hI.bw; have hV := hI.bw.size; (repeat' (first | (with_reducible exact Below.refl _ _) | (with_reducible assumption) | (with_reducible refine below_drewN ?_ _) | (with_reducible refine Below.alloc ?_ ?_ _) | (with_reducible refine Below.drew ?_) | (with_reducible refine Below.setCell ?_ ?_ _) | go_size)))

set_option maxRecDepth 100000 in
set_option maxHeartbeats 4000000 in
theorem app_forged (hM : IsM w0 LA ln CA cn L C) (hB : Below w0.heap.size w0 w) (kind at_ n : Int) (g0 : (kind == 0) = false) (g5 : (kind == 5) = false)
    (sk sa sn : Int) (hs : strokeV ln L cn C at_ = (sk, sa, sn)) (hne : neqB sk sa sn kind at_ n = true) :
    Calls Try.prog 16 #[.agg #[.string s, .int .i64 x0, .int .i64 x1, .int .i64 x2, .slice LA ln lc, .slice CA cn cc], .agg #[.int .i64 kind, .int .i64 at_, .int .i64 n], .agg #[.int .i64 self, .slice TA tn tc, .slice FA fn fc]] w fun e w' => ∃ PV, e = .returned (.tuple #[.agg #[.int .i64 (noEff).dst, PV, .int .i64 (noEff).temp, .int .i64 (noEff).val], .bool (noEff).ok]) ∧ w'.ownsRow w.heap.size 3 1 PV (noEff).push.length ((noEff).push.map (.int .i64)) ∧ Below w.heap.size w w' := by
  have hI : Inv w0 w (((((w.alloc (.cells #[.string s, .int .i64 x0, .int .i64 x1, .int .i64 x2, .slice LA ln lc, .slice CA cn cc] 25)).alloc (.cells #[.int .i64 kind, .int .i64 at_, .int .i64 n] 34)).alloc (.cells #[.int .i64 self, .slice TA tn tc, .slice FA fn fc] 41)).alloc (.cells #[.int .i64 0, .slice none 0 0, .int .i64 0, .int .i64 0] 45)).alloc (.cells #[.string s, .int .i64 x0, .int .i64 x1, .int .i64 x2, .slice LA ln lc, .slice CA cn cc] 60)) (((((w.alloc (.cells #[.string s, .int .i64 x0, .int .i64 x1, .int .i64 x2, .slice LA ln lc, .slice CA cn cc] 25)).alloc (.cells #[.int .i64 kind, .int .i64 at_, .int .i64 n] 34)).alloc (.cells #[.int .i64 self, .slice TA tn tc, .slice FA fn fc] 41)).alloc (.cells #[.int .i64 0, .slice none 0 0, .int .i64 0, .int .i64 0] 45)).alloc (.cells #[.string s, .int .i64 x0, .int .i64 x1, .int .i64 x2, .slice LA ln lc, .slice CA cn cc] 60)) := Inv.start hB (by (repeat' (first | (with_reducible exact Below.refl _ _) | (with_reducible assumption) | (with_reducible refine below_drewN ?_ _) | (with_reducible refine Below.alloc ?_ ?_ _) | (with_reducible refine Below.drew ?_) | (with_reducible refine Below.setCell ?_ ?_ _) | go_size)))
  have HS := Lib.hid hs
  have hq := neq34
  clear hs hB
  go_enter Try.func16, Try.ntmps16
  go_wp2_with fail
  go_region_held3 (fun w' => w'.cell? ⟨w.heap.size + 1, 0, none⟩ = some (.int .i64 kind) ∧ w'.cell? ⟨w.heap.size + 1, 1, none⟩ = some (.int .i64 at_) ∧ w'.cell? ⟨w.heap.size + 1, 2, none⟩ = some (.int .i64 n) ∧ w'.cell? ⟨w.heap.size + 1 + 1 + 1 + 1, 0, none⟩ = some (.string s) ∧ w'.cell? ⟨w.heap.size + 1 + 1 + 1 + 1, 1, none⟩ = some (.int .i64 x0) ∧ w'.cell? ⟨w.heap.size + 1 + 1 + 1 + 1, 2, none⟩ = some (.int .i64 x1) ∧ w'.cell? ⟨w.heap.size + 1 + 1 + 1 + 1, 3, none⟩ = some (.int .i64 x2) ∧ w'.cell? ⟨w.heap.size + 1 + 1 + 1 + 1, 4, none⟩ = some (.slice LA ln lc) ∧ w'.cell? ⟨w.heap.size + 1 + 1 + 1 + 1, 5, none⟩ = some (.slice CA cn cc)) (first | (simp [go_sem]; done) | (simp [go_sem, *]; done)) (first | (go_at_call 19; (with_reducible refine (stroke_any hM (hI.at0 (by (repeat' (first | (with_reducible exact Below.refl _ _) | (with_reducible assumption) | (with_reducible refine below_drewN ?_ _) | (with_reducible refine Below.alloc ?_ ?_ _) | (with_reducible refine Below.drew ?_) | (with_reducible refine Below.setCell ?_ ?_ _) | go_size)))) _).mono ?_); rw [HS.out]; rintro e w1 ⟨rfl, hb⟩; replace hI := hI.step (by (repeat' (first | (with_reducible exact Below.refl _ _) | (with_reducible assumption) | (with_reducible refine below_drewN ?_ _) | (with_reducible refine Below.alloc ?_ ?_ _) | (with_reducible refine Below.drew ?_) | (with_reducible refine Below.setCell ?_ ?_ _) | go_size))) hb; clear hb; have hl0 := hI.lt_ (b := w.heap.size) (by simp only [World.size_alloc, World.size_setCell, World.size_drew, size_drewN]; omega); have hc0 := fun o => hI.cell (w.heap.size) o (by simp only [World.size_alloc, World.size_setCell, World.size_drew, size_drewN]; omega); have hf0 := fun o => hI.frozen (w.heap.size) o (by simp only [World.size_alloc, World.size_setCell, World.size_drew, size_drewN]; omega); have hl1 := hI.lt_ (b := w.heap.size + 1) (by simp only [World.size_alloc, World.size_setCell, World.size_drew, size_drewN]; omega); have hc1 := fun o => hI.cell (w.heap.size + 1) o (by simp only [World.size_alloc, World.size_setCell, World.size_drew, size_drewN]; omega); have hf1 := fun o => hI.frozen (w.heap.size + 1) o (by simp only [World.size_alloc, World.size_setCell, World.size_drew, size_drewN]; omega); have hl2 := hI.lt_ (b := w.heap.size + 1 + 1) (by simp only [World.size_alloc, World.size_setCell, World.size_drew, size_drewN]; omega); have hc2 := fun o => hI.cell (w.heap.size + 1 + 1) o (by simp only [World.size_alloc, World.size_setCell, World.size_drew, size_drewN]; omega); have hf2 := fun o => hI.frozen (w.heap.size + 1 + 1) o (by simp only [World.size_alloc, World.size_setCell, World.size_drew, size_drewN]; omega); have hl3 := hI.lt_ (b := w.heap.size + 1 + 1 + 1) (by simp only [World.size_alloc, World.size_setCell, World.size_drew, size_drewN]; omega); have hc3 := fun o => hI.cell (w.heap.size + 1 + 1 + 1) o (by simp only [World.size_alloc, World.size_setCell, World.size_drew, size_drewN]; omega); have hf3 := fun o => hI.frozen (w.heap.size + 1 + 1 + 1) o (by simp only [World.size_alloc, World.size_setCell, World.size_drew, size_drewN]; omega); have hl4 := hI.lt_ (b := w.heap.size + 1 + 1 + 1 + 1) (by simp only [World.size_alloc, World.size_setCell, World.size_drew, size_drewN]; omega); have hc4 := fun o => hI.cell (w.heap.size + 1 + 1 + 1 + 1) o (by simp only [World.size_alloc, World.size_setCell, World.size_drew, size_drewN]; omega); have hf4 := fun o => hI.frozen (w.heap.size + 1 + 1 + 1 + 1) o (by simp only [World.size_alloc, World.size_setCell, World.size_drew, size_drewN]; omega)))
  go_wp2
  refine bodyPost_ret (v := .tuple #[.agg #[.int .i64 0, .slice none 0 0, .int .i64 0, .int .i64 0], .bool false]) (by simp [results, Try.results16, go_sem, *]) rfl ⟨_, rfl, World.ownsRow_nil _ _ _ _, ?_⟩
  (have hS := hI.bw; have hV := hI.bw.size; (repeat' (first | (with_reducible exact Below.refl _ _) | (with_reducible assumption) | (with_reducible refine below_drewN ?_ _) | (with_reducible refine Below.alloc ?_ ?_ _) | (with_reducible refine Below.drew ?_) | (with_reducible refine Below.setCell ?_ ?_ _) | go_size)))

theorem own_one (X : World) (g base : Nat) (v : Value) (hg : X.heap.size = g) (hb : base ≤ g) : (X.alloc (.cells #[v] 3)).ownsRow base 3 1 (.slice (some ⟨g, 0, none⟩) 1 1) 1 [v] := by
  subst hg
  exact ownsRow_mono (World.ownsRow_lit X #[v] 1 (Nat.le_refl _) (by unfold maxLen; omega) rfl) hb
theorem valueV_bd (a : Int) (h : isSmallV a = true) : -1073741824 ≤ valueV a ∧ valueV a ≤ 1073741823 := by
  have h' := of_decide_eq_true h
  simp only [valueV, h, if_true]; omega
theorem mul_bd30 (x y : Int) (h1 : -1073741824 ≤ x) (h2 : x ≤ 1073741823) (k1 : -1073741824 ≤ y) (k2 : y ≤ 1073741823) : -1152921504606846976 ≤ x * y ∧ x * y ≤ 1152921504606846976 := by
  have h : (x * y).natAbs ≤ 1073741824 * 1073741824 := by rw [Int.natAbs_mul]; exact Nat.mul_le_mul (by omega) (by omega)
  omega

end
end Go.Proofs.Ytjiidjcehhdnbaa
