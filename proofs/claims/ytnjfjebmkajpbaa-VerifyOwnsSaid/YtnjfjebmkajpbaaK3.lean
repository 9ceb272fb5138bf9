/- Contracts: Depths and Check of the program, whole. -/
import Derived.Test.YtnjfjebmkajpbaaK2
namespace Go.Proofs.Ytnjfjebmkajpbaa
open Go.ChangeShapes Go.WideShapes Go.ChangeAt Go.RowKit
set_option linter.unusedVariables false
set_option linter.unusedSimpArgs false

theorem depths9_any {w0 w : World} {F : Nat → Nat → Value} (n5 c c5 : Nat) (p q : Option Addr) (sel : ByteArray) (args temps prim fields : Int) (ts : List LitT) (hl : IsLits w0 p ts.length F ts) (hB : Below w0.heap.size w0 w) (hc1 : ts.length ≤ c) (hc2 : c ≤ 9223372036854775807) (hc3 : n5 ≤ c5) (hc4 : c5 ≤ 9223372036854775807) (hs : sel.size ≤ 9223372036854775807) (hh : ∀ (i : Nat) (h : i < ts.length), hgt ts[i] ≤ 100000) {C : Nat → Ins} (hC : IsCode w0 q n5 C) : Calls Try.prog 9 #[.agg #[.string sel, .int .i64 args, .int .i64 temps, .int .i64 prim, .slice p ts.length c, .slice q n5 c5], .int .i64 fields] w (DepthsPost (GoodM sel args temps prim fields ts n5 C) n5 C w) := by
  obtain ⟨odd, ho⟩ : ∃ odd, (!ts.all (okL 20)) = odd := ⟨_, rfl⟩
  cases h0 : inB fields 0 8
  · exact (dep_head0 n5 c c5 p q sel args temps prim fields ts hl hB hc1 hc2 hc3 hc4 hs hh h0 odd ho).mono (fun e w' ⟨a, b⟩ => ⟨b, .inr ⟨fun g => (by have := g.1.1; unfold headB at this; rw [h0] at this; simp at this), a⟩⟩)
  cases h1 : inB (sel.size : Int) 1 60
  · exact (dep_head1 n5 c c5 p q sel args temps prim fields ts hl hB hc1 hc2 hc3 hc4 hs hh h0 h1 odd ho).mono (fun e w' ⟨a, b⟩ => ⟨b, .inr ⟨fun g => (by have := g.1.1; unfold headB at this; rw [h1] at this; simp at this), a⟩⟩)
  cases h2 : inB args 0 4
  · exact (dep_head2 n5 c c5 p q sel args temps prim fields ts hl hB hc1 hc2 hc3 hc4 hs hh h0 h1 h2 odd ho).mono (fun e w' ⟨a, b⟩ => ⟨b, .inr ⟨fun g => (by have := g.1.1; unfold headB at this; rw [h2] at this; simp at this), a⟩⟩)
  cases h3 : inB temps args 24
  · exact (dep_head3 n5 c c5 p q sel args temps prim fields ts hl hB hc1 hc2 hc3 hc4 hs hh h0 h1 h2 h3 odd ho).mono (fun e w' ⟨a, b⟩ => ⟨b, .inr ⟨fun g => (by have := g.1.1; unfold headB at this; rw [h3] at this; simp at this), a⟩⟩)
  cases h4 : inB prim 0 255
  · exact (dep_head4 n5 c c5 p q sel args temps prim fields ts hl hB hc1 hc2 hc3 hc4 hs hh h0 h1 h2 h3 h4 odd ho).mono (fun e w' ⟨a, b⟩ => ⟨b, .inr ⟨fun g => (by have := g.1.1; unfold headB at this; rw [h4] at this; simp at this), a⟩⟩)
  cases odd
  · by_cases hm : ts.length ≤ 60
    · cases h9 : inB (n5 : Int) 1 400
      · exact (dep_long n5 c c5 p q sel args temps prim fields ts hl hB hc1 hc2 hc3 hc4 hs hh h0 h1 h2 h3 h4 hm h9 false ho rfl).mono (fun e w' ⟨a, b⟩ => ⟨b, .inr ⟨fun g => (by have := g.1.2.2.2.1; rw [h9] at this; cases this), a⟩⟩)
      · exact depths_go n5 c c5 p q sel args temps prim fields ts hl hB hc1 hc2 hc3 hc4 hs hh hC h0 h1 h2 h3 h4 hm h9 ho
    · exact (dep_many n5 c c5 p q sel args temps prim fields ts hl hB hc1 hc2 hc3 hc4 hs hh h0 h1 h2 h3 h4 hm false ho rfl).mono (fun e w' ⟨a, b⟩ => ⟨b, .inr ⟨fun g => hm g.1.2.2.1, a⟩⟩)
  · exact (dep_odd n5 c c5 p q sel args temps prim fields ts hl hB hc1 hc2 hc3 hc4 hs hh h0 h1 h2 h3 h4 true ho rfl).mono (fun e w' ⟨a, b⟩ => ⟨b, .inr ⟨fun g => (by have := g.1.2.1; rw [this] at ho; cases ho), a⟩⟩)

set_option maxHeartbeats 16000000 in
set_option maxRecDepth 100000 in
theorem check_any {w0 w : World} {F : Nat → Nat → Value} (n5 c c5 : Nat) (p q : Option Addr) (sel : ByteArray) (args temps prim fields : Int) (ts : List LitT) (hl : IsLits w0 p ts.length F ts) (hB : Below w0.heap.size w0 w) (hc1 : ts.length ≤ c) (hc2 : c ≤ 9223372036854775807) (hc3 : n5 ≤ c5) (hc4 : c5 ≤ 9223372036854775807) (hs : sel.size ≤ 9223372036854775807) (hh : ∀ (i : Nat) (h : i < ts.length), hgt ts[i] ≤ 100000) {C : Nat → Ins} (hC : IsCode w0 q n5 C) : Calls Try.prog 12 #[.agg #[.string sel, .int .i64 args, .int .i64 temps, .int .i64 prim, .slice p ts.length c, .slice q n5 c5], .int .i64 fields] w (fun e w' => Below w.heap.size w w' ∧ ((GoodM sel args temps prim fields ts n5 C ∧ e = .returned (.int .i64 0)) ∨ (¬ GoodM sel args temps prim fields ts n5 C ∧ e = .returned (.int .i64 19)))) := by
  have hc := depths9_any (fields := fields) n5 c c5 p q sel args temps prim ts hl (hB.alloc hB.size (.cells #[.string sel, .int .i64 args, .int .i64 temps, .int .i64 prim, .slice p ts.length c, .slice q n5 c5] 25)) hc1 hc2 hc3 hc4 hs hh hC
  have HC := Lib.hid hc
  clear hc
  go_enter Try.func12, Try.ntmps12
  go_wp2_with fail
  (with_reducible refine HC.out.mono ?_)
  rintro e w3 ⟨hb3, ⟨hg, v, F, rfl, _⟩ | ⟨hg, rfl⟩⟩
  · go_wp2_with fail
    go_ret
    exact ⟨((Below.refl _ _).alloc (Nat.le_refl _) _).trans (hb3.mono (by go_size)), .inl ⟨hg, rfl⟩⟩
  · go_wp2_with fail
    go_ret
    exact ⟨((Below.refl _ _).alloc (Nat.le_refl _) _).trans (hb3.mono (by go_size)), .inr ⟨hg, rfl⟩⟩
end Go.Proofs.Ytnjfjebmkajpbaa
