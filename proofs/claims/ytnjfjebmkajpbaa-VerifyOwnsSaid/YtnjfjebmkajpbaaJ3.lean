/- Contracts: operands, whole. -/
import Derived.Test.YtnjfjebmkajpbaaJ2
namespace Go.Proofs.Ytnjfjebmkajpbaa
open Go.ChangeShapes Go.WideShapes Go.ChangeAt Go.RowKit
set_option linter.unusedVariables false
set_option linter.unusedSimpArgs false

theorem op_split (op : Int) : op = 6 ∨ op = 9 ∨ op = 14 ∨ op = 15 ∨ op = 7 ∨ op = 10 ∨ op = 8 ∨ op = 11 ∨ op = 18 ∨ (op ≠ 6 ∧ op ≠ 9 ∧ op ≠ 14 ∧ op ≠ 15 ∧ op ≠ 7 ∧ op ≠ 10 ∧ op ≠ 8 ∧ op ≠ 11 ∧ op ≠ 18) := by omega

theorem opnd1_any (op : Int) (j b : Nat) (nl c n5 c5 : Nat) (p q : Option Addr) (sel : ByteArray) (args temps prim fields kd : Int) (w : World) (hj : j ≤ 255) (hb : b ≤ 255) (hc1 : nl ≤ c) (hc2 : c ≤ 9223372036854775807) (g off : Nat) (hp : j < nl → p = some ⟨g, off, none⟩) (hg : j < nl → w.cell? ⟨g, off + j * 4, none⟩ = some (.int .i64 kd)) :
    Calls Try.prog 22 #[.agg #[.string sel, .int .i64 args, .int .i64 temps, .int .i64 prim, .slice p nl c, .slice q n5 c5], .agg #[.int .i64 op, .int .i64 (j : Int), .int .i64 (b : Int)], .int .i64 fields] w fun e w' => e = .returned (.bool (opndV op j b nl temps fields (kd == 3))) ∧ Below w.heap.size w w' := by
  rcases op_split op with rfl | rfl | rfl | rfl | rfl | rfl | rfl | rfl | rfl | ho
  · by_cases hl : j < nl
    · by_cases hk : kd = 3
      · refine (op1_6t j b nl c n5 c5 p q sel args temps prim fields kd w hj hb hc1 hc2 g off (hp hl) hl hk (by have X := hg hl; rw [hk] at X; exact X) ).mono (fun e w' ⟨x, y⟩ => ⟨?_, y⟩); rw [x]; refine ret_bool ?_; first | (rw [opnd_rest ho]; done) | (simp [opndV, *]; done) | (simp [opndV, *]; omega)
      · refine (op1_6f j b nl c n5 c5 p q sel args temps prim fields kd w hj hb hc1 hc2 g off (hp hl) hl (hg hl) hk ).mono (fun e w' ⟨x, y⟩ => ⟨?_, y⟩); rw [x]; refine ret_bool ?_; first | (rw [opnd_rest ho]; done) | (simp [opndV, *]; done) | (simp [opndV, *]; omega)
    · refine (op1_60 j b nl c n5 c5 p q sel args temps prim fields kd w hj hb hc1 hc2 hl ).mono (fun e w' ⟨x, y⟩ => ⟨?_, y⟩); rw [x]; refine ret_bool ?_; first | (rw [opnd_rest ho]; done) | (simp [opndV, *]; done) | (simp [opndV, *]; omega)
  · by_cases hl : j < nl
    · by_cases hk : kd = 3
      · refine (op1_9t j b nl c n5 c5 p q sel args temps prim fields kd w hj hb hc1 hc2 g off (hp hl) hl hk (by have X := hg hl; rw [hk] at X; exact X) ).mono (fun e w' ⟨x, y⟩ => ⟨?_, y⟩); rw [x]; refine ret_bool ?_; first | (rw [opnd_rest ho]; done) | (simp [opndV, *]; done) | (simp [opndV, *]; omega)
      · refine (op1_9f j b nl c n5 c5 p q sel args temps prim fields kd w hj hb hc1 hc2 g off (hp hl) hl (hg hl) hk ).mono (fun e w' ⟨x, y⟩ => ⟨?_, y⟩); rw [x]; refine ret_bool ?_; first | (rw [opnd_rest ho]; done) | (simp [opndV, *]; done) | (simp [opndV, *]; omega)
    · refine (op1_90 j b nl c n5 c5 p q sel args temps prim fields kd w hj hb hc1 hc2 hl ).mono (fun e w' ⟨x, y⟩ => ⟨?_, y⟩); rw [x]; refine ret_bool ?_; first | (rw [opnd_rest ho]; done) | (simp [opndV, *]; done) | (simp [opndV, *]; omega)
  · by_cases hl : j < nl
    · by_cases hk : kd = 3
      · by_cases h4 : b ≤ 4
        · refine (op1_14ty j b nl c n5 c5 p q sel args temps prim fields kd w hj hb hc1 hc2 g off (hp hl) hl hk (by have X := hg hl; rw [hk] at X; exact X) h4).mono (fun e w' ⟨x, y⟩ => ⟨?_, y⟩); rw [x]; refine ret_bool ?_; first | (rw [opnd_rest ho]; done) | (simp [opndV, *]; done) | (simp [opndV, *]; omega)
        · refine (op1_14tn j b nl c n5 c5 p q sel args temps prim fields kd w hj hb hc1 hc2 g off (hp hl) hl hk (by have X := hg hl; rw [hk] at X; exact X) h4).mono (fun e w' ⟨x, y⟩ => ⟨?_, y⟩); rw [x]; refine ret_bool ?_; first | (rw [opnd_rest ho]; done) | (simp [opndV, *]; done) | (simp [opndV, *]; omega)
      · refine (op1_14f j b nl c n5 c5 p q sel args temps prim fields kd w hj hb hc1 hc2 g off (hp hl) hl (hg hl) hk ).mono (fun e w' ⟨x, y⟩ => ⟨?_, y⟩); rw [x]; refine ret_bool ?_; first | (rw [opnd_rest ho]; done) | (simp [opndV, *]; done) | (simp [opndV, *]; omega)
    · refine (op1_140 j b nl c n5 c5 p q sel args temps prim fields kd w hj hb hc1 hc2 hl ).mono (fun e w' ⟨x, y⟩ => ⟨?_, y⟩); rw [x]; refine ret_bool ?_; first | (rw [opnd_rest ho]; done) | (simp [opndV, *]; done) | (simp [opndV, *]; omega)
  · by_cases hl : j < nl
    · by_cases hk : kd = 3
      · by_cases h4 : b ≤ 4
        · refine (op1_15ty j b nl c n5 c5 p q sel args temps prim fields kd w hj hb hc1 hc2 g off (hp hl) hl hk (by have X := hg hl; rw [hk] at X; exact X) h4).mono (fun e w' ⟨x, y⟩ => ⟨?_, y⟩); rw [x]; refine ret_bool ?_; first | (rw [opnd_rest ho]; done) | (simp [opndV, *]; done) | (simp [opndV, *]; omega)
        · refine (op1_15tn j b nl c n5 c5 p q sel args temps prim fields kd w hj hb hc1 hc2 g off (hp hl) hl hk (by have X := hg hl; rw [hk] at X; exact X) h4).mono (fun e w' ⟨x, y⟩ => ⟨?_, y⟩); rw [x]; refine ret_bool ?_; first | (rw [opnd_rest ho]; done) | (simp [opndV, *]; done) | (simp [opndV, *]; omega)
      · refine (op1_15f j b nl c n5 c5 p q sel args temps prim fields kd w hj hb hc1 hc2 g off (hp hl) hl (hg hl) hk ).mono (fun e w' ⟨x, y⟩ => ⟨?_, y⟩); rw [x]; refine ret_bool ?_; first | (rw [opnd_rest ho]; done) | (simp [opndV, *]; done) | (simp [opndV, *]; omega)
    · refine (op1_150 j b nl c n5 c5 p q sel args temps prim fields kd w hj hb hc1 hc2 hl ).mono (fun e w' ⟨x, y⟩ => ⟨?_, y⟩); rw [x]; refine ret_bool ?_; first | (rw [opnd_rest ho]; done) | (simp [opndV, *]; done) | (simp [opndV, *]; omega)
  · by_cases hl : j < nl
    · by_cases hk : kd = 3
      · refine (op1_7t j b nl c n5 c5 p q sel args temps prim fields kd w hj hb hc1 hc2 g off (hp hl) hl hk (by have X := hg hl; rw [hk] at X; exact X) ).mono (fun e w' ⟨x, y⟩ => ⟨?_, y⟩); rw [x]; refine ret_bool ?_; first | (rw [opnd_rest ho]; done) | (simp [opndV, *]; done) | (simp [opndV, *]; omega)
      · refine (op1_7f j b nl c n5 c5 p q sel args temps prim fields kd w hj hb hc1 hc2 g off (hp hl) hl (hg hl) hk ).mono (fun e w' ⟨x, y⟩ => ⟨?_, y⟩); rw [x]; refine ret_bool ?_; first | (rw [opnd_rest ho]; done) | (simp [opndV, *]; done) | (simp [opndV, *]; omega)
    · refine (op1_70 j b nl c n5 c5 p q sel args temps prim fields kd w hj hb hc1 hc2 hl ).mono (fun e w' ⟨x, y⟩ => ⟨?_, y⟩); rw [x]; refine ret_bool ?_; first | (rw [opnd_rest ho]; done) | (simp [opndV, *]; done) | (simp [opndV, *]; omega)
  · by_cases hl : j < nl
    · by_cases hk : kd = 3
      · refine (op1_10t j b nl c n5 c5 p q sel args temps prim fields kd w hj hb hc1 hc2 g off (hp hl) hl hk (by have X := hg hl; rw [hk] at X; exact X) ).mono (fun e w' ⟨x, y⟩ => ⟨?_, y⟩); rw [x]; refine ret_bool ?_; first | (rw [opnd_rest ho]; done) | (simp [opndV, *]; done) | (simp [opndV, *]; omega)
      · refine (op1_10f j b nl c n5 c5 p q sel args temps prim fields kd w hj hb hc1 hc2 g off (hp hl) hl (hg hl) hk ).mono (fun e w' ⟨x, y⟩ => ⟨?_, y⟩); rw [x]; refine ret_bool ?_; first | (rw [opnd_rest ho]; done) | (simp [opndV, *]; done) | (simp [opndV, *]; omega)
    · refine (op1_100 j b nl c n5 c5 p q sel args temps prim fields kd w hj hb hc1 hc2 hl ).mono (fun e w' ⟨x, y⟩ => ⟨?_, y⟩); rw [x]; refine ret_bool ?_; first | (rw [opnd_rest ho]; done) | (simp [opndV, *]; done) | (simp [opndV, *]; omega)
  · by_cases hl : j < nl
    · by_cases hk : kd = 3
      · refine (op1_8t j b nl c n5 c5 p q sel args temps prim fields kd w hj hb hc1 hc2 g off (hp hl) hl hk (by have X := hg hl; rw [hk] at X; exact X) ).mono (fun e w' ⟨x, y⟩ => ⟨?_, y⟩); rw [x]; refine ret_bool ?_; first | (rw [opnd_rest ho]; done) | (simp [opndV, *]; done) | (simp [opndV, *]; omega)
      · refine (op1_8f j b nl c n5 c5 p q sel args temps prim fields kd w hj hb hc1 hc2 g off (hp hl) hl (hg hl) hk ).mono (fun e w' ⟨x, y⟩ => ⟨?_, y⟩); rw [x]; refine ret_bool ?_; first | (rw [opnd_rest ho]; done) | (simp [opndV, *]; done) | (simp [opndV, *]; omega)
    · refine (op1_80 j b nl c n5 c5 p q sel args temps prim fields kd w hj hb hc1 hc2 hl ).mono (fun e w' ⟨x, y⟩ => ⟨?_, y⟩); rw [x]; refine ret_bool ?_; first | (rw [opnd_rest ho]; done) | (simp [opndV, *]; done) | (simp [opndV, *]; omega)
  · by_cases hl : j < nl
    · by_cases hk : kd = 3
      · refine (op1_11t j b nl c n5 c5 p q sel args temps prim fields kd w hj hb hc1 hc2 g off (hp hl) hl hk (by have X := hg hl; rw [hk] at X; exact X) ).mono (fun e w' ⟨x, y⟩ => ⟨?_, y⟩); rw [x]; refine ret_bool ?_; first | (rw [opnd_rest ho]; done) | (simp [opndV, *]; done) | (simp [opndV, *]; omega)
      · refine (op1_11f j b nl c n5 c5 p q sel args temps prim fields kd w hj hb hc1 hc2 g off (hp hl) hl (hg hl) hk ).mono (fun e w' ⟨x, y⟩ => ⟨?_, y⟩); rw [x]; refine ret_bool ?_; first | (rw [opnd_rest ho]; done) | (simp [opndV, *]; done) | (simp [opndV, *]; omega)
    · refine (op1_110 j b nl c n5 c5 p q sel args temps prim fields kd w hj hb hc1 hc2 hl ).mono (fun e w' ⟨x, y⟩ => ⟨?_, y⟩); rw [x]; refine ret_bool ?_; first | (rw [opnd_rest ho]; done) | (simp [opndV, *]; done) | (simp [opndV, *]; omega)
  · by_cases hl : j < nl
    · by_cases hk : kd = 3
      · by_cases h4 : b ≤ 4
        · refine (op1_18ty j b nl c n5 c5 p q sel args temps prim fields kd w hj hb hc1 hc2 g off (hp hl) hl hk (by have X := hg hl; rw [hk] at X; exact X) h4).mono (fun e w' ⟨x, y⟩ => ⟨?_, y⟩); rw [x]; refine ret_bool ?_; first | (rw [opnd_rest ho]; done) | (simp [opndV, *]; done) | (simp [opndV, *]; omega)
        · refine (op1_18tn j b nl c n5 c5 p q sel args temps prim fields kd w hj hb hc1 hc2 g off (hp hl) hl hk (by have X := hg hl; rw [hk] at X; exact X) h4).mono (fun e w' ⟨x, y⟩ => ⟨?_, y⟩); rw [x]; refine ret_bool ?_; first | (rw [opnd_rest ho]; done) | (simp [opndV, *]; done) | (simp [opndV, *]; omega)
      · by_cases h4 : b ≤ 4
        · refine (op1_18fy j b nl c n5 c5 p q sel args temps prim fields kd w hj hb hc1 hc2 g off (hp hl) hl (hg hl) hk h4).mono (fun e w' ⟨x, y⟩ => ⟨?_, y⟩); rw [x]; refine ret_bool ?_; first | (rw [opnd_rest ho]; done) | (simp [opndV, *]; done) | (simp [opndV, *]; omega)
        · refine (op1_18fn j b nl c n5 c5 p q sel args temps prim fields kd w hj hb hc1 hc2 g off (hp hl) hl (hg hl) hk h4).mono (fun e w' ⟨x, y⟩ => ⟨?_, y⟩); rw [x]; refine ret_bool ?_; first | (rw [opnd_rest ho]; done) | (simp [opndV, *]; done) | (simp [opndV, *]; omega)
    · by_cases h4 : b ≤ 4
      · refine (op1_180y j b nl c n5 c5 p q sel args temps prim fields kd w hj hb hc1 hc2 hl h4).mono (fun e w' ⟨x, y⟩ => ⟨?_, y⟩); rw [x]; refine ret_bool ?_; first | (rw [opnd_rest ho]; done) | (simp [opndV, *]; done) | (simp [opndV, *]; omega)
      · refine (op1_180n j b nl c n5 c5 p q sel args temps prim fields kd w hj hb hc1 hc2 hl h4).mono (fun e w' ⟨x, y⟩ => ⟨?_, y⟩); rw [x]; refine ret_bool ?_; first | (rw [opnd_rest ho]; done) | (simp [opndV, *]; done) | (simp [opndV, *]; omega)
  · by_cases hl : j < nl
    · by_cases hk : kd = 3
      · refine (op1_opt op j b nl c n5 c5 p q sel args temps prim fields kd w hj hb hc1 hc2 g off (hp hl) hl hk (by have X := hg hl; rw [hk] at X; exact X) ho ).mono (fun e w' ⟨x, y⟩ => ⟨?_, y⟩); rw [x]; refine ret_bool ?_; first | (rw [opnd_rest ho]; done) | (simp [opndV, *]; done) | (simp [opndV, *]; omega)
      · refine (op1_opf op j b nl c n5 c5 p q sel args temps prim fields kd w hj hb hc1 hc2 g off (hp hl) hl (hg hl) hk ho ).mono (fun e w' ⟨x, y⟩ => ⟨?_, y⟩); rw [x]; refine ret_bool ?_; first | (rw [opnd_rest ho]; done) | (simp [opndV, *]; done) | (simp [opndV, *]; omega)
    · refine (op1_op0 op j b nl c n5 c5 p q sel args temps prim fields kd w hj hb hc1 hc2 hl ho ).mono (fun e w' ⟨x, y⟩ => ⟨?_, y⟩); rw [x]; refine ret_bool ?_; first | (rw [opnd_rest ho]; done) | (simp [opndV, *]; done) | (simp [opndV, *]; omega)

theorem opnd2_any (op : Int) (j b : Nat) (nl c n5 c5 : Nat) (p q : Option Addr) (sel : ByteArray) (args temps prim fields kd : Int) (w : World) (hj : j ≤ 255) (hb : b ≤ 255) (hc1 : nl ≤ c) (hc2 : c ≤ 9223372036854775807) (g off : Nat) (hp : j < nl → p = some ⟨g, off, none⟩) (hg : j < nl → w.cell? ⟨g, off + j * 4, none⟩ = some (.int .i64 kd)) :
    Calls Try.prog 43 #[.agg #[.string sel, .int .i64 args, .int .i64 temps, .int .i64 prim, .slice p nl c, .slice q n5 c5], .agg #[.int .i64 op, .int .i64 (j : Int), .int .i64 (b : Int)], .int .i64 fields] w fun e w' => e = .returned (.bool (opndV op j b nl temps fields (kd == 3))) ∧ Below w.heap.size w w' := by
  rcases op_split op with rfl | rfl | rfl | rfl | rfl | rfl | rfl | rfl | rfl | ho
  · by_cases hl : j < nl
    · by_cases hk : kd = 3
      · refine (op2_6t j b nl c n5 c5 p q sel args temps prim fields kd w hj hb hc1 hc2 g off (hp hl) hl hk (by have X := hg hl; rw [hk] at X; exact X) ).mono (fun e w' ⟨x, y⟩ => ⟨?_, y⟩); rw [x]; refine ret_bool ?_; first | (rw [opnd_rest ho]; done) | (simp [opndV, *]; done) | (simp [opndV, *]; omega)
      · refine (op2_6f j b nl c n5 c5 p q sel args temps prim fields kd w hj hb hc1 hc2 g off (hp hl) hl (hg hl) hk ).mono (fun e w' ⟨x, y⟩ => ⟨?_, y⟩); rw [x]; refine ret_bool ?_; first | (rw [opnd_rest ho]; done) | (simp [opndV, *]; done) | (simp [opndV, *]; omega)
    · refine (op2_60 j b nl c n5 c5 p q sel args temps prim fields kd w hj hb hc1 hc2 hl ).mono (fun e w' ⟨x, y⟩ => ⟨?_, y⟩); rw [x]; refine ret_bool ?_; first | (rw [opnd_rest ho]; done) | (simp [opndV, *]; done) | (simp [opndV, *]; omega)
  · by_cases hl : j < nl
    · by_cases hk : kd = 3
      · refine (op2_9t j b nl c n5 c5 p q sel args temps prim fields kd w hj hb hc1 hc2 g off (hp hl) hl hk (by have X := hg hl; rw [hk] at X; exact X) ).mono (fun e w' ⟨x, y⟩ => ⟨?_, y⟩); rw [x]; refine ret_bool ?_; first | (rw [opnd_rest ho]; done) | (simp [opndV, *]; done) | (simp [opndV, *]; omega)
      · refine (op2_9f j b nl c n5 c5 p q sel args temps prim fields kd w hj hb hc1 hc2 g off (hp hl) hl (hg hl) hk ).mono (fun e w' ⟨x, y⟩ => ⟨?_, y⟩); rw [x]; refine ret_bool ?_; first | (rw [opnd_rest ho]; done) | (simp [opndV, *]; done) | (simp [opndV, *]; omega)
    · refine (op2_90 j b nl c n5 c5 p q sel args temps prim fields kd w hj hb hc1 hc2 hl ).mono (fun e w' ⟨x, y⟩ => ⟨?_, y⟩); rw [x]; refine ret_bool ?_; first | (rw [opnd_rest ho]; done) | (simp [opndV, *]; done) | (simp [opndV, *]; omega)
  · by_cases hl : j < nl
    · by_cases hk : kd = 3
      · by_cases h4 : b ≤ 4
        · refine (op2_14ty j b nl c n5 c5 p q sel args temps prim fields kd w hj hb hc1 hc2 g off (hp hl) hl hk (by have X := hg hl; rw [hk] at X; exact X) h4).mono (fun e w' ⟨x, y⟩ => ⟨?_, y⟩); rw [x]; refine ret_bool ?_; first | (rw [opnd_rest ho]; done) | (simp [opndV, *]; done) | (simp [opndV, *]; omega)
        · refine (op2_14tn j b nl c n5 c5 p q sel args temps prim fields kd w hj hb hc1 hc2 g off (hp hl) hl hk (by have X := hg hl; rw [hk] at X; exact X) h4).mono (fun e w' ⟨x, y⟩ => ⟨?_, y⟩); rw [x]; refine ret_bool ?_; first | (rw [opnd_rest ho]; done) | (simp [opndV, *]; done) | (simp [opndV, *]; omega)
      · refine (op2_14f j b nl c n5 c5 p q sel args temps prim fields kd w hj hb hc1 hc2 g off (hp hl) hl (hg hl) hk ).mono (fun e w' ⟨x, y⟩ => ⟨?_, y⟩); rw [x]; refine ret_bool ?_; first | (rw [opnd_rest ho]; done) | (simp [opndV, *]; done) | (simp [opndV, *]; omega)
    · refine (op2_140 j b nl c n5 c5 p q sel args temps prim fields kd w hj hb hc1 hc2 hl ).mono (fun e w' ⟨x, y⟩ => ⟨?_, y⟩); rw [x]; refine ret_bool ?_; first | (rw [opnd_rest ho]; done) | (simp [opndV, *]; done) | (simp [opndV, *]; omega)
  · by_cases hl : j < nl
    · by_cases hk : kd = 3
      · by_cases h4 : b ≤ 4
        · refine (op2_15ty j b nl c n5 c5 p q sel args temps prim fields kd w hj hb hc1 hc2 g off (hp hl) hl hk (by have X := hg hl; rw [hk] at X; exact X) h4).mono (fun e w' ⟨x, y⟩ => ⟨?_, y⟩); rw [x]; refine ret_bool ?_; first | (rw [opnd_rest ho]; done) | (simp [opndV, *]; done) | (simp [opndV, *]; omega)
        · refine (op2_15tn j b nl c n5 c5 p q sel args temps prim fields kd w hj hb hc1 hc2 g off (hp hl) hl hk (by have X := hg hl; rw [hk] at X; exact X) h4).mono (fun e w' ⟨x, y⟩ => ⟨?_, y⟩); rw [x]; refine ret_bool ?_; first | (rw [opnd_rest ho]; done) | (simp [opndV, *]; done) | (simp [opndV, *]; omega)
      · refine (op2_15f j b nl c n5 c5 p q sel args temps prim fields kd w hj hb hc1 hc2 g off (hp hl) hl (hg hl) hk ).mono (fun e w' ⟨x, y⟩ => ⟨?_, y⟩); rw [x]; refine ret_bool ?_; first | (rw [opnd_rest ho]; done) | (simp [opndV, *]; done) | (simp [opndV, *]; omega)
    · refine (op2_150 j b nl c n5 c5 p q sel args temps prim fields kd w hj hb hc1 hc2 hl ).mono (fun e w' ⟨x, y⟩ => ⟨?_, y⟩); rw [x]; refine ret_bool ?_; first | (rw [opnd_rest ho]; done) | (simp [opndV, *]; done) | (simp [opndV, *]; omega)
  · by_cases h5 : (j : Int) < temps
    · refine (op2_7y j b nl c n5 c5 p q sel args temps prim fields kd w hj hb hc1 hc2 h5).mono (fun e w' ⟨x, y⟩ => ⟨?_, y⟩); rw [x]; refine ret_bool ?_; first | (rw [opnd_rest ho]; done) | (simp [opndV, *]; done) | (simp [opndV, *]; omega)
    · refine (op2_7n j b nl c n5 c5 p q sel args temps prim fields kd w hj hb hc1 hc2 h5).mono (fun e w' ⟨x, y⟩ => ⟨?_, y⟩); rw [x]; refine ret_bool ?_; first | (rw [opnd_rest ho]; done) | (simp [opndV, *]; done) | (simp [opndV, *]; omega)
  · by_cases h5 : (j : Int) < temps
    · refine (op2_10y j b nl c n5 c5 p q sel args temps prim fields kd w hj hb hc1 hc2 h5).mono (fun e w' ⟨x, y⟩ => ⟨?_, y⟩); rw [x]; refine ret_bool ?_; first | (rw [opnd_rest ho]; done) | (simp [opndV, *]; done) | (simp [opndV, *]; omega)
    · refine (op2_10n j b nl c n5 c5 p q sel args temps prim fields kd w hj hb hc1 hc2 h5).mono (fun e w' ⟨x, y⟩ => ⟨?_, y⟩); rw [x]; refine ret_bool ?_; first | (rw [opnd_rest ho]; done) | (simp [opndV, *]; done) | (simp [opndV, *]; omega)
  · by_cases h5 : (j : Int) < fields
    · refine (op2_8y j b nl c n5 c5 p q sel args temps prim fields kd w hj hb hc1 hc2 h5).mono (fun e w' ⟨x, y⟩ => ⟨?_, y⟩); rw [x]; refine ret_bool ?_; first | (rw [opnd_rest ho]; done) | (simp [opndV, *]; done) | (simp [opndV, *]; omega)
    · refine (op2_8n j b nl c n5 c5 p q sel args temps prim fields kd w hj hb hc1 hc2 h5).mono (fun e w' ⟨x, y⟩ => ⟨?_, y⟩); rw [x]; refine ret_bool ?_; first | (rw [opnd_rest ho]; done) | (simp [opndV, *]; done) | (simp [opndV, *]; omega)
  · by_cases h5 : (j : Int) < fields
    · refine (op2_11y j b nl c n5 c5 p q sel args temps prim fields kd w hj hb hc1 hc2 h5).mono (fun e w' ⟨x, y⟩ => ⟨?_, y⟩); rw [x]; refine ret_bool ?_; first | (rw [opnd_rest ho]; done) | (simp [opndV, *]; done) | (simp [opndV, *]; omega)
    · refine (op2_11n j b nl c n5 c5 p q sel args temps prim fields kd w hj hb hc1 hc2 h5).mono (fun e w' ⟨x, y⟩ => ⟨?_, y⟩); rw [x]; refine ret_bool ?_; first | (rw [opnd_rest ho]; done) | (simp [opndV, *]; done) | (simp [opndV, *]; omega)
  · by_cases h4 : b ≤ 4
    · refine (op2_18y j b nl c n5 c5 p q sel args temps prim fields kd w hj hb hc1 hc2 h4).mono (fun e w' ⟨x, y⟩ => ⟨?_, y⟩); rw [x]; refine ret_bool ?_; first | (rw [opnd_rest ho]; done) | (simp [opndV, *]; done) | (simp [opndV, *]; omega)
    · refine (op2_18n j b nl c n5 c5 p q sel args temps prim fields kd w hj hb hc1 hc2 h4).mono (fun e w' ⟨x, y⟩ => ⟨?_, y⟩); rw [x]; refine ret_bool ?_; first | (rw [opnd_rest ho]; done) | (simp [opndV, *]; done) | (simp [opndV, *]; omega)
  · refine (op2_op op j b nl c n5 c5 p q sel args temps prim fields kd w hj hb hc1 hc2 ho).mono (fun e w' ⟨x, y⟩ => ⟨?_, y⟩); rw [x]; refine ret_bool ?_; first | (rw [opnd_rest ho]; done) | (simp [opndV, *]; done) | (simp [opndV, *]; omega)
end Go.Proofs.Ytnjfjebmkajpbaa
