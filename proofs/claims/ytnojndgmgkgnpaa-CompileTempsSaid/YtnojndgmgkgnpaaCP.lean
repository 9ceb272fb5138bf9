/- Chapter 10: what a condition does in line, the walk. -/
import Derived.Test.YtnojndgmgkgnpaaCO
namespace Go.Proofs.Ytnojndgmgkgnpaa
open Go.ChangeShapes Go.WideShapes Go.ChangeAt Go.RowKit Go.Deep Go.Joins Go.Maps
set_option linter.unusedVariables false
set_option linter.unusedSimpArgs false
theorem CT.deep {w0 ws w w' : World} {P P1 : Nat → Prop} {cb : Nat} {m : MK} {s : CSt} (h0 : Turns (outP P) ws w) (h : CT w0 P1 w w' cb m s) (hP : ∀ k, P k → P1 k) (hl : ∀ k, k < w0.heap.size → P k) : CT w0 P ws w' cb m s :=
 ⟨h.1.less hP hl, h0.trans (h.2.mono (fun k _ z q => z (hP k q)))⟩
/-- a jump is put, from an earlier world on -/
theorem leads_at {w0 ws w1 w : World} {P : Nat → Prop} {cb : Nat} {m : MK} {s : CSt} (h : CT w0 P ws w1 cb m s) (hb : Below w1.heap.size w1 w) (op : Int) (hf : s.code.length ≤ 1000000) : Calls Try.prog 61 #[.pointer (some ⟨cb, 0, none⟩), .int .i64 op] w fun e w' => ∃ P1 k1, e = .returned (cloV k1) ∧ Clo w' k1 cb s.code.length op ∧ (∀ k, P k → P1 k) ∧ (∀ k, cloS k1 k → P1 k) ∧ CX w0 P1 w' cb m (emitP s op 0 0) ∧ Turns (outP P) ws w' := by
 have h2 := h.below hb
 refine (leads_any h2.1 op hf).mono ?_
 rintro e w' ⟨he, _, hc, hx, ht⟩
 exact ⟨_, _, he, hc, fun _ z => .inl z, fun _ z => .inr z, hx, h2.2.trans ht⟩
theorem lead1_at {w0 ws w1 w : World} {P : Nat → Prop} {cb : Nat} {m : MK} {s : CSt} (h : CT w0 P ws w1 cb m s) (hb : Below w1.heap.size w1 w) {kb a : Nat} {op : Int} (hc : Clo w1 kb cb a op) (hS : ∀ k, cloS kb k → P k) (ha : a < s.code.length) (hf : s.code.length ≤ 1000000) : Calls Try.prog 76 #[.pointer (some ⟨kb, 0, none⟩), .pointer (some ⟨kb + 2, 0, none⟩), .pointer (some ⟨kb + 1, 0, none⟩)] w fun e w' => e = .returned (.tuple #[]) ∧ CT w0 P ws w' cb m (toP s a op s.code.length) := by
 have h2 := h.below hb
 refine (lead1_any h2.1 (hc.turns (Turns.of_below hb) (fun k hk z => z)) hS ha hf).mono ?_
 rintro e w' ⟨he, hx⟩
 exact ⟨he, h2.go hx⟩
def brSt (f : Nat) (x : NodT) (s : CSt) : CSt := match isBr x with
 | some (y, n) => branchP (valP f) y n x.kids s
 | none => s
theorem branch_eq (rec : NodT → CSt → CSt) (y n : Arm) {kids : List NodT} {k : NodT} {r : List NodT} (hk : kids = k :: r) (s : CSt) {s1 s2 s4 : CSt} (h1 : rec k s = s1) (h2 : armP rec y kids (emitP s1 17 0 0) = s2) (h4 : armP rec n kids (toP (emitP s2 16 0 0) s1.code.length 17 (emitP s2 16 0 0).code.length) = s4) :
  branchP rec y n kids s = toP s4 s2.code.length 16 s4.code.length := by
 have e : branchP rec y n kids s = (let s1 := rec k s
  let s2 := armP rec y kids (emitP s1 17 0 0)
  let s3 := emitP s2 16 0 0
  let s4 := armP rec n kids (toP s3 s1.code.length 17 s3.code.length)
  toP s4 s2.code.length 16 s4.code.length) := by unfold branchP; rw [hk]
 rw [e]
 dsimp only
 rw [h1, h2, h4]
theorem four_blocks (w : World) (c0 c1 c2 c3 : Array Value) (t0 t1 t2 t3 : TypeId) : ((((w.alloc (.cells c0 t0)).alloc (.cells c1 t1)).alloc (.cells c2 t2)).alloc (.cells c3 t3)).heap[w.heap.size]? = some (.cells c0 t0 (0, 0)) ∧ ((((w.alloc (.cells c0 t0)).alloc (.cells c1 t1)).alloc (.cells c2 t2)).alloc (.cells c3 t3)).heap[w.heap.size + 1]? = some (.cells c1 t1 (0, 0)) ∧ ((((w.alloc (.cells c0 t0)).alloc (.cells c1 t1)).alloc (.cells c2 t2)).alloc (.cells c3 t3)).heap[w.heap.size + 2]? = some (.cells c2 t2 (0, 0)) ∧ ((((w.alloc (.cells c0 t0)).alloc (.cells c1 t1)).alloc (.cells c2 t2)).alloc (.cells c3 t3)).heap[w.heap.size + 3]? = some (.cells c3 t3 (0, 0)) := by
 have al : ∀ (W : World) (o : Obj) (k : Nat) (v : Obj), W.heap[k]? = some v → (W.alloc o).heap[k]? = some v := fun W o k v h => ((Below.refl _ _).alloc (Nat.le_refl _) _ |>.block _ (lt_of_block h)).trans h
 have n1 := heap_alloc_new (w.alloc (.cells c0 t0)) (.cells c1 t1)
 have n2 := heap_alloc_new ((w.alloc (.cells c0 t0)).alloc (.cells c1 t1)) (.cells c2 t2)
 have n3 := heap_alloc_new (((w.alloc (.cells c0 t0)).alloc (.cells c1 t1)).alloc (.cells c2 t2)) (.cells c3 t3)
 simp only [World.size_alloc] at n1 n2 n3
 exact ⟨al _ _ _ _ (al _ _ _ _ (al _ _ _ _ (heap_alloc_new w _))), al _ _ _ _ (al _ _ _ _ n1), al _ _ _ _ n2, n3⟩
theorem arm_kid {x : NodT} {y n : Arm} (h : isBr x = some (y, n)) : (∀ i, y = .kid i → ∃ hi : i < x.kids.length, armSz y x.kids = (x.kids[i]).size) ∧ (∀ i, n = .kid i → ∃ hi : i < x.kids.length, armSz n x.kids = (x.kids[i]).size) := by
 obtain ⟨m, hb, hl, _⟩ := isBr_some h
 have hc := brOf_cases hb
 have hh : ∀ (i : Nat) (hi : i < x.kids.length), armSz (.kid i) x.kids = (x.kids[i]).size := fun i hi => by unfold armSz; simp only [List.getElem?_eq_getElem hi]
 clear hb
 rcases hc with ⟨rfl, rfl, rfl⟩ | ⟨rfl, rfl, rfl⟩ | ⟨rfl, rfl, rfl⟩ | ⟨rfl, rfl, rfl⟩ | ⟨rfl, rfl, rfl⟩ | ⟨rfl, rfl, rfl⟩
 all_goals
  refine ⟨fun i e => ?_, fun i e => ?_⟩
  all_goals first
   | (cases e; exact ⟨by omega, hh _ (by omega)⟩)
   | (cases e; done)
/-- the numbers of a condition's walk -/
theorem br_num {f : Nat} {x k : NodT} {r : List NodT} {y n : Arm} (h : isBr x = some (y, n)) (hk : x.kids = k :: r) (hx : x.size ≤ f + 1) {s s1 s2 s4 : CSt} (hf : s.code.length + 8 * x.size ≤ 1000000) (hl : s.lits.length + x.size ≤ 100000) (h1 : valP f k s = s1) (h2 : armP (valP f) y x.kids (emitP s1 17 0 0) = s2) (h4 : armP (valP f) n x.kids (toP (emitP s2 16 0 0) s1.code.length 17 (emitP s2 16 0 0).code.length) = s4) :
  (s1.code.length + 1 + 8 * armSz y x.kids ≤ 1000000 ∧ s1.lits.length + armSz y x.kids ≤ 100000 ∧ s1.code.length < s2.code.length + 1) ∧ (s2.code.length + 1 + 8 * armSz n x.kids ≤ 1000000 ∧ s2.lits.length + armSz n x.kids ≤ 100000 ∧ s2.code.length < s4.code.length) ∧ s4.code.length ≤ 1000000 := by
 have a0 := arms_le h hk
 have a1 := x.size_kids
 have a2 := k.size_pos
 have g1 := valP_gr f k s (by omega)
 have g2 := armP_gr (valP_gr f) (kids := x.kids) (by omega) y (emitP s1 17 0 0)
 have g4 := armP_gr (valP_gr f) (kids := x.kids) (by omega) n (toP (emitP s2 16 0 0) s1.code.length 17 (emitP s2 16 0 0).code.length)
 have t2 := armP_tm (valP_tm f) y x.kids (emitP s1 17 0 0)
 have t4 := armP_tm (valP_tm f) n x.kids (toP (emitP s2 16 0 0) s1.code.length 17 (emitP s2 16 0 0).code.length)
 rw [h1] at g1
 rw [h2] at g2 t2
 rw [h4] at g4 t4
 have b1 := g1.code
 have b2 := g2.code
 have b4 := g4.code
 have c1 := g1.lits
 have c2 := g2.lits
 have d2 := t2.code
 have d4 := t4.code
 have e1 : (emitP s1 17 0 0).code.length = s1.code.length + 1 := emit_code _ _ _ _
 have e2 : (toP (emitP s2 16 0 0) s1.code.length 17 (emitP s2 16 0 0).code.length).code.length = s2.code.length + 1 := by simp [toP, emitP]
 have e3 : (emitP s1 17 0 0).lits = s1.lits := rfl
 rw [e1] at b2 d2
 rw [e2] at b4 d4
 rw [e3] at c2
 exact ⟨⟨by omega, by omega, by omega⟩, ⟨by omega, by omega, by omega⟩, by omega⟩
theorem cells1 {w : World} {b : Nat} {v : Value} {t : TypeId} (h : w.heap[b]? = some (.cells #[v] t (0, 0))) : w.cell? ⟨b, 0, none⟩ = some v := by simp [World.cell?, h]
theorem armV_op (cx xb kb : Nat) (o : Int) : armV cx xb kb (.op o) = .func (.func 84) #[] #[.pointer (some ⟨cx, 0, none⟩), .pointer (some ⟨kb, 0, none⟩)] := rfl
theorem armV_kid (cx xb kb i : Nat) : armV cx xb kb (.kid i) = .func (.func 82) #[] #[.pointer (some ⟨cx, 0, none⟩), .pointer (some ⟨xb, 0, none⟩), .pointer (some ⟨kb, 0, none⟩)] := rfl
set_option maxRecDepth 100000 in
set_option maxHeartbeats 16000000 in
theorem branch_any {f : Nat} (hv : VSpec f) {w0 w : World} {P : Nat → Prop} {cb : Nat} {m : MK} {s : CSt} (h : CX w0 P w cb m s) {x : NodT} {q : NS} (hn : IsNd w0 (fun _ => True) x q) (hx : x.size ≤ f + 1) (hf : s.code.length + 8 * x.size ≤ 1000000) (hl : s.lits.length + x.size ≤ 100000) (h1 : 1 ≤ x.kids.length) :
  Calls Try.prog 71 #[.pointer (some ⟨cb, 0, none⟩), ndV x q] w fun e w' => e = .returned (.bool (isBr x).isSome) ∧ CT w0 P w w' cb m (brSt f x s) := by
 have HH := Lib.hid h
 have HN := Lib.hid hn
 have HV := Lib.hid hv
 have HBD : Hid (x.size ≤ f + 1 ∧ s.code.length + 8 * x.size ≤ 1000000 ∧ s.lits.length + x.size ≤ 100000 ∧ 1 ≤ x.kids.length) := Lib.hid ⟨hx, hf, hl, h1⟩
 unfold ndV
 clear h hn hv hx hf hl h1
 go_enter Try.func71, Try.ntmps71
 go_upto_block 0 with fail
 go_cut [5, 6, 9] (fun v5 v6 v9 wx => ∃ y n mm, brOf x.text = some (y, n, mm) ∧ v5 = armV w.heap.size (w.heap.size + 1) (w.heap.size + 2) y ∧ v6 = armV w.heap.size (w.heap.size + 1) (w.heap.size + 3) n ∧ v9 = .int .i64 (mm : Int) ∧ wx = ((((w.alloc (.cells #[.pointer (some ⟨cb, 0, none⟩)] 70)).alloc (.cells #[.int .i64 x.kind, .string x.text, .int .i64 x.num, .slice q.pn x.names.length q.cn, .slice q.pt x.temps.length q.ct, .slice q.pk x.kids.length q.ck] 25)).alloc (.cells #[.int .i64 (armC y)] 3)).alloc (.cells #[.int .i64 (armC n)] 3)))
 case first =>
  cases q0 : x.text.toList == [105, 102, 84, 114, 117, 101, 58] with
  | true =>
   have HBO : Hid (brOf x.text = some (.kid 1, .op 2, 2)) := Lib.hid (by unfold brOf; rw [if_pos (show x.text.toList = bIfTrue from beq_iff_eq.1 q0)])
   go_wp2_with (first | (go_at_call 81; (with_reducible refine (arg_any _ _ _ _).mono ?_); rintro e w5 ⟨rfl, hw5⟩; subst hw5) | (go_at_call 83; (with_reducible refine (oneop_any _ _ _).mono ?_); rintro e w5 ⟨rfl, hw5⟩; subst hw5))
   go_meet
   exact ⟨_, _, _, HBO.out, rfl, rfl, rfl, rfl⟩
  | false =>
   cases q1 : x.text.toList == [105, 102, 70, 97, 108, 115, 101, 58] with
   | true =>
    have HBO : Hid (brOf x.text = some (.op 2, .kid 1, 2)) := Lib.hid (by unfold brOf; rw [if_neg (show ¬ x.text.toList = bIfTrue from beq_no q0), if_pos (show x.text.toList = bIfFalse from beq_iff_eq.1 q1)])
    go_wp2_with (first | (go_at_call 81; (with_reducible refine (arg_any _ _ _ _).mono ?_); rintro e w5 ⟨rfl, hw5⟩; subst hw5) | (go_at_call 83; (with_reducible refine (oneop_any _ _ _).mono ?_); rintro e w5 ⟨rfl, hw5⟩; subst hw5))
    go_meet
    exact ⟨_, _, _, HBO.out, rfl, rfl, rfl, rfl⟩
   | false =>
    cases q2 : x.text.toList == [97, 110, 100, 58] with
    | true =>
     have HBO : Hid (brOf x.text = some (.kid 1, .op 4, 2)) := Lib.hid (by unfold brOf; rw [if_neg (show ¬ x.text.toList = bIfTrue from beq_no q0), if_neg (show ¬ x.text.toList = bIfFalse from beq_no q1), if_pos (show x.text.toList = bAnd from beq_iff_eq.1 q2)])
     go_wp2_with (first | (go_at_call 81; (with_reducible refine (arg_any _ _ _ _).mono ?_); rintro e w5 ⟨rfl, hw5⟩; subst hw5) | (go_at_call 83; (with_reducible refine (oneop_any _ _ _).mono ?_); rintro e w5 ⟨rfl, hw5⟩; subst hw5))
     go_meet
     exact ⟨_, _, _, HBO.out, rfl, rfl, rfl, rfl⟩
    | false =>
     cases q3 : x.text.toList == [111, 114, 58] with
     | true =>
      have HBO : Hid (brOf x.text = some (.op 3, .kid 1, 2)) := Lib.hid (by unfold brOf; rw [if_neg (show ¬ x.text.toList = bIfTrue from beq_no q0), if_neg (show ¬ x.text.toList = bIfFalse from beq_no q1), if_neg (show ¬ x.text.toList = bAnd from beq_no q2), if_pos (show x.text.toList = bOr from beq_iff_eq.1 q3)])
      go_wp2_with (first | (go_at_call 81; (with_reducible refine (arg_any _ _ _ _).mono ?_); rintro e w5 ⟨rfl, hw5⟩; subst hw5) | (go_at_call 83; (with_reducible refine (oneop_any _ _ _).mono ?_); rintro e w5 ⟨rfl, hw5⟩; subst hw5))
      go_meet
      exact ⟨_, _, _, HBO.out, rfl, rfl, rfl, rfl⟩
     | false =>
      cases q4 : x.text.toList == [105, 102, 84, 114, 117, 101, 58, 105, 102, 70, 97, 108, 115, 101, 58] with
      | true =>
       have HBO : Hid (brOf x.text = some (.kid 1, .kid 2, 3)) := Lib.hid (by unfold brOf; rw [if_neg (show ¬ x.text.toList = bIfTrue from beq_no q0), if_neg (show ¬ x.text.toList = bIfFalse from beq_no q1), if_neg (show ¬ x.text.toList = bAnd from beq_no q2), if_neg (show ¬ x.text.toList = bOr from beq_no q3), if_pos (show x.text.toList = bIfTrue ++ bIfFalse from beq_iff_eq.1 q4)])
       go_wp2_with (first | (go_at_call 81; (with_reducible refine (arg_any _ _ _ _).mono ?_); rintro e w5 ⟨rfl, hw5⟩; subst hw5) | (go_at_call 83; (with_reducible refine (oneop_any _ _ _).mono ?_); rintro e w5 ⟨rfl, hw5⟩; subst hw5))
       go_meet
       exact ⟨_, _, _, HBO.out, rfl, rfl, rfl, rfl⟩
      | false =>
       cases q5 : x.text.toList == [105, 102, 70, 97, 108, 115, 101, 58, 105, 102, 84, 114, 117, 101, 58] with
       | true =>
        have HBO : Hid (brOf x.text = some (.kid 2, .kid 1, 3)) := Lib.hid (by unfold brOf; rw [if_neg (show ¬ x.text.toList = bIfTrue from beq_no q0), if_neg (show ¬ x.text.toList = bIfFalse from beq_no q1), if_neg (show ¬ x.text.toList = bAnd from beq_no q2), if_neg (show ¬ x.text.toList = bOr from beq_no q3), if_neg (show ¬ x.text.toList = bIfTrue ++ bIfFalse from beq_no q4), if_pos (show x.text.toList = bIfFalse ++ bIfTrue from beq_iff_eq.1 q5)])
        go_wp2_with (first | (go_at_call 81; (with_reducible refine (arg_any _ _ _ _).mono ?_); rintro e w5 ⟨rfl, hw5⟩; subst hw5) | (go_at_call 83; (with_reducible refine (oneop_any _ _ _).mono ?_); rintro e w5 ⟨rfl, hw5⟩; subst hw5))
        go_meet
        exact ⟨_, _, _, HBO.out, rfl, rfl, rfl, rfl⟩
       | false =>
        have HBR : Hid (isBr x = none) := Lib.hid (by unfold isBr; rw [show brOf x.text = none from by unfold brOf; rw [if_neg (show ¬ x.text.toList = bIfTrue from beq_no q0), if_neg (show ¬ x.text.toList = bIfFalse from beq_no q1), if_neg (show ¬ x.text.toList = bAnd from beq_no q2), if_neg (show ¬ x.text.toList = bOr from beq_no q3), if_neg (show ¬ x.text.toList = bIfTrue ++ bIfFalse from beq_no q4), if_neg (show ¬ x.text.toList = bIfFalse ++ bIfTrue from beq_no q5)]])
        go_wp2_with fail
        go_ret
        rw [show brSt f x s = s from by unfold brSt; rw [HBR.out], HBR.out]
        exact ⟨rfl, HH.out.ct.below bel⟩
 case rest =>
  obtain ⟨y, n, mm, hbo, rfl, rfl, rfl, hwx⟩ := hcut
  have HBO := Lib.hid hbo
  have hbe : Below w.heap.size w wc := by rw [hwx]; (repeat' first | (with_reducible first | exact bl0 _ _ | assumption | apply bl1 | apply bl2 | apply bl3 | apply bl4) | go_size)
  have h4 := four_blocks w #[.pointer (some ⟨cb, 0, none⟩)] (#[.int .i64 x.kind, .string x.text, .int .i64 x.num, .slice q.pn x.names.length q.cn, .slice q.pt x.temps.length q.ct, .slice q.pk x.kids.length q.ck]) #[.int .i64 (armC y)] #[.int .i64 (armC n)] 70 25 3 3
  rw [← hwx] at h4
  have hsz : wc.heap.size = w.heap.size + 4 := by rw [hwx]; simp only [World.size_alloc]
  have hk := HH.out.keep hbe
  obtain ⟨Pk, hPk⟩ : ∃ Pk : Nat → Prop, (fun k => P k ∨ (w.heap.size ≤ k ∧ k < wc.heap.size)) = Pk := ⟨_, rfl⟩
  rw [hPk] at hk
  have hPn : ∀ j, j < 4 → Pk (w.heap.size + j) := fun j hj => by rw [← hPk]; exact .inr ⟨by omega, by omega⟩
  have HSUB : Hid (∀ k, P k → Pk k) := Lib.hid (fun k z => by rw [← hPk]; exact .inl z)
  have HX := Lib.hid hk.ct
  have HTS : Hid (Turns (outP P) w wc) := Lib.hid (Turns.of_below hbe)
  have HAY : Hid (ArmS wc Pk cb w.heap.size (w.heap.size + 1) (w.heap.size + 2) x q (armC y)) := Lib.hid ⟨h4.1, h4.2.1, h4.2.2.1, hPn 0 (by omega), hPn 1 (by omega), hPn 2 (by omega)⟩
  have HAN : Hid (ArmS wc Pk cb w.heap.size (w.heap.size + 1) (w.heap.size + 3) x q (armC n)) := Lib.hid ⟨h4.1, h4.2.1, h4.2.2.2, hPn 0 (by omega), hPn 1 (by omega), hPn 3 (by omega)⟩
  have x0 := HAY.out.bc
  have e0 : wc.cell? ⟨w.heap.size, 0, none⟩ = some (.pointer (some ⟨cb, 0, none⟩)) := (by simp [World.cell?, x0])
  clear x0
  have x2 := cells_six HAY.out.bx
  have e2 : wc.cell? ⟨w.heap.size + 1, 5, none⟩ = some (.slice q.pk x.kids.length q.ck) := x2.c5
  clear x2
  obtain ⟨nk, hnk⟩ : ∃ nk, x.kids.length = nk := ⟨_, rfl⟩
  have HNK := Lib.hid hnk
  have hckl := HN.out.ok.klen
  have hle : nk ≤ 9223372036854775807 := by have h9 := hckl.2; unfold maxLen at h9; omega
  have h1n : 1 ≤ nk := by have h9 := HBD.out.2.2.2; omega
  obtain ⟨ps1, cs1, hsl, hrs⟩ := slice_one (c := q.ck) HN.out.rows hnk h1n (by have h9 := hckl.1; omega)
  have hco : ∀ W, Below wc.heap.size wc W → Calls Try.prog 85 #[.slice ps1 (nk - 1) cs1, .func (.func 86) #[] #[]] W fun e w' => e = .returned (.bool (!((x.kids.drop 1).all plainN))) ∧ Below W.heap.size W w' := fun W hW => contains_nodes hrs (HX.out.1.stat.trans (hW.mono HX.out.1.stat.size)) (by rw [List.length_drop, hnk]) (by omega)
  obtain ⟨al, hal⟩ : ∃ al, (x.kids.drop 1).all plainN = al := ⟨_, rfl⟩
  rw [hal] at hco
  have HCO := Lib.hid hco
  have HAL := Lib.hid hal
  rw [hnk] at e2 ⊢
  clear hbo hwx hbe h4 hk hPk hPn hnk hckl hrs hco hal hsz
  by_cases hm : nk = mm
  ·have z1 : (nk == mm) = true := by simpa using hm
   clear z1
   subst hm
   cases al with
   | false =>
    have HBR : Hid (isBr x = none) := Lib.hid (by unfold isBr; rw [HBO.out]; simp only [HAL.out]; rw [if_neg (fun z => by cases z.2)])
    go_wp2_with (first | (go_at_call 85; (with_reducible refine (HCO.out _ bel).mono ?_); rintro e w3 ⟨rfl, hb3⟩; have HX3 := Lib.hid ((HX.out.below (show Below wc.heap.size wc _ from bel)).below hb3); have HB3 := Lib.hid ((show Below wc.heap.size wc _ from bel).trans (hb3.mono (by go_size))); clear hb3))
    go_ret
    rw [show brSt f x s = s from by unfold brSt; rw [HBR.out], HBR.out]
    exact ⟨rfl, CT.deep HTS.out HX3.out HSUB.out HH.out.low⟩
   | true =>
    have HBR : Hid (isBr x = some (y, n)) := Lib.hid (by unfold isBr; rw [HBO.out]; show (if x.kids.length = nk ∧ (x.kids.drop 1).all plainN = true then some (y, n) else none) = _; rw [if_pos ⟨HNK.out, HAL.out⟩])
    obtain ⟨kd, rr, hkr⟩ : ∃ k r, x.kids = k :: r := by
     cases hk9 : x.kids with
     | nil => rw [hk9] at HNK; have h9 := HNK.out; simp at h9; omega
     | cons k r => exact ⟨k, r, rfl⟩
    obtain ⟨b, off, q', hpk, hbl, _, hc6, hkn⟩ := HN.out.kid (i := 0) (by have h9 := HBD.out.2.2.2; omega)
    rw [show x.kids[0]'(by have h9 := HBD.out.2.2.2; omega) = kd from by simp [hkr], Nat.zero_mul, Nat.add_zero] at hc6
    rw [show x.kids[0]'(by have h9 := HBD.out.2.2.2; omega) = kd from by simp [hkr]] at hkn
    have hgz : kd.size < x.size := NodT.size_kid (by rw [hkr]; exact List.mem_cons_self)
    have HPK := Lib.hid hpk
    have HC6 := Lib.hid hc6
    have HBL := Lib.hid hbl
    obtain ⟨s1, h1⟩ : ∃ s1, valP f kd s = s1 := ⟨_, rfl⟩
    obtain ⟨s2, h2⟩ : ∃ s2, armP (valP f) y x.kids (emitP s1 17 0 0) = s2 := ⟨_, rfl⟩
    obtain ⟨s4, h4⟩ : ∃ s4, armP (valP f) n x.kids (toP (emitP s2 16 0 0) s1.code.length 17 (emitP s2 16 0 0).code.length) = s4 := ⟨_, rfl⟩
    have hnum := br_num HBR.out hkr HBD.out.1 HBD.out.2.1 HBD.out.2.2.1 h1 h2 h4
    have hbq : brSt f x s = toP s4 s2.code.length 16 s4.code.length := by unfold brSt; rw [HBR.out]; exact branch_eq _ _ _ hkr s h1 h2 h4
    have hva : ∀ {ws w1 W : World}, CT w0 Pk ws w1 cb m s → Below w1.heap.size w1 W → Calls Try.prog 44 #[.pointer (some ⟨cb, 0, none⟩), ndV kd q'] W fun e w' => e = .returned (.tuple #[]) ∧ CT w0 Pk ws w' cb m s1 := fun hc hb => by
     rw [← h1]
     exact HV.out.at_ (by have h9 := HBD.out.1; omega) hc hb hkn (by have h9 := HBD.out.2.1; omega) (by have h9 := HBD.out.2.2.1; omega)
    unfold ndV at hva
    have HVA : Hid (∀ {ws w1 W : World}, CT w0 Pk ws w1 cb m s → Below w1.heap.size w1 W → _) := Lib.hid hva
    have HNU := Lib.hid hnum
    have HBQ := Lib.hid hbq
    have HS2 := Lib.hid h2
    have HS4 := Lib.hid h4
    have HAK := Lib.hid (arm_kid HBR.out)
    have HF1 : Hid (s1.code.length ≤ 1000000) := Lib.hid (by have h9 := hnum.1.1; omega)
    have HF2 : Hid (s2.code.length ≤ 1000000) := Lib.hid (by have h9 := hnum.2.1.1; omega)
    have hbw : b < wc.heap.size := Nat.lt_of_lt_of_le hbl HX.out.1.stat.size
    have hd6 := HC6.out.same (HX.out.1.stat.block b hbl)
    have d0 := hd6.c0
    have d1 := hd6.c1
    have d2 := hd6.c2
    have d3 := hd6.c3
    have d4 := hd6.c4
    have d5 := hd6.c5
    clear hd6
    rw [hpk] at e2 hsl ⊢
    have g1 : (0 : Int) < (nk : Int) := by omega
    have g2 : 0 < nk := by omega
    clear hva hnum hbq h1 h2 h4 hgz hkr hpk hc6 hbl hkn
    go_upto_region 21 with (first | (go_at_call 85; (with_reducible refine (HCO.out _ bel).mono ?_); rintro e w3 ⟨rfl, hb3⟩; have HX3 := Lib.hid ((HX.out.below (show Below wc.heap.size wc _ from bel)).below hb3); have HB3 := Lib.hid ((show Below wc.heap.size wc _ from bel).trans (hb3.mono (by go_size))); clear hb3))
    have e0' : w3.cell? ⟨w.heap.size, 0, none⟩ = some (.pointer (some ⟨cb, 0, none⟩)) := cells1 (HAY.out.turns (Turns.of_below HB3.out)).bc
    have e2' : w3.cell? ⟨w.heap.size + 1, 5, none⟩ = some (.slice (some ⟨b, off, none⟩) nk q.ck) := by
     have h9 := (cells_six (HAY.out.turns (Turns.of_below HB3.out)).bx).c5
     rw [HNK.out, HPK.out] at h9
     exact h9
    have hbw3 : b < w3.heap.size := Nat.lt_of_lt_of_le hbw HB3.out.size
    clear e0 e2 d0 d1 d2 d3 d4 d5
    have hd6 := HC6.out.same (HX3.out.1.stat.block b HBL.out)
    have d0 := hd6.c0
    have d1 := hd6.c1
    have d2 := hd6.c2
    have d3 := hd6.c3
    have d4 := hd6.c4
    have d5 := hd6.c5
    clear hd6
    go_region_held3 (fun w' => w'.cell? ⟨w.heap.size, 0, none⟩ = some (.pointer (some ⟨cb, 0, none⟩)) ∧ w'.cell? ⟨w.heap.size + 1, 5, none⟩ = some (.slice (some ⟨b, off, none⟩) nk q.ck) ∧ w'.cell? ⟨b, off, none⟩ = some (.int .i64 kd.kind) ∧ w'.cell? ⟨b, off + 1, none⟩ = some (.string kd.text) ∧ w'.cell? ⟨b, off + 2, none⟩ = some (.int .i64 kd.num) ∧ w'.cell? ⟨b, off + 3, none⟩ = some (.slice q'.pn kd.names.length q'.cn) ∧ w'.cell? ⟨b, off + 4, none⟩ = some (.slice q'.pt kd.temps.length q'.ct) ∧ w'.cell? ⟨b, off + 5, none⟩ = some (.slice q'.pk kd.kids.length q'.ck)) (first | assumption | (simp [go_sem]; done) | (simp [go_sem, *]; done)) (first | (go_at_call 44; (with_reducible refine (HVA.out HX3.out bel).mono ?_); rintro e w5 ⟨rfl, hx3⟩; have HX5 := Lib.hid hx3; have hs5 := HAY.out.turns hx3.2; have x0 := hs5.bc; have e0 : w5.cell? ⟨w.heap.size, 0, none⟩ = some (.pointer (some ⟨cb, 0, none⟩)) := (by simp [World.cell?, x0]); clear x0; have x2 := cells_six hs5.bx; have e2 : w5.cell? ⟨w.heap.size + 1, 5, none⟩ = some (.slice q.pk x.kids.length q.ck) := x2.c5; clear x2; rw [HNK.out, HPK.out] at e2; have hd6 := HC6.out.same (hx3.1.stat.block b HBL.out); have d0 := hd6.c0; have d1 := hd6.c1; have d2 := hd6.c2; have d3 := hd6.c3; have d4 := hd6.c4; have d5 := hd6.c5; clear hd6; clear hx3 hs5))
    go_upto_region 23 with (first | (go_at_call 61; (with_reducible refine (leads_at HX5.out bel 17 HF1.out).mono ?_); rintro e w6 ⟨P1, k1, rfl, hcl, hp1, hq1, hx6, ht6⟩; have HCL := Lib.hid hcl; have HP1 := Lib.hid hp1; have HQ1 := Lib.hid hq1; have HX6 := Lib.hid hx6; have HT6 := Lib.hid ht6; unfold cloV; clear hcl hp1 hq1 hx6 ht6))
    have HAY6 := Lib.hid ((HAY.out.turns HT6.out).more HP1.out)
    have HAN6 := Lib.hid ((HAN.out.turns HT6.out).more HP1.out)
    clear e0' e2' d0 d1 d2 d3 d4 d5 hbw3
    go_cut [5] (fun v5 wx => CT w0 P1 w6 wx cb m s2)
    case first =>
     have HXA := Lib.hid HX6.out.ct
     have HAA := HAY6
     have HSZ : Hid ((emitP s1 17 0 0).code.length + 8 * armSz y x.kids ≤ 1000000 ∧ (emitP s1 17 0 0).lits.length + armSz y x.kids ≤ 100000) := Lib.hid (by have h9 := HNU.out.1; rw [emit_code, emit_lits]; exact ⟨h9.1, h9.2.1⟩)
     have HAKY : Hid (∀ i, y = .kid i → ∃ hi : i < x.kids.length, armSz y x.kids = (x.kids[i]).size) := Lib.hid HAK.out.1
     cases y with
     | op o =>
      rw [armV_op]
      have HFA : Hid ((emitP s1 17 0 0).code.length ≤ 1000000) := Lib.hid (by have h3 := HSZ.out.1; omega)
      have AE0 := Lib.hid ((cells1 HAA.out.bc))
      have AE1 := Lib.hid ((cells1 HAA.out.bk))
      go_wp2_with (first | (go_at_call 84; (with_reducible refine (armop_any (s := emitP s1 17 0 0) HXA.out.1 AE0.out AE1.out HFA.out).mono ?_); rintro e w7 ⟨rfl, hx7⟩; have HXB := Lib.hid hx7; clear hx7))
      go_meet
      rw [← HS2.out]
      exact HXA.out.go HXB.out
     | kid i =>
      rw [armV_kid]
      obtain ⟨hi, heq⟩ := HAKY.out i rfl
      have HEQ := Lib.hid heq
      clear heq
      go_wp2_with (first | (go_at_call 82; (with_reducible refine (armkid_any HV.out (s := emitP s1 17 0 0) HXA.out.1 HN.out HAA.out hi (by have h3 := sizes_drop x.kids i hi; have h4 := HBD.out.1; have h5 := x.size_kids; omega) (by have h3 := HSZ.out.1; have h4 := HEQ.out; omega) (by have h3 := HSZ.out.2; have h4 := HEQ.out; omega)).mono ?_); rintro e w7 ⟨rfl, hx7⟩; have HXB := Lib.hid hx7; clear hx7))
      go_meet
      rw [← HS2.out, show armP (valP f) (.kid i) x.kids (emitP s1 17 0 0) = bodyP (valP f) x.kids[i] (emitP s1 17 0 0) from by unfold armP; simp only [List.getElem?_eq_getElem hi]]
      exact HXA.out.go HXB.out
    case rest =>
     have HX7 := Lib.hid hcut
     have e0 := cells1 (HAY6.out.turns hcut.2).bc
     clear hcut
     have HF3 : Hid ((emitP s2 16 0 0).code.length ≤ 1000000) := Lib.hid (by have h9 := HNU.out.2.1.1; rw [emit_code]; omega)
     have HA1 : Hid (s1.code.length < (emitP s2 16 0 0).code.length) := Lib.hid (by have h9 := HNU.out.1.2.2; rw [emit_code]; omega)
     have HA2 : Hid (s2.code.length < s4.code.length) := Lib.hid HNU.out.2.1.2.2
     have HF4 : Hid (s4.code.length ≤ 1000000) := Lib.hid HNU.out.2.2
     go_upto_region 26 with (first | (go_at_call 61; (with_reducible refine (leads_at HX7.out bel 16 HF2.out).mono ?_); rintro e w8 ⟨P2, k2, rfl, hcl, hp2, hq2, hx8, ht8⟩; have HCL2 := Lib.hid hcl; have HP2 := Lib.hid hp2; have HQ2 := Lib.hid hq2; have HX8 := Lib.hid hx8; have HT8 := Lib.hid ht8; have HCL1 := Lib.hid (HCL.out.turns ht8 (fun k hk z => z (HQ1.out k hk))); unfold cloV; clear hcl hp2 hq2 hx8 ht8) | (go_at_call 76; (with_reducible refine (lead1_at HX8.out.ct bel HCL1.out (fun k hk => HP2.out k (HQ1.out k hk)) HA1.out HF3.out).mono ?_); rintro e w9 ⟨rfl, hx9⟩; have HX9 := Lib.hid hx9; clear hx9))
     have HAA := Lib.hid (((HAN6.out.turns HT8.out).more HP2.out).turns HX9.out.2)
     go_cut [6] (fun v6 wx => CT w0 P2 w8 wx cb m s4)
     case first =>
      have HXA := HX9
      have HSZ : Hid ((toP (emitP s2 16 0 0) s1.code.length 17 (emitP s2 16 0 0).code.length).code.length + 8 * armSz n x.kids ≤ 1000000 ∧ (toP (emitP s2 16 0 0) s1.code.length 17 (emitP s2 16 0 0).code.length).lits.length + armSz n x.kids ≤ 100000) := Lib.hid (by
       have h9 := HNU.out.2.1
       have e9 : (toP (emitP s2 16 0 0) s1.code.length 17 (emitP s2 16 0 0).code.length).code.length = s2.code.length + 1 := by simp [toP, emitP]
       rw [e9]
       exact ⟨h9.1, h9.2.1⟩)
      have HAKN : Hid (∀ i, n = .kid i → ∃ hi : i < x.kids.length, armSz n x.kids = (x.kids[i]).size) := Lib.hid HAK.out.2
      cases n with
      | op o =>
       rw [armV_op]
       have HFA : Hid ((toP (emitP s2 16 0 0) s1.code.length 17 (emitP s2 16 0 0).code.length).code.length ≤ 1000000) := Lib.hid (by have h3 := HSZ.out.1; omega)
       have AE0 := Lib.hid ((cells1 HAA.out.bc))
       have AE1 := Lib.hid ((cells1 HAA.out.bk))
       go_wp2_with (first | (go_at_call 84; (with_reducible refine (armop_any (s := toP (emitP s2 16 0 0) s1.code.length 17 (emitP s2 16 0 0).code.length) HXA.out.1 AE0.out AE1.out HFA.out).mono ?_); rintro e w7 ⟨rfl, hx7⟩; have HXB := Lib.hid hx7; clear hx7))
       go_meet
       rw [← HS4.out]
       exact HXA.out.go HXB.out
      | kid i =>
       rw [armV_kid]
       obtain ⟨hi, heq⟩ := HAKN.out i rfl
       have HEQ := Lib.hid heq
       clear heq
       go_wp2_with (first | (go_at_call 82; (with_reducible refine (armkid_any HV.out (s := toP (emitP s2 16 0 0) s1.code.length 17 (emitP s2 16 0 0).code.length) HXA.out.1 HN.out HAA.out hi (by have h3 := sizes_drop x.kids i hi; have h4 := HBD.out.1; have h5 := x.size_kids; omega) (by have h3 := HSZ.out.1; have h4 := HEQ.out; omega) (by have h3 := HSZ.out.2; have h4 := HEQ.out; omega)).mono ?_); rintro e w7 ⟨rfl, hx7⟩; have HXB := Lib.hid hx7; clear hx7))
       go_meet
       rw [← HS4.out, show armP (valP f) (.kid i) x.kids (toP (emitP s2 16 0 0) s1.code.length 17 (emitP s2 16 0 0).code.length) = bodyP (valP f) x.kids[i] (toP (emitP s2 16 0 0) s1.code.length 17 (emitP s2 16 0 0).code.length) from by unfold armP; simp only [List.getElem?_eq_getElem hi]]
       exact HXA.out.go HXB.out
     case rest =>
      have HX10 := Lib.hid hcut
      have HCL3 := Lib.hid (HCL2.out.turns hcut.2 (fun k hk z => z (HQ2.out k hk)))
      clear hcut
      go_wp2_with (first | (go_at_call 76; (with_reducible refine (lead1_at HX10.out bel HCL3.out HQ2.out HA2.out HF4.out).mono ?_); rintro e w11 ⟨rfl, hx9⟩; have HX11 := Lib.hid hx9; clear hx9))
      go_ret
      rw [HBR.out, HBQ.out]
      exact ⟨rfl, CT.deep ((HTS.out.trans (HT6.out.mono (fun k _ z q => z (HSUB.out k q)))).trans (HT8.out.mono (fun k _ z q => z (HP1.out k (HSUB.out k q))))) HX11.out (fun k q => HP2.out k (HP1.out k (HSUB.out k q))) HH.out.low⟩
  ·have z1 : (nk == mm) = false := by simpa using hm
   have z2 : ((nk : Int) == (mm : Int)) = false := by simp; omega
   have z3 : ¬ ((nk : Int) = (mm : Int)) := by omega
   have HBR : Hid (isBr x = none) := Lib.hid (by unfold isBr; rw [HBO.out]; simp only [HNK.out]; rw [if_neg (fun z => hm z.1)])
   clear hm
   go_wp2_with fail
   go_ret
   rw [show brSt f x s = s from by unfold brSt; rw [HBR.out], HBR.out]
   exact ⟨rfl, CT.deep HTS.out (HX.out.below bel) HSUB.out HH.out.low⟩
end Go.Proofs.Ytnojndgmgkgnpaa
