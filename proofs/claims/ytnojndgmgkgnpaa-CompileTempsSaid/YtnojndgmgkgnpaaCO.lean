/- Chapter 10: what a condition does in line. -/
import Derived.Test.YtnojndgmgkgnpaaCN
namespace Go.Proofs.Ytnojndgmgkgnpaa
open Go.ChangeShapes Go.WideShapes Go.ChangeAt Go.RowKit Go.Deep Go.Joins Go.Maps
set_option linter.unusedVariables false
set_option linter.unusedSimpArgs false
def armC : Arm → Int | .op o => o | .kid i => (i : Int)
/-- an arm's closure: the method's box, the node's, what it is for -/
def armV (cx xb kb : Nat) : Arm → Value
 | .op _ => .func (.func 84) #[] #[.pointer (some ⟨cx, 0, none⟩), .pointer (some ⟨kb, 0, none⟩)]
 | .kid _ => .func (.func 82) #[] #[.pointer (some ⟨cx, 0, none⟩), .pointer (some ⟨xb, 0, none⟩), .pointer (some ⟨kb, 0, none⟩)]
set_option maxRecDepth 100000 in
set_option maxHeartbeats 16000000 in
theorem arg_any (cx xb : Nat) (i : Int) (w : World) : Calls Try.prog 81 #[.int .i64 i, .pointer (some ⟨cx, 0, none⟩), .pointer (some ⟨xb, 0, none⟩)] w fun e w' => e = .returned (.func (.func 82) #[] #[.pointer (some ⟨cx, 0, none⟩), .pointer (some ⟨xb, 0, none⟩), .pointer (some ⟨w.heap.size, 0, none⟩)]) ∧ w' = w.alloc (.cells #[.int .i64 i] 3) := by
 go_enter Try.func81, Try.ntmps81
 go_wp2_with fail
 go_ret
 exact ⟨rfl, rfl⟩
set_option maxRecDepth 100000 in
set_option maxHeartbeats 16000000 in
theorem oneop_any (cx : Nat) (o : Int) (w : World) : Calls Try.prog 83 #[.int .i64 o, .pointer (some ⟨cx, 0, none⟩)] w fun e w' => e = .returned (.func (.func 84) #[] #[.pointer (some ⟨cx, 0, none⟩), .pointer (some ⟨w.heap.size, 0, none⟩)]) ∧ w' = w.alloc (.cells #[.int .i64 o] 3) := by
 go_enter Try.func83, Try.ntmps83
 go_wp2_with fail
 go_ret
 exact ⟨rfl, rfl⟩
set_option maxRecDepth 100000 in
set_option maxHeartbeats 16000000 in
theorem armop_any {w0 w : World} {P : Nat → Prop} {cb : Nat} {m : MK} {s : CSt} (h : CX w0 P w cb m s) {cx kb : Nat} {o : Int} (h0 : w.cell? ⟨cx, 0, none⟩ = some (.pointer (some ⟨cb, 0, none⟩))) (h1 : w.cell? ⟨kb, 0, none⟩ = some (.int .i64 o)) (hf : s.code.length ≤ 1000000) : Calls Try.prog 84 #[.pointer (some ⟨cx, 0, none⟩), .pointer (some ⟨kb, 0, none⟩)] w fun e w' => e = .returned (.tuple #[]) ∧ CT w0 P w w' cb m (emitP s o 0 0) := by
 have HH := Lib.hid h
 have HF := Lib.hid hf
 clear h hf
 go_enter Try.func84, Try.ntmps84
 go_wp2_with (first | (go_at_call 45; (with_reducible refine (emit_any HH.out o 0 0 HF.out).mono ?_); rintro e w7 ⟨rfl, hx3⟩; have HY := Lib.hid hx3; clear hx3))
 go_returns
 exact ⟨rfl, HY.out⟩
/-- what an arm's closure holds, all in blocks that are kept -/
structure ArmS (w : World) (P : Nat → Prop) (cb cx xb kb : Nat) (x : NodT) (q : NS) (v : Int) : Prop where
 bc : w.heap[cx]? = some (.cells #[.pointer (some ⟨cb, 0, none⟩)] 70 (0, 0))
 bx : w.heap[xb]? = some (.cells #[.int .i64 x.kind, .string x.text, .int .i64 x.num, .slice q.pn x.names.length q.cn, .slice q.pt x.temps.length q.ct, .slice q.pk x.kids.length q.ck] 25 (0, 0))
 bk : w.heap[kb]? = some (.cells #[.int .i64 v] 3 (0, 0))
 pc : P cx
 px : P xb
 pk : P kb
theorem ArmS.turns {w w' : World} {P : Nat → Prop} {cb cx xb kb : Nat} {x : NodT} {q : NS} {v : Int} (h : ArmS w P cb cx xb kb x q v) (ht : Turns (outP P) w w') : ArmS w' P cb cx xb kb x q v :=
 ⟨(ht.block _ (lt_of_block h.bc) (fun z => z h.pc)).trans h.bc, (ht.block _ (lt_of_block h.bx) (fun z => z h.px)).trans h.bx, (ht.block _ (lt_of_block h.bk) (fun z => z h.pk)).trans h.bk, h.pc, h.px, h.pk⟩
theorem ArmS.more {w : World} {P P' : Nat → Prop} {cb cx xb kb : Nat} {x : NodT} {q : NS} {v : Int} (h : ArmS w P cb cx xb kb x q v) (hP : ∀ k, P k → P' k) : ArmS w P' cb cx xb kb x q v := ⟨h.bc, h.bx, h.bk, hP _ h.pc, hP _ h.px, hP _ h.pk⟩
set_option maxRecDepth 100000 in
set_option maxHeartbeats 16000000 in
theorem armkid_any {f : Nat} (hv : VSpec f) {w0 w : World} {P : Nat → Prop} {cb : Nat} {m : MK} {s : CSt} (h : CX w0 P w cb m s) {cx xb kb i : Nat} {x : NodT} {q : NS} (hn : IsNd w0 (fun _ => True) x q) (ha : ArmS w P cb cx xb kb x q (i : Int)) (hi : i < x.kids.length) (hx : (x.kids[i]).size ≤ f + 1) (hf : s.code.length + 8 * (x.kids[i]).size ≤ 1000000) (hl : s.lits.length + (x.kids[i]).size ≤ 100000) :
  Calls Try.prog 82 #[.pointer (some ⟨cx, 0, none⟩), .pointer (some ⟨xb, 0, none⟩), .pointer (some ⟨kb, 0, none⟩)] w fun e w' => e = .returned (.tuple #[]) ∧ CT w0 P w w' cb m (bodyP (valP f) (x.kids[i]) s) := by
 obtain ⟨b, off, q', hpk, hbl, _, hc6, hkn⟩ := hn.kid hi
 have hst := h.stat
 have hbw : b < w.heap.size := Nat.lt_of_lt_of_le hbl hst.size
 obtain ⟨kd, hkx⟩ : ∃ kd, x.kids[i] = kd := ⟨_, rfl⟩
 rw [hkx] at hc6 hkn hx hf hl ⊢
 have hbo : ∀ W, Below w.heap.size w W → Calls Try.prog 62 #[.pointer (some ⟨cb, 0, none⟩), ndV kd q'] W fun e w' => e = .returned (.tuple #[]) ∧ CT w0 P w w' cb m (bodyP (valP f) kd s) := fun W hb => by
  have h2 := h.ct.below hb
  refine (body_any hv h2.1 hkn hx hf hl).mono ?_
  rintro e w' ⟨he, hc⟩
  exact ⟨he, h2.go hc⟩
 unfold ndV at hbo
 have HBO := Lib.hid hbo
 obtain ⟨n, hnk⟩ : ∃ n, x.kids.length = n := ⟨_, rfl⟩
 have HNK := Lib.hid hnk
 have HPK := Lib.hid hpk
 have HC6 := Lib.hid hc6
 have HBL := Lib.hid hbl
 have HAS := Lib.hid ha
 have x0 := HAS.out.bc
 have e0 : w.cell? ⟨cx, 0, none⟩ = some (.pointer (some ⟨cb, 0, none⟩)) := (by simp [World.cell?, x0])
 have x1 := HAS.out.bk
 have e1 : w.cell? ⟨kb, 0, none⟩ = some (.int .i64 (i : Int)) := (by simp [World.cell?, x1])
 have x2 := cells_six HAS.out.bx
 have e2 := x2.c5
 rw [HNK.out, HPK.out] at e2
 clear x0 x1 x2
 have hd6 := HC6.out.same (hst.block b hbl)
 have d0 := hd6.c0
 have d1 := hd6.c1
 have d2 := hd6.c2
 have d3 := hd6.c3
 have d4 := hd6.c4
 have d5 := hd6.c5
 clear hd6
 rw [hnk] at hi
 have g0 : (0 : Int) ≤ (i : Int) := by omega
 have g1 : (i : Int) < (n : Int) := by omega
 clear hbo hn h ha hx hf hl hc6 hst hv hkn hkx hpk hnk
 go_enter Try.func82, Try.ntmps82
 go_region_held3 (fun w' => w'.cell? ⟨cx, 0, none⟩ = some (.pointer (some ⟨cb, 0, none⟩)) ∧ w'.cell? ⟨kb, 0, none⟩ = some (.int .i64 (i : Int)) ∧ w'.cell? ⟨xb, 5, none⟩ = some (.slice (some ⟨b, off, none⟩) n q.ck) ∧ w'.cell? ⟨b, off + i * 6, none⟩ = some (.int .i64 kd.kind) ∧ w'.cell? ⟨b, off + i * 6 + 1, none⟩ = some (.string kd.text) ∧ w'.cell? ⟨b, off + i * 6 + 2, none⟩ = some (.int .i64 kd.num) ∧ w'.cell? ⟨b, off + i * 6 + 3, none⟩ = some (.slice q'.pn kd.names.length q'.cn) ∧ w'.cell? ⟨b, off + i * 6 + 4, none⟩ = some (.slice q'.pt kd.temps.length q'.ct) ∧ w'.cell? ⟨b, off + i * 6 + 5, none⟩ = some (.slice q'.pk kd.kids.length q'.ck)) (first | assumption | (simp [go_sem]; done) | (simp [go_sem, *]; done)) (first | (go_at_call 62; (with_reducible refine (HBO.out _ bel).mono ?_); rintro e w7 ⟨rfl, hx3⟩; have HY := Lib.hid hx3; have hs7 := HAS.out.turns hx3.2; have x0 := hs7.bc; have e0 : w7.cell? ⟨cx, 0, none⟩ = some (.pointer (some ⟨cb, 0, none⟩)) := (by simp [World.cell?, x0]); have x1 := hs7.bk; have e1 : w7.cell? ⟨kb, 0, none⟩ = some (.int .i64 (i : Int)) := (by simp [World.cell?, x1]); have x2 := cells_six hs7.bx; have e2 := x2.c5; rw [HNK.out, HPK.out] at e2; clear x0 x1 x2; have hd6 := HC6.out.same (hx3.1.stat.block b HBL.out); have d0 := hd6.c0; have d1 := hd6.c1; have d2 := hd6.c2; have d3 := hd6.c3; have d4 := hd6.c4; have d5 := hd6.c5; clear hd6; clear hx3 hs7))
 all_goals
  go_returns
  exact ⟨rfl, HY.out⟩
def notP (k : NodT) : Bool := !plainN k
set_option maxRecDepth 100000 in
set_option maxHeartbeats 16000000 in
theorem pclo_any {x : NodT} {q : NS} (hok : NdOk x q) (w : World) : Calls Try.prog 86 #[ndV x q] w fun e w' => e = .returned (.bool (notP x)) ∧ Below w.heap.size w w' := by
 have hpl : ∀ W, Calls Try.prog 87 #[ndV x q] W fun e w' => e = .returned (.bool (plainN x)) ∧ Below W.heap.size W w' := fun W => plain_any hok W
 obtain ⟨v, hv⟩ : ∃ v, plainN x = v := ⟨_, rfl⟩
 have HN : Hid (notP x = !v) := Lib.hid (by unfold notP; rw [hv])
 rw [hv] at hpl
 unfold ndV at hpl ⊢
 have HPL := Lib.hid hpl
 clear hpl hok hv
 go_enter Try.func86, Try.ntmps86
 go_wp2_with (first | (go_at_call 87; (with_reducible refine (HPL.out _).mono ?_); rintro e w1 ⟨rfl, hb1⟩; have HB1 := Lib.hid hb1; clear hb1))
 go_ret
 refine ⟨by rw [HN.out]; rfl, ?_⟩
 exact ((Below.refl _ _).alloc (Nat.le_refl _) _).trans (HB1.out.mono (by go_size))
set_option maxRecDepth 100000 in
set_option maxHeartbeats 16000000 in
theorem index_nodes {w0 w : World} {p : Option Addr} {n c : Nat} {l : List NodT} (hR : Rows w0 p l) (hst : Below w0.heap.size w0 w) (hn : l.length = n) (hle : n ≤ 9223372036854775807) : Calls Try.prog 89 #[.slice p n c, .func (.func 86) #[] #[]] w fun e w' => e = .returned (.int .i64 (idxV (l.findIdx? notP))) ∧ Below w.heap.size w w' := by
 have HR := Lib.hid hR
 have HL := Lib.hid hn
 have HST := Lib.hid hst
 clear hR hn hst
 go_enter Try.func89, Try.ntmps89
 go_wp2_with fail
 go_loopw [8] (fun i wr => ∃ k : Nat, k ≤ n ∧ i = .int .i64 k ∧ (l.take k).any notP = false ∧ Below w.heap.size w wr) (fun i _ => n - (intOf i).toNat)
 case atStart => exact ⟨0, Nat.zero_le _, rfl, rfl, Below.refl _ _⟩
 case round =>
  obtain ⟨k, hk, rfl, hall, hbw⟩ := hrel
  have HALL := Lib.hid hall
  have HBW := Lib.hid hbw
  have hws := hbw.size
  clear hall
  by_cases hlt : k < n
  ·have d1 : decide (k < n) = true := decide_eq_true hlt
   have hkl : k < l.length := by rw [HL.out]; exact hlt
   obtain ⟨b, off, q', rfl, hbl, hc6, hkn⟩ := HR.out k hkl
   have hst := HST.out.trans (hbw.mono HST.out.size)
   have hbwr : b < wr.heap.size := Nat.lt_of_lt_of_le hbl hst.size
   have hd6 := hc6.same (hst.block b hbl)
   obtain ⟨kx, hkx⟩ : ∃ kx, l[k] = kx := ⟨_, rfl⟩
   have HKX := Lib.hid hkx
   rw [hkx] at hd6 hkn
   have hcl : ∀ W, Calls Try.prog 86 #[ndV kx q'] W fun e w' => e = .returned (.bool (notP kx)) ∧ Below W.heap.size W w' := fun W => pclo_any hkn.ok W
   unfold ndV at hcl
   have c0 := hd6.c0
   have c1 := hd6.c1
   have c2 := hd6.c2
   have c3 := hd6.c3
   have c4 := hd6.c4
   have c5 := hd6.c5
   have g0 : (0 : Int) ≤ (k : Int) := by omega
   have g1 : (k : Int) < (n : Int) := by omega
   clear hkx hbw hc6 hd6 hkn hst
   obtain ⟨v, hv⟩ : ∃ v, notP kx = v := ⟨_, rfl⟩
   rw [hv] at hcl
   have HV := Lib.hid hv
   have HCL := Lib.hid hcl
   clear hv hcl
   cases v
   ·go_wp2_with (first | (go_at_call 86; (with_reducible refine (HCL.out _).mono ?_); rintro e w1 ⟨rfl, hb1⟩; have HB1 := Lib.hid hb1; clear hb1))
    go_roundw
    case rel => exact ⟨k + 1, by omega, by go_num, any_take_succ hkl (by rw [HKX.out]; exact HV.out) HALL.out, HBW.out.trans (HB1.out.mono HBW.out.size)⟩
    case measure => simp [intOf]; omega
   ·go_wp2_with (first | (go_at_call 86; (with_reducible refine (HCL.out _).mono ?_); rintro e w1 ⟨rfl, hb1⟩; have HB1 := Lib.hid hb1; clear hb1))
    go_ret
    exact ⟨by rw [findIdx_some hkl HALL.out (by rw [HKX.out]; exact HV.out)]; rfl, HBW.out.trans (HB1.out.mono HBW.out.size)⟩
  ·have hkn : k = n := by omega
   have d1 : decide (k < n) = false := decide_eq_false hlt
   clear hlt
   subst hkn
   go_wp2_with fail
   go_ret
   refine ⟨?_, HBW.out⟩
   have h9 := HALL.out
   rw [← HL.out, List.take_length] at h9
   rw [findIdx_none h9]
   rfl
theorem findIdx_any (l : List NodT) : (match l.findIdx? notP with | some _ => true | none => false) = !(l.all plainN) := by
 induction l with
 | nil => rfl
 | cons a l ih =>
  rw [List.findIdx?_cons, List.all_cons]
  by_cases h : plainN a = true
  ·simp only [notP, h, Bool.not_true, Bool.false_eq_true, if_false, Bool.true_and]
   rw [← ih]
   have e : ∀ o : Option Nat, (match o.map (· + 1) with | some _ => true | none => false) = (match o with | some _ => true | none => false) := fun o => by cases o <;> rfl
   exact e _
  ·simp only [Bool.not_eq_true] at h
   simp [notP, h]
set_option maxRecDepth 100000 in
set_option maxHeartbeats 16000000 in
theorem contains_nodes {w0 w : World} {p : Option Addr} {n c : Nat} {l : List NodT} (hR : Rows w0 p l) (hst : Below w0.heap.size w0 w) (hn : l.length = n) (hle : n ≤ 9223372036854775807) : Calls Try.prog 85 #[.slice p n c, .func (.func 86) #[] #[]] w fun e w' => e = .returned (.bool (!(l.all plainN))) ∧ Below w.heap.size w w' := by
 have hix := index_nodes (c := c) hR hst hn hle
 have hfi := findIdx_any l
 rw [← hfi]
 obtain ⟨o, ho⟩ : ∃ o, l.findIdx? notP = o := ⟨_, rfl⟩
 rw [ho] at hix ⊢
 have hi2 : ∀ i, o = some i → i < 9223372036854775807 := fun i e => by
  rw [e, List.findIdx?_eq_some_iff_getElem] at ho
  obtain ⟨h1, _⟩ := ho
  omega
 clear hfi ho
 cases o with
 | none =>
  unfold idxV at hix
  have HIX := Lib.hid hix
  clear hix hi2 hR hst
  go_enter Try.func85, Try.ntmps85
  go_wp2_with (first | (go_at_call 89; (with_reducible refine (HIX.out).mono ?_); rintro e w1 ⟨rfl, hb1⟩; have HB1 := Lib.hid hb1; clear hb1))
  go_ret
  exact ⟨rfl, HB1.out⟩
 | some i =>
  unfold idxV at hix
  have hii := hi2 i rfl
  have HIX := Lib.hid hix
  have d1 : decide ((0 : Int) ≤ (i : Int)) = true := decide_eq_true (by omega)
  have d2 : decide (0 ≤ i) = true := decide_eq_true (by omega)
  clear hix hi2 hR hst
  go_enter Try.func85, Try.ntmps85
  go_wp2_with (first | (go_at_call 89; (with_reducible refine (HIX.out).mono ?_); rintro e w1 ⟨rfl, hb1⟩; have HB1 := Lib.hid hb1; clear hb1))
  go_ret
  exact ⟨ret_bool (by simp), HB1.out⟩
set_option maxRecDepth 100000 in
set_option maxHeartbeats 16000000 in
theorem slice_one {w0 : World} {p : Option Addr} {l : List NodT} {n c : Nat} (hr : Rows w0 p l) (hn : l.length = n) (h1 : 1 ≤ n) (hc : n ≤ c) : ∃ p' c', (∀ w : World, (Instr.slice 23 (.slice p n c) (some (.int .i64 1)) none none).run Try.prog w = .ok (.slice p' (n - 1) c') w) ∧ Rows w0 p' (l.drop 1) := by
 obtain ⟨b, off, q', rfl, _⟩ := hr 0 (by omega)
 refine ⟨if c = 1 then some ⟨b, off, none⟩ else some ⟨b, off + 1 * 6, none⟩, c - 1, fun w => ?_, ?_⟩
 ·rw [run_slice_l w 23 _ n c Try.underlying23 .i64 1 (by omega) (by omega)]
  have hs : (sizeOf (Try.prog.elem 23)).run Try.prog w = .ok 6 w := by kernel_rfl
  rw [hs]
  simp only [Result.andThen, sliced]
  have e1 : (1 : Int).toNat = 1 := rfl
  rw [e1]
  by_cases e : c = 1
  ·rw [if_pos e, if_pos e]
  ·rw [if_neg e, if_neg e]; rfl
 ·by_cases e : c = 1
  ·intro i hi
   rw [List.length_drop] at hi
   omega
  ·rw [if_neg e]
   exact hr.drop 1
end Go.Proofs.Ytnojndgmgkgnpaa
