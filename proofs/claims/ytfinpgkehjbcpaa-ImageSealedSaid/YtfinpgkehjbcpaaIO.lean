/- Chapter 05: things in a row; what fits. -/
import Derived.Test.YtfinpgkehjbcpaaIK
import Derived.Test.YtfinpgkehjbcpaaIG
import Derived.Maps.AppendAt
namespace Go.Proofs.Ytfinpgkehjbcpaa
open Go.ChangeShapes Go.WideShapes Go.ChangeAt Go.RowKit Go.Deep Go.Joins Go.Maps
set_option linter.unusedVariables false
set_option linter.unusedSimpArgs false
theorem infoT : (Try.prog.info? 83).map (fun i => (i.zero, i.size, i.bytes)) = some (some (.agg #[.int .i64 0, .int .i64 0, .int .i64 0, .slice none 0 0]), 4, 48) := by kernel_rfl
def tcells (p : Tng × Value) : List Value := [.int .i64 (p.1.fmt : Int), .int .i64 p.1.hash, .int .i64 (p.1.cls : Int), p.2]
theorem flat4 : ∀ (l : List (Tng × Value)) (i : Nat) (hi : i < l.length) (j : Nat), j < 4 → (l.flatMap tcells)[i * 4 + j]? = (tcells l[i])[j]?
  | [], i, hi, _, _ => absurd hi (by simp)
  | p :: l, 0, _, j, hj => by
    rw [List.flatMap_cons, List.getElem?_append_left (by simp [tcells]; omega)]
    simp
  | p :: l, i + 1, hi, j, hj => by
    rw [List.flatMap_cons, List.getElem?_append_right (by simp [tcells]; omega)]
    have := flat4 l i (by simpa using hi) j hj
    rw [show (i + 1) * 4 + j - (tcells p).length = i * 4 + j by simp [tcells]; omega, this]
    simp
theorem flat4_len : ∀ (l : List (Tng × Value)), (l.flatMap tcells).length = l.length * 4
  | [] => rfl
  | p :: l => by rw [List.flatMap_cons, List.length_append, flat4_len l, List.length_cons]; simp [tcells]; omega
theorem nums_turns0 {w w' : World} {A : Option Addr} {l : List Int} {T : Nat → Prop} (h : Nums w A l) (ht : Turns T w w') (hd : ∀ b off, A = some ⟨b, off, none⟩ → 0 < l.length → ¬ T b) : Nums w' A l := fun k hk => by
  obtain ⟨b, off, e, hl, hc⟩ := h k hk
  refine ⟨b, off, e, Nat.lt_of_lt_of_le hl ht.size, ?_⟩
  unfold World.cell? at hc ⊢
  rw [ht.block b hl (hd b off e (by omega))]
  exact hc
/-- a thing's fields lie as they should: apart from a row -/
def FldsAt (w : World) (base : Nat) (rv : Value) (p : Tng × Value) : Prop := ∃ A c, p.2 = .slice A p.1.F.length c ∧ Nums w A p.1.F ∧ p.1.F.length ≤ 1000 ∧ ∀ b off, A = some ⟨b, off, none⟩ → 0 < p.1.F.length → base ≤ b ∧ rv.ownBlock ≠ some b
/-- things of the call's own -/
def TRow (w : World) (base : Nat) (v : Value) (ts : List (Tng × Value)) : Prop := w.ownsRow base 83 4 v ts.length (ts.flatMap tcells) ∧ ∀ p, p ∈ ts → FldsAt w base v p
theorem FldsAt.turnsT {w w' : World} {base : Nat} {rv : Value} {p : Tng × Value} {T : Nat → Prop} (h : FldsAt w base rv p) (ht : Turns T w w') (hd : ∀ k, base ≤ k → ¬ T k) : FldsAt w' base rv p := by
  obtain ⟨A, c, h1, h2, h3, h4⟩ := h
  exact ⟨A, c, h1, nums_turns0 h2 ht (fun b off e z => hd b (h4 b off e z).1), h3, h4⟩
theorem FldsAt.of_ints {w : World} {base b2 : Nat} {t : Tng} {v rv : Value} (h : Ints w b2 v t.F) (hl : t.F.length ≤ 1000) (hb : base ≤ b2) (hr : ∀ k, rv.ownBlock = some k → k < b2) : FldsAt w base rv (t, v) := by
  obtain ⟨A, c, h1, h2, h3, h4, _⟩ := h.nums
  exact ⟨A, c, h1, h3, hl, fun b off e _ => ⟨Nat.le_trans hb (h4 b off e).1, fun q => by have := hr b q; have := (h4 b off e).1; omega⟩⟩
theorem TRow.nil (w : World) (base : Nat) : TRow w base (.slice none 0 0) [] := ⟨World.ownsRow_nil _ _ _ _, fun p hp => absurd hp (by simp)⟩
theorem TRow.turnsT {w w' : World} {base : Nat} {v : Value} {ts : List (Tng × Value)} {T : Nat → Prop} (h : TRow w base v ts) (ht : Turns T w w') (hd : ∀ k, base ≤ k → ¬ T k) : TRow w' base v ts := by
  refine ⟨⟨h.1.1, ?_⟩, fun p hp => (h.2 p hp).turnsT ht hd⟩
  rcases h.1.2 with h1 | ⟨g, cap, cur, hv, hg, hh, rest⟩
  · exact .inl h1
  · refine .inr ⟨g, cap, cur, hv, hg, (ht.block g ?_ (hd g hg)).trans hh, rest⟩
    rcases Nat.lt_or_ge g w.heap.size with q | q
    · exact q
    · rw [Array.getElem?_eq_none q] at hh; cases hh
theorem TRow.below {w w' : World} {base : Nat} {v : Value} {ts : List (Tng × Value)} (h : TRow w base v ts) (hb : Below w.heap.size w w') : TRow w' base v ts := by
  refine ⟨ownsRow_below h.1 hb, fun p hp => ?_⟩
  obtain ⟨A, c, h1, h2, h3, h4⟩ := h.2 p hp
  exact ⟨A, c, h1, h2.below hb, h3, h4⟩
theorem TRow.lt {w : World} {base : Nat} {v : Value} {ts : List (Tng × Value)} (h : TRow w base v ts) (k : Nat) (hk : v.ownBlock = some k) : base ≤ k ∧ k < w.heap.size := World.ownsRow.lt h.1 k hk
/-- one thing more -/
theorem wpList_tng {w : World} {ops : Array Oper} {rest : List Oper} {o : Oper} {a : Act} {Q : Exit → Act → World → Prop} (hgd : o.guard = none) (s x : Operand)
    (ho : o.op = .call { callee := .builtin .append, args := #[s, x], argTypes := #[81, 81] })
    (base : Nat) (v : Value) (ts : List (Tng × Value)) (hs : a.eval s = v) (hown : TRow w base v ts) {B : Nat} {p : Tng × Value} (hp : FldsAt w base v p)
    (hx : a.eval x = .slice (some ⟨B, 0, none⟩) 1 1) (hc0 : w.cell? ⟨B, 0, none⟩ = some (.int .i64 (p.1.fmt : Int))) (hc1 : w.cell? ⟨B, 1, none⟩ = some (.int .i64 p.1.hash)) (hc2 : w.cell? ⟨B, 2, none⟩ = some (.int .i64 (p.1.cls : Int))) (hc3 : w.cell? ⟨B, 3, none⟩ = some p.2) (hb : ts.length ≤ 1000000000) (hbase : base ≤ w.heap.size)
    (h : ∀ v' w', TRow w' base v' (ts ++ [p]) → w.grownBy w' v.ownBlock → wpList Try.prog ops Q rest (a.put o.dst v') w') : wpList Try.prog ops Q (o :: rest) a w := by
  obtain ⟨i0, hi, hz0, hz1, hz2⟩ := info_parts infoT
  have hpv : ∃ A c, p.2 = .slice A p.1.F.length c := by obtain ⟨FA, fc, hp2, _⟩ := hp; exact ⟨FA, fc, hp2⟩
  obtain ⟨FA, fc, hp2⟩ := hpv
  refine wpList_append_own_at (P := Try.prog) _ hgd s x 81 ho base 83 i0 (.agg #[.int .i64 0, .int .i64 0, .int .i64 0, .slice none 0 0]) 4 48 Try.underlying81 hi hz0 hz1 hz2 rfl (by decide) v ts.length _ hs hown.1 ⟨B, 0, none⟩ 1 1 (tcells p) hx rfl ?_ (by simp [tcells, Value.oneCell', hp2]) (by unfold maxLen; omega) (by omega) hbase ?_
  · intro j u hu
    match j with
    | 0 => cases hu; rw [add_plain]; exact hc0
    | 1 => cases hu; rw [add_plain]; exact hc1
    | 2 => cases hu; rw [add_plain]; exact hc2
    | 3 => cases hu; rw [add_plain]; exact hc3
    | j + 4 => cases hu
  · intro v' w' h2 h3 _ h4
    refine h v' w' ⟨?_, fun r hr => ?_⟩ h3
    · rw [List.length_append, List.length_singleton, List.flatMap_append]
      simpa using h2
    · have hr' : FldsAt w base v r := by
        rcases List.mem_append.1 hr with q | q
        · exact hown.2 r q
        · obtain rfl : r = p := by simpa using q
          exact hp
      obtain ⟨A, c, k1, k2, k3, k4⟩ := hr'
      have hT : Turns (fun k => v.ownBlock = some k) w w' := ⟨h3.os, h3.tape, h3.output, h3.size, fun k hk hs => h3.block k hk (fun q => hs q.symm)⟩
      refine ⟨A, c, k1, nums_turns0 k2 hT (fun b off e z q => (k4 b off e z).2 q), k3, fun b off e z => ⟨(k4 b off e z).1, ?_⟩⟩
      obtain ⟨b', off', e', hlt, _⟩ := k2 0 z
      rw [e] at e'
      cases e'
      rcases h4 with q | q
      · rw [q]; exact (k4 b off e z).2
      · rw [q]; intro q'; cases q'; omega
end Go.Proofs.Ytfinpgkehjbcpaa
/- Chapter 05: what fits. -/
namespace Go.Proofs.Ytfinpgkehjbcpaa
open Go.ChangeShapes Go.WideShapes Go.ChangeAt Go.RowKit Go.Deep Go.Joins Go.Maps
set_option linter.unusedVariables false
set_option linter.unusedSimpArgs false
set_option maxRecDepth 100000 in
set_option maxHeartbeats 16000000 in
def oddV (n : Nat) (x : Int) : Bool := decide (4 ≤ x) && decide (x % 2 = 0) && decide ((n : Int) ≤ (x - 4) / 2)
/-- a closure that tells p of numbers, and only reads -/
def TellsI (f : Nat) (caps : List Value) (p : Int → Bool) (w : World) : Prop := ∀ (d : Nat) (a : Int), InI a → Calls Try.prog f (Value.int .i64 a :: caps).toArray (w.drewN d) fun e w' => e = .returned (.bool (p a)) ∧ ∃ n, w' = (w.drewN d).drewN n
set_option maxRecDepth 100000 in
set_option maxHeartbeats 16000000 in
theorem odd_tells {w : World} {fb n c : Nat} {A : Option Addr} (hfb : w.cell? ⟨fb, 0, none⟩ = some (.slice A n c)) : TellsI 85 [.pointer (some ⟨fb, 0, none⟩)] (oddV n) w := fun d a ha => by
  have hc : (w.drewN d).cell? ⟨fb, 0, none⟩ = some (.slice A n c) := hfb
  obtain ⟨w1, hw1⟩ : ∃ w1, w.drewN d = w1 := ⟨_, rfl⟩
  rw [hw1] at hc ⊢
  show Calls Try.prog 85 #[.int .i64 a, .pointer (some ⟨fb, 0, none⟩)] w1 _
  have h1 := ha.1
  have h2 := ha.2
  have a1 := and_1 a
  clear hw1 hfb ha
  by_cases q1 : 4 ≤ a
  · have e1 : decide (4 ≤ a) = true := decide_eq_true q1
    by_cases q2 : a % 2 = 0
    · rw [q2] at a1
      obtain ⟨q, hq⟩ : ∃ q : Nat, (a - 4) / 2 = (q : Int) := ⟨((a - 4) / 2).toNat, by omega⟩
      have b3 : (a - 4).tdiv 2 = (q : Int) := by rw [Int.tdiv_eq_ediv_of_nonneg (by omega)]; exact hq
      have hv : oddV n a = decide ((n : Int) ≤ (q : Int)) := by unfold oddV; rw [e1, decide_eq_true q2, hq]; rfl
      rw [hv]
      by_cases q3 : n ≤ q
      · have e3 : decide ((n : Int) ≤ (q : Int)) = true := decide_eq_true (by omega)
        have e3' : (n : Int) ≤ (q : Int) := by omega
        rw [e3]
        clear hv q2
        go_enter Try.func85, Try.ntmps85
        go_wp2_with fail
        go_ret
        exact ⟨rfl, 0, rfl⟩
      · have e3 : decide ((n : Int) ≤ (q : Int)) = false := decide_eq_false (by omega)
        have e3' : ¬ (n : Int) ≤ (q : Int) := by omega
        rw [e3]
        clear hv q2
        go_enter Try.func85, Try.ntmps85
        go_wp2_with fail
        go_ret
        exact ⟨rfl, 0, rfl⟩
    · have hv : oddV n a = false := by unfold oddV; rw [e1, decide_eq_false q2]; rfl
      rw [hv]
      rw [show a % 2 = 1 by omega] at a1
      clear hv q2
      go_enter Try.func85, Try.ntmps85
      go_wp2_with fail
      go_ret
      exact ⟨rfl, 0, rfl⟩
  · have e1 : decide (4 ≤ a) = false := decide_eq_false q1
    have hv : oddV n a = false := by unfold oddV; rw [e1]; rfl
    rw [hv]
    clear hv a1
    go_enter Try.func85, Try.ntmps85
    go_wp2_with fail
    go_ret
    exact ⟨rfl, 0, rfl⟩
theorem odd_at {w : World} {fb n c : Nat} {A : Option Addr} (hfb : w.cell? ⟨fb, 0, none⟩ = some (.slice A n c)) (a : Int) (ha : InI a) : Calls Try.prog 85 #[.int .i64 a, .pointer (some ⟨fb, 0, none⟩)] w fun e w' => e = .returned (.bool (oddV n a)) ∧ ∃ n, w' = w.drewN n := odd_tells hfb 0 a ha
set_option maxRecDepth 100000 in
set_option maxHeartbeats 16000000 in
theorem index_odd {w : World} {fb : Nat} {p : Int → Bool} (ht : TellsI 85 [.pointer (some ⟨fb, 0, none⟩)] p w) {A : Option Addr} {l : List Int} {n c : Nat} (hl : Nums w A l) (hli : ∀ x, x ∈ l → InI x) (hn : l.length = n) (hll : n ≤ 1000000000) : Calls Try.prog 68 #[.slice A n c, .func (.func 85) #[] #[.pointer (some ⟨fb, 0, none⟩)]] w fun e w' => (∃ r : Int, e = .returned (.int .i64 r) ∧ decide (0 ≤ r) = l.any p) ∧ ∃ n, w' = w.drewN n := by
  have HT := Lib.hid ht
  have HL := Lib.hid hl
  have HLI := Lib.hid hli
  have HN := Lib.hid hn
  clear ht hl hn hli
  go_enter Try.func68, Try.ntmps68
  go_wp2_with fail
  go_loopw [8] (fun i wr => ∃ k : Nat, k ≤ n ∧ i = .int .i64 k ∧ (l.take k).any p = false ∧ ∃ d, wr = w.drewN d) (fun i _ => n - (intOf i).toNat)
  case atStart => exact ⟨0, Nat.zero_le _, rfl, rfl, 0, rfl⟩
  case round =>
    obtain ⟨k, hk, rfl, hall, d, rfl⟩ := hrel
    have HALL := Lib.hid hall
    clear hall
    by_cases hlt : k < n
    · have d1 : decide (k < n) = true := decide_eq_true hlt
      have hkl : k < l.length := by rw [HN.out]; exact hlt
      obtain ⟨g, off, rfl, hgl, hc⟩ := HL.out k hkl
      obtain ⟨a, ha⟩ : ∃ a, l[k] = a := ⟨_, rfl⟩
      have HA := Lib.hid ha
      rw [ha] at hc
      have hod : Calls Try.prog 85 #[.int .i64 a, .pointer (some ⟨fb, 0, none⟩)] (w.drewN d) fun e w' => e = .returned (.bool (p a)) ∧ ∃ n, w' = (w.drewN d).drewN n := HT.out d a (by rw [← ha]; exact HLI.out _ (List.getElem_mem hkl))
      have g0 : (0 : Int) ≤ (k : Int) := by omega
      have g1 : (k : Int) < (n : Int) := by omega
      clear ha
      cases hv : p a
      · have HOD := Lib.hid hod
        have HV := Lib.hid hv
        clear hod hv
        go_wp2_with (go_at_call 85; (with_reducible refine HOD.out.mono ?_); rw [HV.out]; rintro e w1 ⟨rfl, n1, rfl⟩)
        go_roundw
        case rel => exact ⟨k + 1, by omega, by go_num, any_take_succ hkl (by rw [HA.out]; exact HV.out) HALL.out, _, rfl⟩
        case measure => simp [intOf]; omega
      · have HOD := Lib.hid hod
        have HV := Lib.hid hv
        clear hod hv
        go_wp2_with (go_at_call 85; (with_reducible refine HOD.out.mono ?_); rw [HV.out]; rintro e w1 ⟨rfl, n1, rfl⟩)
        go_ret
        refine ⟨⟨_, rfl, ?_⟩, _, rfl⟩
        have hf : l.any p = true := List.any_eq_true.2 ⟨a, by rw [← HA.out]; exact List.getElem_mem hkl, HV.out⟩
        rw [hf]
        exact decide_eq_true (by omega)
    · have hkn : k = n := by omega
      have d1 : decide (k < n) = false := decide_eq_false hlt
      clear hlt
      subst hkn
      go_wp2_with fail
      go_ret
      refine ⟨⟨_, rfl, ?_⟩, _, rfl⟩
      have := HALL.out
      rw [← HN.out, List.take_length] at this
      rw [this]; rfl
theorem contains_odd {w : World} {fb : Nat} {p : Int → Bool} (ht : TellsI 85 [.pointer (some ⟨fb, 0, none⟩)] p w) {A : Option Addr} {l : List Int} {n c : Nat} (hl : Nums w A l) (hli : ∀ x, x ∈ l → InI x) (hn : l.length = n) (hll : n ≤ 1000000000) : Calls Try.prog 33 #[.slice A n c, .func (.func 85) #[] #[.pointer (some ⟨fb, 0, none⟩)]] w fun e w' => e = .returned (.bool (l.any p)) ∧ ∃ n, w' = w.drewN n := by
  have hx := index_odd (c := c) ht hl hli hn hll
  obtain ⟨b, hb⟩ : ∃ b, l.any p = b := ⟨_, rfl⟩
  have HX := Lib.hid hx
  have HB := Lib.hid hb
  rw [hb]
  clear hx hb ht hl hn hli
  go_enter Try.func33, Try.ntmps33
  go_wp2_with (go_at_call 68; (with_reducible refine HX.out.mono ?_); rintro e w1 ⟨⟨r, rfl, hr⟩, n1, rfl⟩; rw [HB.out] at hr; have HR := Lib.hid hr; clear hr)
  go_ret
  exact ⟨ret_bool HR.out, _, rfl⟩
def fitT (n : Nat) (t : Tng) : Bool := !(oddV n (t.cls : Int) || (decide ((t.fmt : Int) = 0) && t.F.any (oddV n)))
def fitsV (ts : List Tng) (ws : List Int) : Bool := ts.all (fitT ts.length) && !ws.any (oddV ts.length)
/-- where a thing lies in a row -/
theorem TRow.at_ {w : World} {base : Nat} {A : Option Addr} {n c : Nat} {ts : List (Tng × Value)} (h : TRow w base (.slice A n c) ts) (hn : ts.length = n) (i : Nat) (hi : i < ts.length) : ∃ g, A = some ⟨g, 0, none⟩ ∧ base ≤ g ∧ g < w.heap.size ∧ w.cell? ⟨g, i * 4, none⟩ = some (.int .i64 (ts[i].1.fmt : Int)) ∧ w.cell? ⟨g, i * 4 + 1, none⟩ = some (.int .i64 ts[i].1.hash) ∧ w.cell? ⟨g, i * 4 + 2, none⟩ = some (.int .i64 (ts[i].1.cls : Int)) ∧ w.cell? ⟨g, i * 4 + 3, none⟩ = some ts[i].2 := by
  have h1 := h.1
  rcases h1.2 with ⟨hv, h0⟩ | ⟨g, cap, cur, hv, hg, hh, _⟩
  · have : ts.length = 0 := h0
    omega
  · cases hv
    have hlt : g < w.heap.size := by
      rcases Nat.lt_or_ge g w.heap.size with q | q
      · exact q
      · rw [Array.getElem?_eq_none q] at hh; cases hh
    have hcell : ∀ j, j < 4 → w.cell? ⟨g, i * 4 + j, none⟩ = (tcells ts[i])[j]? := fun j hj => by
      have := World.ownsRow.cellAt h1 (i * 4 + j) (by omega)
      rw [this, ← flat4 ts i hi j hj]
    exact ⟨g, rfl, hg, hlt, hcell 0 (by omega), hcell 1 (by omega), hcell 2 (by omega), hcell 3 (by omega)⟩
set_option maxRecDepth 100000 in
set_option maxHeartbeats 16000000 in
theorem fits_any {w : World} {base : Nat} {A B : Option Addr} {n c k d : Nat} {ts : List (Tng × Value)} {ws : List Int} (h : TRow w base (.slice A n c) ts) (hn : ts.length = n) (hn2 : n ≤ 1000000000) (hI : ∀ p, p ∈ ts → InI (p.1.cls : Int) ∧ ∀ x, x ∈ p.1.F → InI x) (hB : Nums w B ws) (hk : ws.length = k) (hk2 : k ≤ 1000000) (hwi : ∀ x, x ∈ ws → InI x) : Calls Try.prog 50 #[.slice A n c, .slice B k d] w fun e w' => e = .returned (.bool (fitsV (ts.map Prod.fst) ws)) ∧ Below w.heap.size w w' := by
  obtain ⟨W0, hW0⟩ : ∃ W0, W0 = w.alloc (.cells #[.slice A n c] 81) := ⟨_, rfl⟩
  have hB0 : Below w.heap.size w W0 := by rw [hW0]; exact (Below.refl _ _).alloc (Nat.le_refl _) _
  have hfb : W0.cell? ⟨w.heap.size, 0, none⟩ = some (.slice A n c) := by rw [hW0]; simp [go_sem]
  have HB0 := Lib.hid hB0
  have HTR := Lib.hid (h.below hB0)
  have HW := Lib.hid (hB.below hB0)
  have HN := Lib.hid hn
  have HI := Lib.hid hI
  have HK := Lib.hid hk
  have HWI := Lib.hid hwi
  have HSZ : Hid (w.heap.size < W0.heap.size) := Lib.hid (by rw [hW0]; simp)
  clear h hB hn hI hk hwi hB0
  go_enter Try.func50, Try.ntmps50
  go_upto_region 1 with fail
  rw [← hW0]
  have HFB := Lib.hid hfb
  clear hW0
  go_wp2_with fail
  clear hfb
  go_loopw [11] (fun i wr => ∃ k : Nat, k ≤ n ∧ i = .int .i64 k ∧ (ts.take k).all (fun p => fitT n p.1) = true ∧ Below W0.heap.size W0 wr) (fun i _ => n - (intOf i).toNat)
  case atStart => exact ⟨0, Nat.zero_le _, rfl, rfl, Below.refl _ _⟩
  case round =>
    obtain ⟨k, hk, rfl, hall, hbw⟩ := hrel
    have HALL := Lib.hid hall
    have HBW := Lib.hid hbw
    have hb1 : Below w.heap.size w wr := HB0.out.trans (hbw.mono HB0.out.size)
    have hfb : wr.cell? ⟨w.heap.size, 0, none⟩ = some (.slice A n c) := (hbw.cell (p := ⟨w.heap.size, 0, none⟩) HSZ.out).trans HFB.out
    by_cases hlt : k < n
    · have d1 : decide (k < n) = true := decide_eq_true hlt
      have d2 : decide ((k : Int) < (n : Int)) = true := decide_eq_true (by omega)
      have g0 : (0 : Int) ≤ (k : Int) := by omega
      have g1 : (k : Int) < (n : Int) := by omega
      have hkl : k < ts.length := by rw [HN.out]; exact hlt
      obtain ⟨g, rfl, hbg, hlg, c0, c1, c2, c3⟩ := (HTR.out.below hbw).at_ HN.out k hkl
      obtain ⟨p, hp⟩ : ∃ p, ts[k] = p := ⟨_, rfl⟩
      have hpm : p ∈ ts := by rw [← hp]; exact List.getElem_mem hkl
      rw [hp] at c0 c1 c2 c3
      obtain ⟨FA, fc, hp2, hpn, hpl, hpb⟩ := (HTR.out.below hbw).2 p hpm
      rw [hp2] at c3
      have hpi := HI.out p hpm
      obtain ⟨cl, hcl⟩ : ∃ cl, (p.1.cls : Int) = cl := ⟨_, rfl⟩
      obtain ⟨fm, hfm⟩ : ∃ fm, (p.1.fmt : Int) = fm := ⟨_, rfl⟩
      obtain ⟨fl, hfl⟩ : ∃ fl, p.1.F.length = fl := ⟨_, rfl⟩
      obtain ⟨b1, hb1'⟩ : ∃ b1, oddV n cl = b1 := ⟨_, rfl⟩
      obtain ⟨b3, hb3⟩ : ∃ b3, p.1.F.any (oddV n) = b3 := ⟨_, rfl⟩
      have HFT : Hid (fitT n p.1 = !(b1 || (decide (fm = 0) && b3))) := Lib.hid (by unfold fitT; rw [hcl, hfm, hb1', hb3])
      rw [hcl] at c2 hpi
      rw [hfm] at c0
      rw [hfl] at c3 hpl
      have HCI := Lib.hid hpi.1
      have HB1 := Lib.hid hb1'
      have HB3 := Lib.hid hb3
      have HPN := Lib.hid hpn
      have HFL := Lib.hid hfl
      have HPI := Lib.hid hpi.2
      have HPM := Lib.hid hpm
      have HP := Lib.hid hp
      obtain ⟨W2, hW2⟩ : ∃ W2, W2 = wr.alloc (.cells #[.int .i64 fm, .int .i64 p.1.hash, .int .i64 cl, .slice FA fl fc] 83) := ⟨_, rfl⟩
      have hB2 : Below wr.heap.size wr W2 := by rw [hW2]; exact (Below.refl _ _).alloc (Nat.le_refl _) _
      have hx2 : W2.heap[wr.heap.size]? = some (.cells #[.int .i64 fm, .int .i64 p.1.hash, .int .i64 cl, .slice FA fl fc] 83 (0, 0)) := by rw [hW2]; exact heap_alloc_new wr _
      have t0 : W2.cell? ⟨wr.heap.size, 0, none⟩ = some (.int .i64 fm) := by simp [World.cell?, hx2]
      have t2 : W2.cell? ⟨wr.heap.size, 2, none⟩ = some (.int .i64 cl) := by simp [World.cell?, hx2]
      have t3 : W2.cell? ⟨wr.heap.size, 3, none⟩ = some (.slice FA fl fc) := by simp [World.cell?, hx2]
      clear HFB
      have HFB : Hid (W2.cell? ⟨w.heap.size, 0, none⟩ = some (.slice (some ⟨g, 0, none⟩) n c)) := Lib.hid ((hB2.cell (p := ⟨w.heap.size, 0, none⟩) (by have := HSZ.out; have := hbw.size; show w.heap.size < wr.heap.size; omega)).trans hfb)
      have HPN2 := Lib.hid (HPN.out.below hB2)
      have HBN : Hid (Below W0.heap.size W0 W2) := Lib.hid (HBW.out.trans (hB2.mono HBW.out.size))
      have hbN := HBN.out
      have hbF : Below w.heap.size w W2 := hb1.trans (hB2.mono hb1.size)
      clear hall hbw hfb hpm hp hp2 hpn hpb hpi hcl hfm hfl hb1' hb3 hx2 hB2 hb1
      go_upto_region 5 with fail
      rw [← hW2]
      clear hW2 c0 c1 c2 c3
      have HNO : fitT n p.1 = false → Hid (fitsV (ts.map Prod.fst) ws = false) := fun q => Lib.hid (by
        unfold fitsV
        rw [List.length_map, HN.out]
        have : (ts.map Prod.fst).all (fitT n) = false := by
          rw [List.all_eq_false]
          exact ⟨p.1, List.mem_map.2 ⟨p, HPM.out, rfl⟩, by rw [q]; simp⟩
        rw [this]; rfl)
      have HYES : fitT n p.1 = true → Hid ((ts.take (k + 1)).all (fun p => fitT n p.1) = true) := fun q => Lib.hid (by
        rw [take_snoc hkl, List.all_append, HALL.out, HP.out]; simp [q])
      cases b1 with
      | true =>
        replace HNO := HNO (by rw [HFT.out]; rfl)
        clear HYES
        go_wp2_with (first | (go_at_call 85; (with_reducible refine (odd_at HFB.out cl HCI.out).mono ?_); rw [HB1.out]; rintro e w2 ⟨rfl, n2, rfl⟩; have HFB2 : Hid ((W2.drewN n2).cell? ⟨w.heap.size, 0, none⟩ = some (.slice (some ⟨g, 0, none⟩) n c)) := Lib.hid HFB.out; have HPN3 := Lib.hid (HPN2.out.drewN n2)))
        go_returns
        exact ⟨by rw [HNO.out]; rfl, by (repeat' (first | (with_reducible exact Below.refl _ _) | (with_reducible assumption) | (with_reducible refine below_drewN ?_ _) | (with_reducible refine Below.alloc ?_ ?_ _) | (with_reducible refine Below.drew ?_) | (with_reducible refine Below.setCell ?_ ?_ _) | go_size))⟩
      | false =>
        by_cases hf0 : fm = 0
        · have e0 : decide (fm = 0) = true := decide_eq_true hf0
          have e0' : (fm == 0) = true := by simpa using hf0
          have HF0 := Lib.hid hf0
          cases b3 with
          | true =>
            replace HNO := HNO (by rw [HFT.out, e0]; rfl)
            clear HYES hf0
            go_wp2_with (first | (go_at_call 85; (with_reducible refine (odd_at HFB.out cl HCI.out).mono ?_); rw [HB1.out]; rintro e w2 ⟨rfl, n2, rfl⟩; have HFB2 : Hid ((W2.drewN n2).cell? ⟨w.heap.size, 0, none⟩ = some (.slice (some ⟨g, 0, none⟩) n c)) := Lib.hid HFB.out; have HPN3 := Lib.hid (HPN2.out.drewN n2)) | (go_at_call 33; (with_reducible refine (contains_odd (odd_tells HFB2.out) HPN3.out HPI.out HFL.out (by omega)).mono ?_); rw [HB3.out]; rintro e w2 ⟨rfl, n2, rfl⟩))
            go_returns
            exact ⟨by rw [HNO.out]; rfl, by (repeat' (first | (with_reducible exact Below.refl _ _) | (with_reducible assumption) | (with_reducible refine below_drewN ?_ _) | (with_reducible refine Below.alloc ?_ ?_ _) | (with_reducible refine Below.drew ?_) | (with_reducible refine Below.setCell ?_ ?_ _) | go_size))⟩
          | false =>
            have HALL1 := HYES (by rw [HFT.out, e0]; rfl)
            clear HNO HYES hf0
            go_wp2_with (first | (go_at_call 85; (with_reducible refine (odd_at HFB.out cl HCI.out).mono ?_); rw [HB1.out]; rintro e w2 ⟨rfl, n2, rfl⟩; have HFB2 : Hid ((W2.drewN n2).cell? ⟨w.heap.size, 0, none⟩ = some (.slice (some ⟨g, 0, none⟩) n c)) := Lib.hid HFB.out; have HPN3 := Lib.hid (HPN2.out.drewN n2)) | (go_at_call 33; (with_reducible refine (contains_odd (odd_tells HFB2.out) HPN3.out HPI.out HFL.out (by omega)).mono ?_); rw [HB3.out]; rintro e w2 ⟨rfl, n2, rfl⟩))
            go_roundw
            case rel => exact ⟨k + 1, by omega, by go_num, HALL1.out, by (repeat' (first | (with_reducible exact Below.refl _ _) | (with_reducible assumption) | (with_reducible refine below_drewN ?_ _) | (with_reducible refine Below.alloc ?_ ?_ _) | (with_reducible refine Below.drew ?_) | (with_reducible refine Below.setCell ?_ ?_ _) | go_size))⟩
            case measure => simp [intOf]; omega
        · have e0 : decide (fm = 0) = false := decide_eq_false hf0
          have e0' : (fm == 0) = false := by simpa using hf0
          have HALL1 := HYES (by rw [HFT.out, e0]; rfl)
          clear HNO HYES
          go_wp2_with (first | (go_at_call 85; (with_reducible refine (odd_at HFB.out cl HCI.out).mono ?_); rw [HB1.out]; rintro e w2 ⟨rfl, n2, rfl⟩; have HFB2 : Hid ((W2.drewN n2).cell? ⟨w.heap.size, 0, none⟩ = some (.slice (some ⟨g, 0, none⟩) n c)) := Lib.hid HFB.out; have HPN3 := Lib.hid (HPN2.out.drewN n2)))
          go_roundw
          case rel => exact ⟨k + 1, by omega, by go_num, HALL1.out, by (repeat' (first | (with_reducible exact Below.refl _ _) | (with_reducible assumption) | (with_reducible refine below_drewN ?_ _) | (with_reducible refine Below.alloc ?_ ?_ _) | (with_reducible refine Below.drew ?_) | (with_reducible refine Below.setCell ?_ ?_ _) | go_size))⟩
          case measure => simp [intOf]; omega
    · have hkn : k = n := by omega
      have d1 : decide (k < n) = false := decide_eq_false hlt
      have d2 : decide ((k : Int) < (n : Int)) = false := decide_eq_false (by omega)
      obtain ⟨wb, hwb⟩ : ∃ wb, ws.any (oddV n) = wb := ⟨_, rfl⟩
      have HV : Hid (fitsV (ts.map Prod.fst) ws = !wb) := Lib.hid (by
        unfold fitsV
        rw [List.length_map, HN.out, hwb]
        have h1 := HALL.out
        rw [hkn, ← HN.out, List.take_length] at h1
        rw [List.all_map, HN.out] at *
        rw [show (ts.all (fitT n ∘ Prod.fst)) = true from h1]
        rfl)
      have HWB := Lib.hid hwb
      have HW2 := Lib.hid (HW.out.below hbw)
      clear HFB
      have HFB := Lib.hid hfb
      clear hall hbw hfb hwb hkn hlt
      go_wp2_with (first | (go_at_call 33; (with_reducible refine (contains_odd (odd_tells HFB.out) HW2.out HWI.out HK.out (by omega)).mono ?_); rw [HWB.out]; rintro e w2 ⟨rfl, n2, rfl⟩))
      go_ret
      exact ⟨by rw [HV.out]; rfl, by (repeat' (first | (with_reducible exact Below.refl _ _) | (with_reducible assumption) | (with_reducible refine below_drewN ?_ _) | (with_reducible refine Below.alloc ?_ ?_ _) | (with_reducible refine Below.drew ?_) | (with_reducible refine Below.setCell ?_ ?_ _) | go_size))⟩
end Go.Proofs.Ytfinpgkehjbcpaa
