/- Chapter 05: a memory is written. -/
import Derived.Test.YtfinpgkehjbcpaaIG
import Derived.Test.YtfinpgkehjbcpaaIH0
import Derived.Test.YtfinpgkehjbcpaaIPlain3
import Derived.Lib.SlBytesConst
namespace Go.Proofs.Ytfinpgkehjbcpaa
open Go.ChangeShapes Go.WideShapes Go.ChangeAt Go.RowKit Go.Deep Go.Joins Go.Maps
set_option linter.unusedVariables false
set_option linter.unusedSimpArgs false
def WriteP (w : World) (m : Hp) (js : List Int) (e : Ending) (w' : World) : Prop := ∃ v, e = .returned (.tuple #[v, .int .i64 (writeV m js).2]) ∧ BInts w' w.heap.size v (writeV m js).1 ∧ Below w.heap.size w w'
theorem WT.turns {w w' : World} {R T : Nat → Prop} {s wb mp : Nat} {v : Value} {zs : List Int} {odd : Bool} (h : WT w R s wb mp v zs odd) (ht : Turns T w w') (hd : ∀ k, R k → ¬ T k) : WT w' R s wb mp v zs odd :=
  ⟨(ht.block wb h.blt (hd wb h.inR.1)).trans h.box, h.own.turns ht (fun k q => hd k (h.inR.2 k q)), h.ne, h.inR, fun k hk => Nat.lt_of_lt_of_le (h.lt k hk) ht.size⟩
theorem lit4_u8 (w : World) (x0 x1 x2 x3 : Int) : Bytes (w.alloc (.cells #[.int .u8 x0, .int .u8 x1, .int .u8 x2, .int .u8 x3] 5)) (some ⟨w.heap.size, 0, none⟩) [x0, x1, x2, x3] := fun k hk => by
  have hk4 : k < 4 := by simpa using hk
  refine ⟨w.heap.size, 0, rfl, by simp, ?_⟩
  have := heap_alloc_new w (.cells #[.int .u8 x0, .int .u8 x1, .int .u8 x2, .int .u8 x3] 5)
  unfold World.cell?
  rw [this]
  rcases (show k = 0 ∨ k = 1 ∨ k = 2 ∨ k = 3 by omega) with rfl | rfl | rfl | rfl <;> rfl
set_option maxRecDepth 100000 in
set_option maxHeartbeats 16000000 in
theorem write_nil (w : World) (A : Option Addr) (n c : Nat) : Calls Try.prog 13 #[.pointer none, .slice A n c] w fun e w' => e = .returned (.tuple #[.slice none 0 0, .int .i64 1]) ∧ Below w.heap.size w w' := by
  go_enter Try.func13, Try.ntmps13
  go_wp2_with fail
  go_returns
  exact ⟨rfl, by (repeat' (first | (with_reducible exact Below.refl _ _) | (with_reducible assumption) | (with_reducible refine below_drewN ?_ _) | (with_reducible refine Below.alloc ?_ ?_ _) | (with_reducible refine Below.drew ?_) | (with_reducible refine Below.setCell ?_ ?_ _) | go_size))⟩
set_option maxRecDepth 100000 in
set_option maxHeartbeats 16000000 in
theorem write_any {w : World} {s bw bm : Nat} {m : Hp} (hP : PM w s bw bm m) (hS : Snd m) {A : Option Addr} {js : List Int} {n c : Nat} (hl : Nums w A js) (hn : js.length = n) (hnb : n ≤ 1000000000) : Calls Try.prog 13 #[.pointer (some ⟨s, 0, none⟩), .slice A n c] w (WriteP w m js) := by
  have HPM0 := Lib.hid hP
  have HSN := Lib.hid hS
  have HNU := Lib.hid hl
  have HN := Lib.hid hn
  by_cases hbig : 4000 < n
  · have d0 : decide (4000 < n) = true := decide_eq_true hbig
    have d1 : decide ((4000 : Int) < (n : Int)) = true := decide_eq_true (by omega)
    have HV : Hid (writeV m js = ([], 1)) := Lib.hid (by unfold writeV; rw [if_neg (fun q => by have := q.1; omega)])
    clear hP hS hl hn
    go_enter Try.func13, Try.ntmps13
    go_wp2_with fail
    go_returns
    try unfold WriteP
    rw [HV.out]
    exact ⟨_, rfl, BInts.nil _ _, by (repeat' (first | (with_reducible exact Below.refl _ _) | (with_reducible assumption) | (with_reducible refine below_drewN ?_ _) | (with_reducible refine Below.alloc ?_ ?_ _) | (with_reducible refine Below.drew ?_) | (with_reducible refine Below.setCell ?_ ?_ _) | go_size))⟩
  have d0 : decide (4000 < n) = false := decide_eq_false hbig
  have d1 : decide ((4000 : Int) < (n : Int)) = false := decide_eq_false (by omega)
  have hA1 := (Below.refl w.heap.size w).alloc (Nat.le_refl _) (.cells #[.pointer (some ⟨s, 0, none⟩)] 24)
  obtain ⟨W1, hW1⟩ : ∃ W1, W1 = w.alloc (.cells #[.pointer (some ⟨s, 0, none⟩)] 24) := ⟨_, rfl⟩
  rw [← hW1] at hA1
  have cb : W1.cell? ⟨w.heap.size, 0, none⟩ = some (.pointer (some ⟨s, 0, none⟩)) := by rw [hW1]; simp [go_sem]
  have hP1 := hP.below hA1
  have hct := contains_may1 (c := c) (may1_tells hP1 w.heap.size cb) (hl.below hA1) hn hnb
  have HCT := Lib.hid hct
  have HB1 := Lib.hid hA1
  have HP1 := Lib.hid hP1
  clear hct hA1 hP hS hl hn hP1 hbig
  cases hany : js.any (fun a => !mayV m.L a)
  · have HANY := Lib.hid hany
    have HMY : Hid (∀ x, x ∈ js → mayV m.L x = true) := Lib.hid (fun x hx => by
      have := List.any_eq_false.1 hany x hx
      simpa using this)
    clear hany
    go_enter Try.func13, Try.ntmps13
    go_wp2_with fail
    rw [← hW1]
    clear hW1
    go_upto_region 3 with (first | (go_at_call 33; (with_reducible refine HCT.out.mono ?_); rw [HANY.out]; rintro e w2 ⟨rfl, n2, rfl⟩))
    obtain ⟨W2, hW2⟩ : ∃ W2, W2 = W1.drewN n2 := ⟨_, rfl⟩
    have hB2 : Below w.heap.size w W2 := by rw [hW2]; exact below_drewN HB1.out n2
    have hP2 : PM W2 s bw bm m := by rw [hW2]; exact HP1.out.drewN n2
    have cb2 : W2.cell? ⟨w.heap.size, 0, none⟩ = some (.pointer (some ⟨s, 0, none⟩)) := by rw [hW2]; exact cb
    rw [← hW2]
    clear hW2 cb
    have hmm := @run_makeMap Try.prog
    have kc : ∀ (ob : Obj) (C : Array Value) (n c : Nat), Sem.run Try.prog (convert 30 30 (.slice (some ⟨W2.heap.size + 1, 0, none⟩) n c)) ((W2.alloc ob).alloc (.cells C 5)) = .ok (.slice (some ⟨W2.heap.size + 1, 0, none⟩) n c) ((W2.alloc ob).alloc (.cells C 5 (C.size, C.size + 1))) := fun ob C n c => (by
      have e : (W2.alloc ob).heap.size = W2.heap.size + 1 := by simp
      rw [← e]
      exact Lib.run_convert_bytes_const (P := Try.prog) (W2.alloc ob) 30 5 C n c Try.underlying30 Try.underlying5)
    go_upto_region 4 with fail
    obtain ⟨W5, hW5⟩ : ∃ W5, W5 = ((W2.alloc (.map #[] 0)).alloc (.cells #[.int .u8 86, .int .u8 73, .int .u8 86, .int .u8 49] 5 (4, 5))).alloc (.cells #[.pointer (some ⟨s, 0, none⟩), .map (some W2.heap.size), .slice (some ⟨W2.heap.size + 1, 0, none⟩) 4 4, .bool false] 68) := ⟨_, rfl⟩
    rw [← hW5]
    have hB5 : Below W2.heap.size W2 W5 := by rw [hW5]; exact (((Below.refl _ _).alloc (Nat.le_refl _) _).alloc (by simp) _).alloc (by simp; omega) _
    have hs5 : W5.heap.size = W2.heap.size + 3 := by rw [hW5]; simp
    have hbx5 : W5.heap[W2.heap.size + 1 + 1]? = some (.cells #[.pointer (some ⟨s, 0, none⟩), .map (some W2.heap.size), .slice (some ⟨W2.heap.size + 1, 0, none⟩) 4 4, .bool false] 68 (0, 0)) := by
      rw [hW5]
      have := heap_alloc_new ((W2.alloc (.map #[] 0)).alloc (.cells #[.int .u8 86, .int .u8 73, .int .u8 86, .int .u8 49] 5 (4, 5))) (.cells #[.pointer (some ⟨s, 0, none⟩), .map (some W2.heap.size), .slice (some ⟨W2.heap.size + 1, 0, none⟩) 4 4, .bool false] 68)
      simpa using this
    have hlit5 : W5.heap[W2.heap.size + 1]? = some (.cells #[.int .u8 86, .int .u8 73, .int .u8 86, .int .u8 49] 5 (4, 5)) := by
      rw [hW5, heap_alloc_old _ _ (by simp)]
      have := heap_alloc_new (W2.alloc (.map #[] 0)) (.cells #[.int .u8 86, .int .u8 73, .int .u8 86, .int .u8 49] 5 (4, 5))
      simpa using this
    have hmap5 : IntMap W5 W2.heap.size 0 (fun _ => 0) := by
      refine (IntMap.made W2).same ?_
      rw [hW5, heap_alloc_old _ _ (by simp; omega), heap_alloc_old _ _ (by simp)]
    have hz5 : Bytes W5 (some ⟨W2.heap.size + 1, 0, none⟩) [86, 73, 86, 49] := fun k hk => (by
      refine ⟨W2.heap.size + 1, 0, rfl, by omega, ?_⟩
      unfold World.cell?
      rw [hlit5]
      have hk4 : k < 4 := by simpa using hk
      rcases (show k = 0 ∨ k = 1 ∨ k = 2 ∨ k = 3 by omega) with rfl | rfl | rfl | rfl <;> rfl)
    have hP5 := hP2.below (hB5.mono (Nat.le_refl _))
    have cb5 : W5.cell? ⟨w.heap.size, 0, none⟩ = some (.pointer (some ⟨s, 0, none⟩)) := by
      refine (hB5.cell (p := ⟨w.heap.size, 0, none⟩) ?_).trans cb2
      show w.heap.size < W2.heap.size
      rcases Nat.lt_or_ge w.heap.size W2.heap.size with q | q
      · exact q
      · simp [World.cell?, Array.getElem?_eq_none q] at cb2
    have hw2s : w.heap.size < W2.heap.size := by
      rcases Nat.lt_or_ge w.heap.size W2.heap.size with q | q
      · exact q
      · simp [World.cell?, Array.getElem?_eq_none q] at cb2
    have hBw5 : Below w.heap.size w W5 := hB2.trans (hB5.mono (Nat.le_of_lt hw2s))
    obtain ⟨mp, hmp⟩ : ∃ mp, mp = W2.heap.size := ⟨_, rfl⟩
    rw [← hmp] at hs5 hbx5 hlit5 hmap5 hz5 hw2s ⊢
    obtain ⟨wb, hwb⟩ : ∃ wb, wb = mp + 1 + 1 := ⟨_, rfl⟩
    rw [← hwb] at hbx5 ⊢
    obtain ⟨cb, hcb⟩ : ∃ cb, cb = mp + 1 := ⟨_, rfl⟩
    rw [← hcb] at hbx5 hlit5 hz5 ⊢
    have HLT : Hid (w.heap.size < mp ∧ cb = mp + 1 ∧ wb = mp + 2 ∧ W5.heap.size = mp + 3) := Lib.hid ⟨hw2s, hcb, by omega, hs5⟩
    obtain ⟨N, hN⟩ : ∃ N, m.L.length = N := ⟨_, rfl⟩
    have hNL : N ≤ 131072 := by rw [← hN]; exact len_bd HPM0.out.good
    have HNL := Lib.hid hN
    have HPN : Hid ((ptrs m.L).length = N) := Lib.hid (by unfold ptrs; rw [List.length_map, List.length_range, hN])
    have HP5 := Lib.hid hP5
    have HBX5 := Lib.hid hbx5
    have HMAP5 := Lib.hid hmap5
    have HZ5 := Lib.hid hz5
    have HBW5 := Lib.hid hBw5
    have HCB5 := Lib.hid cb5
    have HPLT : Hid (∀ k, pset s bw bm k → k < w.heap.size) := Lib.hid (HPM0.out.lt)
    clear hP5 hbx5 hmap5 hz5 hBw5 hlit5 hs5 hcb hwb hmp hw2s hB5 hB2 hP2 cb2 hmm kc hN hW5
    --<a
    go_wp2_with (first | (go_at_call 36; (with_reducible refine (objects_any HP5.out).mono ?_); rintro e w6 ⟨v6, rfl, hi6, hb6⟩; obtain ⟨A6, c6, rfl, hc6, hn6, ha6, hm6, _⟩ := hi6.nums; rw [HPN.out] at hc6 ⊢; have HN6 := Lib.hid hn6; have HA6 := Lib.hid ha6; have HB6 := Lib.hid hb6; clear hn6 ha6 hb6 hi6))
    have HMAP6 : Hid (IntMap w6 mp 0 (fun _ => 0)) := Lib.hid (HMAP5.out.same (HB6.out.block mp HMAP5.out.lt))
    have hwb5 : wb < W5.heap.size := by have := HLT.out; omega
    have HBX6 : Hid (w6.heap[wb]? = some (.cells #[.pointer (some ⟨s, 0, none⟩), .map (some mp), .slice (some ⟨cb, 0, none⟩) 4 4, .bool false] 68 (0, 0))) := Lib.hid ((HB6.out.block wb hwb5).trans HBX5.out)
    have HBW6 : Hid (Below w.heap.size w w6) := Lib.hid (HBW5.out.trans (HB6.out.mono (by have := HLT.out; omega)))
    have HZ6 := Lib.hid (HZ5.out.below HB6.out)
    have HCB6 : Hid (w6.cell? ⟨w.heap.size, 0, none⟩ = some (.pointer (some ⟨s, 0, none⟩))) := Lib.hid ((HB6.out.cell (p := ⟨w.heap.size, 0, none⟩) (by have := HLT.out; show w.heap.size < W5.heap.size; omega)).trans HCB5.out)
    have HSZ6 : Hid (mp + 3 ≤ w6.heap.size) := Lib.hid (by have := HB6.out.size; have := HLT.out; omega)
    clear hwb5
    go_loopw [37] (fun j wr => ∃ k : Nat, k ≤ N ∧ j = .int .i64 k ∧ Turns (fun b => b = mp) w6 wr ∧ ∃ f, IntMap wr mp k f ∧ ∀ i, i < k → f (ptr m.L i) = (i : Int)) (fun j _ => N - (intOf j).toNat)
    case atStart => exact ⟨0, Nat.zero_le _, rfl, Turns.refl _ _, _, HMAP6.out, fun i hi => absurd hi (by omega)⟩
    case round =>
      obtain ⟨k, hk, rfl, ht, f, hf1, hf2⟩ := hrel
      have HT := Lib.hid ht
      have HF1 := Lib.hid hf1
      have HF2 := Lib.hid hf2
      clear ht hf1 hf2
      by_cases hlt : k < N
      · have d3 : decide (k < N) = true := decide_eq_true hlt
        have d4 : decide ((k : Int) < (N : Int)) = true := decide_eq_true (by omega)
        have g0 : (0 : Int) ≤ (k : Int) := by omega
        have g1 : (k : Int) < (N : Int) := by omega
        obtain ⟨pk, hpk⟩ : ∃ pk, ptr m.L k = pk := ⟨_, rfl⟩
        have hn7 := HN6.out.turns HT.out (fun b off e q => by have := (HA6.out b off e).1; have := HLT.out; omega)
        obtain ⟨b6, o6, rfl, hlt6, hc7⟩ := hn7 k (by rw [HPN.out]; exact hlt)
        have hpe : (ptrs m.L)[k]'(by rw [HPN.out]; exact hlt) = pk := by rw [← hpk]; simp [ptrs]
        rw [hpe] at hc7
        have c7 : wr.cell? ⟨wb, 1, none⟩ = some (.map (some mp)) := by
          have h1 : wr.heap[wb]? = w6.heap[wb]? := HT.out.block wb (by have := HLT.out; have := HSZ6.out; omega) (by have := HLT.out; omega)
          simp [World.cell?, h1, HBX6.out]
        have HKM : Hid (k < maxLen) := Lib.hid (by unfold maxLen; omega)
        have HXI : Hid (InI pk) := Lib.hid (by rw [← hpk]; have := ptr_ge m.L k; have := ptr_le HPM0.out.good (k := k) (by rw [HNL.out]; exact hlt); show _ ∧ _; omega)
        have HYI : Hid (InI (k : Int)) := Lib.hid (show _ ∧ _ by omega)
        have HPK := Lib.hid hpk
        clear hn7 hlt6 hpe hpk
        go_wp2_with (first | (at_mapUpdate; refine wpList_putInt _ rfl _ _ _ rfl rfl HF1.out HKM.out rfl rfl HXI.out HYI.out ?_; intro w7 hm7 hg7; have HM7 := Lib.hid hm7; have HG7 := Lib.hid hg7; clear hm7 hg7))
        go_roundw
        case rel =>
          refine ⟨k + 1, by omega, by go_num, HT.out.grown HG7.out rfl, _, HM7.out, fun i hi => ?_⟩
          rcases Nat.lt_or_ge i k with q | q
          · have hne : ptr m.L i ≠ pk := fun e => by
              have h1 := plc_at (L := m.L) (i := i) (by rw [HNL.out]; omega)
              have h2 := plc_at (L := m.L) (i := k) (by rw [HNL.out]; omega)
              rw [← HPK.out] at e
              rw [e, h2] at h1
              cases h1; omega
            rw [if_neg hne]; exact HF2.out i q
          · obtain rfl : i = k := by omega
            rw [if_pos HPK.out]
        case measure => simp [intOf]; omega
      · have hkN : k = N := by omega
        have d3 : decide (k < N) = false := decide_eq_false hlt
        have d4 : decide ((k : Int) < (N : Int)) = false := decide_eq_false (by omega)
        have HPL : Hid (Places wr mp m) := Lib.hid ⟨k, f, HF1.out, fun i hi => HF2.out i (by rw [HNL.out] at hi; omega)⟩
        obtain ⟨W7, hW7⟩ : ∃ W7, W7 = wr := ⟨_, rfl⟩
        rw [← hW7] at HPL HT HF1
        have HP7 : Hid (PM W7 s bw bm m) := Lib.hid ((HP5.out.below HB6.out).turns HT.out (fun j hj q => by have := HPLT.out j hj; have := HLT.out; omega))
        have HBX7 : Hid (W7.heap[wb]? = some (.cells #[.pointer (some ⟨s, 0, none⟩), .map (some mp), .slice (some ⟨cb, 0, none⟩) 4 4, .bool false] 68 (0, 0))) := Lib.hid ((HT.out.block wb (by have := HLT.out; have := HSZ6.out; omega) (by have := HLT.out; omega)).trans HBX6.out)
        have HBW7 : Hid (Below w.heap.size w W7) := Lib.hid (HBW6.out.trans (HT.out.below (B := w.heap.size) (fun k q => by have := HLT.out; omega) (by have := HSZ6.out; have := HLT.out; omega)))
        have HZ7 : Hid (Bytes W7 (some ⟨cb, 0, none⟩) [86, 73, 86, 49]) := Lib.hid (HZ6.out.turns HT.out (fun b off e q => by cases e; have := HLT.out; omega))
        have cb7 : W7.cell? ⟨w.heap.size, 0, none⟩ = some (.pointer (some ⟨s, 0, none⟩)) := by
          have h1 : W7.heap[w.heap.size]? = w6.heap[w.heap.size]? := HT.out.block _ (by have := HLT.out; have := HSZ6.out; omega) (by have := HLT.out; omega)
          have h2 := HCB6.out
          simp only [World.cell?, h1] at h2 ⊢
          exact h2
        have HN7 : Hid (Nums W7 A6 (ptrs m.L)) := Lib.hid (HN6.out.turns HT.out (fun b off e q => by have := (HA6.out b off e).1; have := HLT.out; omega))
        have HSZ7 : Hid (mp + 3 ≤ W7.heap.size) := Lib.hid (by have := HT.out.size; have := HSZ6.out; omega)
        have HA7 : Hid (∀ b off, A6 = some ⟨b, off, none⟩ → mp + 3 ≤ b) := Lib.hid (fun b off e => by have := (HA6.out b off e).1; have := HLT.out; omega)
        obtain ⟨mk, hmk⟩ : ∃ mk, m.made = mk := ⟨_, rfl⟩
        have hmkb : mk ≤ 1099511627776 := by rw [← hmk]; exact HPM0.out.good.made
        have HMK : Hid ((m.made : Int) = (mk : Int)) := Lib.hid (by rw [hmk])
        have HMK' := Lib.hid hmk
        rw [← hW7]
        clear hkN hlt hk hmk hW7 HT HF1 HF2 HN6 HA6 HZ6 HBW6 HBX6 HCB6 HSZ6 HMAP6 HP5 HB6 HZ5 HBW5 HBX5 HCB5 HMAP5 wr f
        have HD : Hid (∀ j, pset s bw bm j → ¬ (j = wb)) := Lib.hid (fun j hj q => by have := HPLT.out j hj; have := HLT.out; omega)
        have HDM : Hid (¬ (mp = wb)) := Lib.hid (by have := HLT.out; omega)
        --<b
        go_upto_region 11 with (first | (go_at_call 38; (with_reducible refine (made_any HP7.out).mono ?_); rw [HMK.out]; rintro e w2 ⟨rfl, hw2⟩; replace hw2 := hw2.symm; subst hw2) | (go_at_call 37; (with_reducible refine (wcount_first HBX7.out rfl (by omega) HZ7.out mk (by omega)).mono ?_); rintro e w8 ⟨rfl, hp8⟩; have HS := Lib.hid hp8; clear hp8))
        replace cb7 : w8.cell? ⟨w.heap.size, 0, none⟩ = some (.pointer (some ⟨s, 0, none⟩)) := by
          have h1 : w8.heap[w.heap.size]? = W7.heap[w.heap.size]? := HS.out.turns.block _ (by have := HLT.out; have := HSZ7.out; omega) (by have := HLT.out; omega)
          simp only [World.cell?, h1] at cb7 ⊢
          exact cb7
        have HL1 : Hid ((cntV mk).length ≤ 9) := Lib.hid (cnt_len9 (by omega))
        have HL2 : Hid ((cntV N).length ≤ 9) := Lib.hid (cnt_len9 (by omega))
        go_wp2_with (first | (go_at_call 37; obtain ⟨R1, u1, hw1, ht1, hn1⟩ := HS.out; (with_reducible refine (wcount_any hw1 N (by omega) (by have := HL1.out; simp only [List.length_append, List.length_cons, List.length_nil]; omega)).mono ?_); rintro e w9 ⟨rfl, hp3⟩; replace HS := Lib.hid (WPost.next ht1 hn1 hp3); clear hw1 ht1 hn1 hp3 R1 u1))
        obtain ⟨zp, hzp⟩ : ∃ zp, [86, 73, 86, 49] ++ cntV mk ++ cntV N = zp := ⟨_, rfl⟩
        rw [hzp] at HS
        have hzl : zp.length ≤ 22 := by rw [← hzp]; have := HL1.out; have := HL2.out; simp only [List.length_append, List.length_cons, List.length_nil]; omega
        have HZP := Lib.hid hzp
        have HS1 := Lib.hid HS.out
        clear hzp HS HL1 HL2
        --<c
        go_loopw [59] (fun j wr => ∃ k : Nat, k ≤ N ∧ j = .int .i64 k ∧ WPost (fun b => b = wb) s wb mp (zp ++ (m.L.take k).flatMap (objB m.L)) ((m.L.take k).any oddO) W7 wr) (fun j _ => N - (intOf j).toNat)
        case atStart => exact ⟨0, Nat.zero_le _, rfl, by simpa using HS1.out⟩
        case round =>
          obtain ⟨k, hk, rfl, hS2⟩ := hrel
          have HS := Lib.hid hS2
          clear hS2 HS1
          by_cases hlt : k < N
          · have d3 : decide (k < N) = true := decide_eq_true hlt
            have d4 : decide ((k : Int) < (N : Int)) = true := decide_eq_true (by omega)
            have g0 : (0 : Int) ≤ (k : Int) := by omega
            have g1 : (k : Int) < (N : Int) := by omega
            have hkL : k < m.L.length := by rw [HNL.out]; exact hlt
            have hn7 := HN7.out.turns HS.out.turns (fun b off e q => by have := HA7.out b off e; have := HLT.out; omega)
            obtain ⟨b6, o6, rfl, hlt6, hc7⟩ := hn7 k (by rw [HPN.out]; exact hlt)
            have hpe : (ptrs m.L)[k]'(by rw [HPN.out]; exact hlt) = ptr m.L k := by simp [ptrs]
            rw [hpe] at hc7
            have hfl : ((m.L.take k).flatMap (objB m.L)).length ≤ 306708480 := by
              have h1 := flat_len (f := objB m.L) (b := 2340) (m.L.take k) (fun o ho => objB_len HPM0.out.good HSN.out (List.mem_of_mem_take ho))
              rw [List.length_take] at h1
              have h2 : min k m.L.length ≤ 131072 := by omega
              have := Nat.mul_le_mul_left 2340 h2
              omega
            have HFS : Hid ((zp ++ (m.L.take (k + 1)).flatMap (objB m.L)) = (zp ++ (m.L.take k).flatMap (objB m.L)) ++ objB m.L m.L[k]) := Lib.hid (by rw [take_snoc hkL, List.flatMap_append]; simp)
            have HFO : Hid ((m.L.take (k + 1)).any oddO = ((m.L.take k).any oddO || oddO m.L[k])) := Lib.hid (by rw [take_snoc hkL, List.any_append]; simp)
            obtain ⟨zk, hzk⟩ : ∃ zk, zp ++ (m.L.take k).flatMap (objB m.L) = zk := ⟨_, rfl⟩
            obtain ⟨ok, hok⟩ : ∃ ok, (m.L.take k).any oddO = ok := ⟨_, rfl⟩
            have hzkl : zk.length ≤ 800000000 := by rw [← hzk, List.length_append]; omega
            rw [hzk] at HS HFS
            rw [hok] at HS HFO
            have HKL := Lib.hid hkL
            have HHI : Hid (∀ o', objB m.L m.L[k] = o' → True) := Lib.hid (fun _ _ => trivial)
            clear hn7 hlt6 hpe hfl hzk hok hk
            go_wp2_with (first | (go_at_call 39; obtain ⟨R1, u1, hw1, ht1, hn1⟩ := HS.out; (with_reducible refine (wobject_any hw1 (HP7.out.turns ht1 HD.out) (HPL.out.turns ht1 HDM.out) HSN.out (fun j hj q => (hn1 j q).elim (HD.out j hj) (fun z => by have := HPLT.out j hj; have := HLT.out; have := HSZ7.out; omega)) (fun q => (hn1 _ q).elim HDM.out (fun z => by have := HLT.out; have := HSZ7.out; omega)) k HKL.out hzkl).mono ?_); rintro e w9 ⟨rfl, hp3⟩; replace HS := Lib.hid (WPost.next ht1 hn1 hp3); clear hw1 ht1 hn1 hp3 R1 u1))
            go_roundw
            case rel => exact ⟨k + 1, by omega, by go_num, HS.out.cast HFS.out.symm HFO.out.symm⟩
            case measure => simp [intOf]; omega
          · have hkN : k = N := by omega
            have d3 : decide (k < N) = false := decide_eq_false hlt
            have d4 : decide ((k : Int) < (N : Int)) = false := decide_eq_false (by omega)
            have hTK : m.L.take k = m.L := List.take_of_length_le (by rw [HNL.out]; omega)
            rw [hTK] at HS
            have hfl : (m.L.flatMap (objB m.L)).length ≤ 306708480 := by
              have h1 := flat_len (f := objB m.L) (b := 2340) m.L (fun o ho => objB_len HPM0.out.good HSN.out ho)
              have h2 : m.L.length ≤ 131072 := by rw [HNL.out]; exact hNL
              have := Nat.mul_le_mul_left 2340 h2
              omega
            obtain ⟨zq, hzq⟩ : ∃ zq, zp ++ m.L.flatMap (objB m.L) = zq := ⟨_, rfl⟩
            obtain ⟨od, hod⟩ : ∃ od, m.L.any oddO = od := ⟨_, rfl⟩
            have hzql : zq.length ≤ 306708502 := by rw [← hzq, List.length_append]; omega
            rw [hzq, hod] at HS
            have HZQ := Lib.hid hzq
            have HOD := Lib.hid hod
            have hnk : n ≤ 4000 := by have := of_decide_eq_false d0; omega
            have HL3 : Hid ((cntV n).length ≤ 9) := Lib.hid (cnt_len9 (by omega))
            clear hTK hfl hzq hod hkN hlt hk
            go_wp2_with (first | (go_at_call 37; obtain ⟨R1, u1, hw1, ht1, hn1⟩ := HS.out; (with_reducible refine (wcount_any hw1 n (by omega) (by omega)).mono ?_); rintro e w9 ⟨rfl, hp3⟩; replace HS := Lib.hid (WPost.next ht1 hn1 hp3); clear hw1 ht1 hn1 hp3 R1 u1))
            obtain ⟨zr, hzr⟩ : ∃ zr, zq ++ cntV n = zr := ⟨_, rfl⟩
            rw [hzr] at HS
            have hzrl : zr.length ≤ 306708511 := by rw [← hzr, List.length_append]; have := HL3.out; omega
            have HZR := Lib.hid hzr
            have HS1 := Lib.hid HS.out
            clear hzr HS HL3 hzql hzl
            --<d
            go_loopw [73] (fun j wr => ∃ k : Nat, k ≤ n ∧ j = .int .i64 k ∧ WPost (fun b => b = wb) s wb mp (zr ++ (js.take k).flatMap (fun x => cntV (codeW m.L x))) od W7 wr) (fun j _ => n - (intOf j).toNat)
            case atStart => exact ⟨0, Nat.zero_le _, rfl, by simpa using HS1.out⟩
            case round =>
              obtain ⟨k, hk, rfl, hS2⟩ := hrel
              have HS := Lib.hid hS2
              clear hS2 HS1
              have hwl : ∀ x, x ∈ js → (cntV (codeW m.L x)).length ≤ 9 := fun x hx => cnt_len9 (by have := codeW_le (L := m.L) (x := x) (by rw [HNL.out]; omega) (HMY.out x hx); omega)
              by_cases hlt : k < n
              · have d3 : decide (k < n) = true := decide_eq_true hlt
                have d4 : decide ((k : Int) < (n : Int)) = true := decide_eq_true (by omega)
                have g0 : (0 : Int) ≤ (k : Int) := by omega
                have g1 : (k : Int) < (n : Int) := by omega
                have hkJ : k < js.length := by rw [HN.out]; exact hlt
                obtain ⟨bj, oj, hAj, hltj, hcj⟩ := HNU.out k hkJ
                subst hAj
                obtain ⟨x, hx⟩ : ∃ x, js[k] = x := ⟨_, rfl⟩
                have hxm : x ∈ js := by rw [← hx]; exact List.getElem_mem hkJ
                have hcj7 : wr.cell? ⟨bj, oj + k, none⟩ = some (.int .i64 x) := by
                  have h1 : W7.cell? ⟨bj, oj + k, none⟩ = w.cell? ⟨bj, oj + k, none⟩ := HBW7.out.cell (p := ⟨bj, oj + k, none⟩) hltj
                  have h2 : wr.heap[bj]? = W7.heap[bj]? := HS.out.turns.block bj (by have := HSZ7.out; have := HLT.out; omega) (by have := HLT.out; omega)
                  rw [← hx, ← hcj, ← h1]
                  simp only [World.cell?, h2]
                have hfl : ((js.take k).flatMap (fun x => cntV (codeW m.L x))).length ≤ 36000 := by
                  have h1 := flat_len (f := fun x => cntV (codeW m.L x)) (b := 9) (js.take k) (fun o ho => hwl o (List.mem_of_mem_take ho))
                  rw [List.length_take] at h1
                  omega
                have HFS : Hid ((zr ++ (js.take (k + 1)).flatMap (fun x => cntV (codeW m.L x))) = (zr ++ (js.take k).flatMap (fun x => cntV (codeW m.L x))) ++ cntV (codeW m.L x)) := Lib.hid (by rw [take_snoc hkJ, List.flatMap_append, hx]; simp)
                obtain ⟨zk, hzk⟩ : ∃ zk, zr ++ (js.take k).flatMap (fun x => cntV (codeW m.L x)) = zk := ⟨_, rfl⟩
                have hzkl : zk.length ≤ 900000000 := by rw [← hzk, List.length_append]; omega
                rw [hzk] at HS HFS
                have HMX : Hid (mayV m.L x = true) := Lib.hid (HMY.out x hxm)
                clear hx hxm hcj hltj hfl hzk hkJ hk hwl
                go_wp2_with (first | (go_at_call 40; obtain ⟨R1, u1, hw1, ht1, hn1⟩ := HS.out; (with_reducible refine (wword_any hw1 (HPL.out.turns ht1 HDM.out) HPM0.out.good x HMX.out hzkl).mono ?_); rintro e w9 ⟨rfl, hp3⟩; replace HS := Lib.hid (WPost.next ht1 hn1 hp3); clear hw1 ht1 hn1 hp3 R1 u1))
                go_roundw
                case rel => exact ⟨k + 1, by omega, by go_num, HS.out.cast HFS.out.symm rfl⟩
                case measure => simp [intOf]; omega
              · have hkN : k = n := by omega
                have d3 : decide (k < n) = false := decide_eq_false hlt
                have d4 : decide ((k : Int) < (n : Int)) = false := decide_eq_false (by omega)
                have hTK : js.take k = js := List.take_of_length_le (by rw [HN.out]; omega)
                rw [hTK] at HS
                have hfl : (js.flatMap (fun x => cntV (codeW m.L x))).length ≤ 36000 := by
                  have h1 := flat_len (f := fun x => cntV (codeW m.L x)) (b := 9) js hwl
                  rw [HN.out] at h1
                  omega
                obtain ⟨zt, hzt⟩ : ∃ zt, zr ++ js.flatMap (fun x => cntV (codeW m.L x)) = zt := ⟨_, rfl⟩
                have hztl : zt.length ≤ 306744511 := by rw [← hzt, List.length_append]; omega
                rw [hzt] at HS
                have HBD : Hid (bodyB m js = zt) := Lib.hid (by
                  unfold bodyB
                  rw [HNL.out, HN.out, HMK'.out, HZP.out, HZQ.out, HZR.out]; exact hzt)
                clear hTK hfl hzt hkN hlt hk hwl
                obtain ⟨R1, u1, hw1, ht1, hn1⟩ := HS.out
                have HW1 := Lib.hid hw1
                have HT1 := Lib.hid ht1
                have HN1 := Lib.hid hn1
                have q3 := hw1.c3
                have q2 := hw1.c2
                have HBF : Hid (Below w.heap.size w wr) := Lib.hid (HBW7.out.trans (ht1.below (B := w.heap.size) (fun k q => by have := HLT.out; omega) (by have := HSZ7.out; have := HLT.out; omega)))
                --<e
                cases hod : od
                · have HV : Hid (writeV m js = (sealV zt, 0)) := Lib.hid (by
                    unfold writeV
                    rw [if_pos ⟨by rw [HN.out]; omega, HMY.out, any_no.2 (by rw [HOD.out, hod])⟩, HBD.out])
                  subst hod
                  have hIB : IsB zt := by rw [← HBD.out]; exact body_isB HSN.out js
                  obtain ⟨A1, k1, hu1, hk1, hk1m, hk10, hby⟩ := hw1.own.bytes
                  have HOW : Hid (BInts wr w.heap.size u1 zt) := Lib.hid (hw1.own.base (fun k hk => (hn1 k (hw1.inR.2 k hk)).elim (fun q => by have := HLT.out; omega) (fun q => by have := HSZ7.out; have := HLT.out; omega)))
                  rw [hu1] at q2 HOW
                  have HBY := Lib.hid hby
                  have HIB := Lib.hid hIB
                  obtain ⟨zl, hzl⟩ : ∃ zl, zt.length = zl := ⟨_, rfl⟩
                  rw [hzl] at q2 HOW hztl hk1
                  have HZL := Lib.hid hzl
                  have hsum := sum_any (c := k1) hby hIB (by rw [hzl]; omega)
                  obtain ⟨sm, hsm⟩ : ∃ sm, sumV zt = sm := ⟨_, rfl⟩
                  have hsb := sum_bd zt
                  rw [hsm] at hsum hsb
                  rw [hzl] at hsum
                  have HSU := Lib.hid hsum
                  have HSM := Lib.hid hsm
                  clear hw1 ht1 hn1 hu1 hby hIB hzl hsum hsm hk10
                  have HTL : Hid (sealV zt = zt ++ [sm % 256, sm / 256 % 256, sm / 65536 % 256, sm / 16777216]) := Lib.hid (by
                    unfold sealV tailV
                    rw [HSM.out, show sm / 16777216 % 256 = sm / 16777216 by omega])
                  go_wp2_with (first | (go_at_call 41; (with_reducible refine HSU.out.mono ?_); rintro e w10 ⟨rfl, hb10⟩; have HB10 := Lib.hid hb10; have HOW10 := Lib.hid (HOW.out.below hb10); have q4 : w10.cell? ⟨wb, 2, none⟩ = some (.slice A1 zl k1) := (hb10.cell (p := ⟨wb, 2, none⟩) HW1.out.blt).trans q2; have HBF10 : Hid (Below w.heap.size w w10) := Lib.hid (HBF.out.trans (hb10.mono HBF.out.size)); clear hb10) | (at_builtin; refine wpList_bytes rfl _ _ rfl w.heap.size _ zt rfl (HOW10.out.below ((Below.refl w10.heap.size w10).alloc (Nat.le_refl _) _)) (A := some ⟨w10.heap.size, 0, none⟩) (m := 4) (c := 4) (ns := [sm % 256, sm / 256 % 256, sm / 65536 % 256, sm / 16777216]) rfl nocap rfl (lit4_u8 w10 _ _ _ _) (by rw [HZL.out]; omega) (Nat.le_trans HBF10.out.size (by simp)) ?_; intro v11 w11 hi11 hg11 ha11; have HI11 := Lib.hid hi11; have HB11 : Hid (Below w.heap.size w w11) := Lib.hid (below_grownB (HBF10.out.alloc HBF10.out.size _) hg11 (fun k hk => (HOW10.out.lt k hk).1) (Nat.le_refl _)); clear hi11 hg11 ha11))
                  go_returns
                  try unfold WriteP
                  rw [HV.out]
                  exact ⟨_, rfl, by rw [HTL.out]; exact HI11.out, HB11.out⟩
                · have HV : Hid (writeV m js = ([], 1)) := Lib.hid (by
                    unfold writeV
                    rw [if_neg (fun q => by have h1 := any_no.1 q.2.2; rw [HOD.out, hod] at h1; cases h1)])
                  subst hod
                  clear hw1 ht1 hn1
                  go_wp2_with fail
                  go_returns
                  try unfold WriteP
                  rw [HV.out]
                  exact ⟨_, rfl, BInts.nil _ _, HBF.out⟩
  · have HANY := Lib.hid hany
    have HV : Hid (writeV m js = ([], 1)) := Lib.hid (by
      obtain ⟨x, hx, hm⟩ := List.any_eq_true.1 hany
      unfold writeV
      rw [if_neg (fun q => by rw [q.2.1 x hx] at hm; cases hm)])
    clear hany
    go_enter Try.func13, Try.ntmps13
    go_wp2_with fail
    rw [← hW1]
    clear hW1
    go_wp2_with (first | (go_at_call 33; (with_reducible refine HCT.out.mono ?_); rw [HANY.out]; rintro e w2 ⟨rfl, n2, rfl⟩))
    go_returns
    try unfold WriteP
    rw [HV.out]
    exact ⟨_, rfl, BInts.nil _ _, below_drewN HB1.out n2⟩
end Go.Proofs.Ytfinpgkehjbcpaa
