/- Chapter 02: the contract of Keep. -/
import Derived.Test.YthjjanjmiinpbaaHK3
namespace Go.Proofs.Ythjjanjmiinpbaa
open Go.ChangeShapes Go.WideShapes Go.ChangeAt Go.RowKit Go.Deep Go.Joins Go.Maps
set_option linter.unusedVariables false
set_option linter.unusedSimpArgs false

/-- the loop that looks at what is to be kept -/
def KeepL (w : World) (pt bt : Obj) (l : List Int) (k : Nat) (wr : World) : Prop := Below w.heap.size w wr ∧ wr.heap[w.heap.size]? = some pt ∧ wr.heap[w.heap.size + 1 + 1]? = some bt ∧ BoolMap wr (w.heap.size + 1) k (fun a => (l.take k).contains a)
def KeepPost (s bw bm : Nat) (m : Hp) (l : List Int) (w : World) (e : Ending) (w' : World) : Prop := ∃ v, e = .returned (.tuple #[v, .int .i64 (keepV m l).2.2]) ∧ Ints w' w.heap.size v (keepV m l).2.1 ∧ ∃ bm', PM w' s bw bm' (keepV m l).1 ∧ (bm' = bm ∨ w.heap.size ≤ bm') ∧ Turns (gone s bw) w w'
theorem keep_no {w w' : World} {s bw bm : Nat} {m : Hp} {l : List Int} (hv : keepV m l = (m, [], 1)) (h : PM w' s bw bm m) (ht : Turns (gone s bw) w w') : KeepPost s bw bm m l w (.returned (.tuple #[.slice none 0 0, .int .i64 1])) w' := by
  unfold KeepPost
  rw [hv]
  exact ⟨_, rfl, World.ownsRow_nil _ _ _ _, bm, h, .inl rfl, ht⟩
theorem all_take_no {l : List Int} {P : Int → Bool} {k : Nat} (hk : k < l.length) (h : P l[k] = false) : l.all P = false := by
  rw [List.all_eq_false]; exact ⟨l[k], List.getElem_mem hk, by rw [h]; simp⟩
theorem all_take_succ {l : List Int} {P : Int → Bool} {k : Nat} (hk : k < l.length) (h : P l[k] = true) (ha : (l.take k).all P = true) : (l.take (k + 1)).all P = true := by
  rw [List.take_succ_eq_append_getElem hk, List.all_append, ha]; simp [h]
theorem contains_take {l : List Int} {k : Nat} (hk : k < l.length) (a : Int) : (l.take (k + 1)).contains a = if a = l[k] then true else (l.take k).contains a := by
  have hm : a ∈ l.take (k + 1) ↔ a ∈ l.take k ∨ a = l[k] := by rw [List.take_succ_eq_append_getElem hk, List.mem_append, List.mem_singleton]
  by_cases e : a = l[k]
  · rw [if_pos e]; exact List.contains_iff_mem.2 (hm.2 (.inr e))
  · rw [if_neg e, Bool.eq_iff_iff, List.contains_iff_mem, List.contains_iff_mem, hm]; simp [e]
theorem Nums.turnsLt {w w' : World} {A : Option Addr} {l : List Int} {T : Nat → Prop} (h : Nums w A l) (ht : Turns T w w') (hd : 0 < l.length → ∀ b off, A = some ⟨b, off, none⟩ → b < w.heap.size → ¬ T b) : Nums w' A l := fun k hk => by
  obtain ⟨b, off, e, hlt, hc⟩ := h k hk
  exact ⟨b, off, e, Nat.lt_of_lt_of_le hlt ht.size, ht.cell hc (hd (by omega) b off e hlt)⟩
theorem Nums.lt0 {w : World} {A : Option Addr} {l : List Int} (h : Nums w A l) (hl : 0 < l.length) : ∀ b off, A = some ⟨b, off, none⟩ → b < w.heap.size := fun b off e => by
  obtain ⟨b', off', e', hlt, _⟩ := h 0 hl
  rw [e] at e'; cases e'; exact hlt

set_option maxRecDepth 100000 in
set_option maxHeartbeats 16000000 in
theorem keep_any {w : World} {s bw bm : Nat} {m : Hp} (h : PM w s bw bm m) {A : Option Addr} {l : List Int} {c : Nat} (hA : Nums w A l) (hlI : ∀ x, x ∈ l → InI x) (hln : l.length ≤ 1000000) (hd : ∀ b off, A = some ⟨b, off, none⟩ → b ≠ s ∧ b ≠ bw) :
    Calls Try.prog 36 #[.pointer (some ⟨s, 0, none⟩), .slice A l.length c] w (KeepPost s bw bm m l w) := by
  obtain ⟨i0, hi, hz0, hz1, hz2⟩ := info_parts infoI
  have H := Lib.hid h
  have HA := Lib.hid hA
  have HLI := Lib.hid hlI
  have HD := Lib.hid hd
  obtain ⟨n, hn⟩ : ∃ n, l.length = n := ⟨_, rfl⟩
  have HN := Lib.hid hn
  rw [hn] at hln ⊢
  have hmm := @run_makeMap Try.prog
  clear h hA hlI hd hn
  go_enter Try.func36, Try.ntmps36
  go_upto_region 2 with fail
  obtain ⟨w5, hw5⟩ : ∃ w5, (((w.alloc (.cells #[.pointer (some ⟨s, 0, none⟩)] 24)).alloc (.map #[] 0)).alloc (.cells #[.map (some (w.heap.size + 1))] 61)) = w5 := ⟨_, rfl⟩
  have hb5 : Below w.heap.size w w5 := by rw [← hw5]; exact (((Below.refl _ _).alloc (Nat.le_refl _) _).alloc (by simp) _).alloc (by simp; omega) _
  have hx1 : (w.alloc (.cells #[.pointer (some ⟨s, 0, none⟩)] 24)).heap.size = w.heap.size + 1 := by simp
  have hx2 : ((w.alloc (.cells #[.pointer (some ⟨s, 0, none⟩)] 24)).alloc (.map #[] 0)).heap.size = w.heap.size + 1 + 1 := by simp
  have hmb5 : w5.heap[w.heap.size]? = some (.cells #[.pointer (some ⟨s, 0, none⟩)] 24 (0, 0)) := by
    rw [← hw5, Below.heap_alloc _ _ _ (by rw [hx2]; omega), Below.heap_alloc _ _ _ (by rw [hx1]; omega)]
    exact heap_alloc_new w _
  have htb5 : w5.heap[w.heap.size + 1 + 1]? = some (.cells #[.map (some (w.heap.size + 1))] 61 (0, 0)) := by
    rw [← hw5, ← hx2]; exact heap_alloc_new _ _
  have hmp5 : BoolMap w5 (w.heap.size + 1) 0 (fun _ => false) := by
    have := BoolMap.made (w.alloc (.cells #[.pointer (some ⟨s, 0, none⟩)] 24))
    rw [hx1] at this
    refine this.same ?_
    rw [← hw5, Below.heap_alloc _ _ _ (by rw [hx2]; omega)]
  rw [hw5]
  have HST : Hid (KeepL w (.cells #[.pointer (some ⟨s, 0, none⟩)] 24 (0, 0)) (.cells #[.map (some (w.heap.size + 1))] 61 (0, 0)) l 0 w5) := ⟨hb5, hmb5, htb5, hmp5.congr (fun a => rfl)⟩
  have HMM := Lib.hid hmm
  clear hmm hw5 hb5 hx1 hx2 hmb5 htb5 hmp5
  go_wp2_with fail
  go_loopw [18] (fun i wr => ∃ k : Nat, k ≤ n ∧ i = .int .i64 k ∧ distinct (l.take k) = true ∧ (l.take k).all (isV m.L) = true ∧ KeepL w (.cells #[.pointer (some ⟨s, 0, none⟩)] 24 (0, 0)) (.cells #[.map (some (w.heap.size + 1))] 61 (0, 0)) l k wr) (fun i _ => n - (intOf i).toNat)
  case atStart => exact ⟨0, Nat.zero_le _, rfl, rfl, rfl, HST.out⟩
  case round =>
    clear HST
    obtain ⟨k, hk, rfl, hdis, hall, hbw, hmb, htb, hmp⟩ := hrel
    have HDIS := Lib.hid hdis
    have HALL := Lib.hid hall
    have HBW := Lib.hid hbw
    have HMB := Lib.hid hmb
    have HTB := Lib.hid htb
    have HMP := Lib.hid hmp
    have ct : wr.cell? ⟨w.heap.size + 1 + 1, 0, none⟩ = some (.map (some (w.heap.size + 1))) := by simp [World.cell?, htb]
    have cm : wr.cell? ⟨w.heap.size, 0, none⟩ = some (.pointer (some ⟨s, 0, none⟩)) := by simp [World.cell?, hmb]
    have CM := Lib.hid cm
    have CT := Lib.hid ct
    clear hdis hall hbw hmb htb hmp
    by_cases hlt : k < n
    · have d0 : decide (k < n) = true := decide_eq_true hlt
      have hkl : k < l.length := by rw [HN.out]; exact hlt
      obtain ⟨ga, offa, rfl, hgl, hca⟩ := (HA.out.below HBW.out) k hkl
      obtain ⟨x, hx⟩ : ∃ x, l[k] = x := ⟨_, rfl⟩
      have hxI : InI x := by rw [← hx]; exact HLI.out _ (List.getElem_mem hkl)
      have HX := Lib.hid hx
      rw [hx] at hca
      have g0 : (0 : Int) ≤ (k : Int) := by omega
      have g1 : (k : Int) < (n : Int) := by omega
      have his := is_any (H.out.below HBW.out) x
      cases hv : isV m.L x
      · rw [hv] at his
        have HIS := Lib.hid his
        have HV : Hid (keepV m l = (m, [], 1)) := by
          show _ = _
          unfold keepV keepOk
          rw [all_take_no hkl (by rw [hx]; exact hv)]; rfl
        clear his hv hx
        --<a
        go_wp2_with (go_at_call 19; (with_reducible refine HIS.out.mono ?_); rintro e w6 ⟨rfl, n6, rfl⟩)
        go_returns
        exact keep_no HV.out ((H.out.below HBW.out).drewN _) ((Turns.of_below HBW.out).drewN _)
        -->a
      · rw [hv] at his
        have HIS := Lib.hid his
        have HVX := Lib.hid hv
        by_cases hin : x ∈ l.take k
        · have hlk : ∀ d, (Instr.lookup 61 (.map (some (w.heap.size + 1))) (.int .i64 x) false).run Try.prog (wr.drewN d) = .ok (.bool true) (wr.drewN d) := fun d => by
            have := (show BoolMap (wr.drewN d) (w.heap.size + 1) k (fun a => (l.take k).contains a) from HMP.out.same rfl).look hxI
            rw [List.contains_iff_mem.2 hin] at this; exact this
          have HV : Hid (keepV m l = (m, [], 1)) := by
            show _ = _
            unfold keepV keepOk
            rw [distinct_take_no hkl (by rw [hx]; exact hin)]; simp
          clear his hv hx hin
          --<b
          go_wp2_with (go_at_call 19; (with_reducible refine HIS.out.mono ?_); rintro e w6 ⟨rfl, n6, rfl⟩)
          go_returns
          exact keep_no HV.out ((H.out.below HBW.out).drewN _) ((Turns.of_below HBW.out).drewN _)
          -->b
        · have hlk : ∀ d, (Instr.lookup 61 (.map (some (w.heap.size + 1))) (.int .i64 x) false).run Try.prog (wr.drewN d) = .ok (.bool false) (wr.drewN d) := fun d => by
            have := (show BoolMap (wr.drewN d) (w.heap.size + 1) k (fun a => (l.take k).contains a) from HMP.out.same rfl).look hxI
            rw [show (l.take k).contains x = false by simpa using hin] at this; exact this
          have HIN := Lib.hid hin
          have HXI := Lib.hid hxI
          have hkm : k < maxLen := by unfold maxLen; omega
          have HKM := Lib.hid hkm
          clear his hv hx hin hxI hkm
          --<c
          go_wp2_with (first | (go_at_call 19; (with_reducible refine HIS.out.mono ?_); rintro e w6 ⟨rfl, n6, rfl⟩) | (at_mapUpdate; refine wpList_putBool _ rfl _ _ _ rfl rfl (show BoolMap (World.drewN _ _) (w.heap.size + 1) k (fun a => (l.take k).contains a) from HMP.out.same rfl) HKM.out rfl rfl HXI.out ?_; intro w7 hm7 hg7))
          go_roundw
          case rel =>
            have hz := HBW.out.size
            have hlt1 := lt_of_block HMB.out
            have hlt2 := lt_of_block HTB.out
            refine ⟨k + 1, by omega, by go_num, distinct_take_succ hkl (by rw [HX.out]; exact HIN.out) HDIS.out, all_take_succ hkl (by rw [HX.out]; exact HVX.out) HALL.out, ?_, ?_, ?_, ?_⟩
            · exact ⟨hg7.os.trans HBW.out.os, hg7.tape.trans HBW.out.tape, hg7.output.trans HBW.out.output, Nat.le_trans hz hg7.size, fun j hj => (hg7.block j (Nat.lt_of_lt_of_le hj hz) (fun e => by cases e; omega)).trans (HBW.out.block j hj)⟩
            · exact (hg7.block w.heap.size hlt1 (fun e => by simp at e)).trans HMB.out
            · exact (hg7.block (w.heap.size + 1 + 1) hlt2 (fun e => by simp at e)).trans HTB.out
            · refine hm7.congr (fun a => ?_)
              rw [contains_take hkl, HX.out]
          case measure => simp [intOf]; omega
          -->c
    · have hkn : k = n := by omega
      have d0 : decide (k < n) = false := decide_eq_false hlt
      clear hlt
      subst hkn
      have hdis : distinct l = true := by have := HDIS.out; rw [← HN.out, List.take_length] at this; exact this
      have hall : l.all (isV m.L) = true := by have := HALL.out; rw [← HN.out, List.take_length] at this; exact this
      have hkm : BoolMap wr (w.heap.size + 1) k (fun a => l.contains a) := by have := HMP.out; rw [← HN.out, List.take_length, HN.out] at this; exact this
      have HKEEP : Hid (keepOk m.L l = true) := by show _ = _; unfold keepOk; rw [hdis, hall]; rfl
      have HKM := Lib.hid hkm
      have hmm := HMM.out
      clear hdis hall hkm
      --<d
      go_upto_region 11 with fail
      obtain ⟨B, hB⟩ : ∃ B, wr.heap.size = B := ⟨_, rfl⟩
      have HB := Lib.hid hB
      obtain ⟨w1, hw1⟩ : ∃ w1, wr.alloc (.map #[] 0) = w1 := ⟨_, rfl⟩
      obtain ⟨w2, hw2⟩ : ∃ w2, w1.alloc (.cells #[.map (some wr.heap.size)] 56) = w2 := ⟨_, rfl⟩
      obtain ⟨w3, hw3⟩ : ∃ w3, w2.alloc (.cells #[.int .i64 3] 3) = w3 := ⟨_, rfl⟩
      obtain ⟨w4, hw4⟩ : ∃ w4, w3.alloc (.cells #[.bool true] 4) = w4 := ⟨_, rfl⟩
      rw [hw1, hw2, hw3, hw4]
      have s1 : w1.heap.size = B + 1 := by rw [← hw1]; simp [hB]
      have s2 : w2.heap.size = B + 2 := by rw [← hw2]; simp [s1]
      have s3 : w3.heap.size = B + 3 := by rw [← hw3]; simp [s2]
      have b4 : ∀ k, k < w3.heap.size → w4.heap[k]? = w3.heap[k]? := fun k hk => by rw [← hw4]; exact Below.heap_alloc _ _ _ hk
      have b3 : ∀ k, k < w2.heap.size → w4.heap[k]? = w2.heap[k]? := fun k hk => by rw [b4 k (by omega), ← hw3]; exact Below.heap_alloc _ _ _ hk
      have b2 : ∀ k, k < w1.heap.size → w4.heap[k]? = w1.heap[k]? := fun k hk => by rw [b3 k (by omega), ← hw2]; exact Below.heap_alloc _ _ _ hk
      have hb4 : Below wr.heap.size wr w4 := by
        rw [← hw4, ← hw3, ← hw2, ← hw1]
        exact ((((Below.refl _ _).alloc (Nat.le_refl _) _).alloc (by simp) _).alloc (by simp; omega) _).alloc (by simp; omega) _
      have e1 : IntMap w4 B 0 (fun _ => 0) := by
        have := IntMap.made wr
        rw [hw1, hB] at this
        exact this.same (b2 _ (by omega))
      have e2 : w4.heap[B + 1]? = some (.cells #[.map (some B)] 56 (0, 0)) := by rw [b3 _ (by omega), ← hw2, ← s1, hB]; exact heap_alloc_new _ _
      have e3 : w4.heap[B + 2]? = some (.cells #[.int .i64 3] 3 (0, 0)) := by rw [b4 _ (by omega), ← hw3, ← s2]; exact heap_alloc_new _ _
      have e4 : w4.heap[B + 3]? = some (.cells #[.bool true] 4 (0, 0)) := by rw [← hw4, ← s3]; exact heap_alloc_new _ _
      clear hw1 hw2 hw3 hw4 s1 s2 s3 b4 b3 b2
      subst hB
      have hPr := H.out.below HBW.out
      have hP4 := hPr.below hb4
      obtain ⟨q1, q2, q3⟩ := hP4.ne
      have zs := HBW.out.size
      have ls : s < w.heap.size := H.out.lt s (.inl rfl)
      have lw : bw < w.heap.size := H.out.lt bw (.inr (.inl rfl))
      have lm : bm < w.heap.size := H.out.lt bm (.inr (.inr rfl))
      have zm := lt_of_block HMB.out
      have zt := lt_of_block HTB.out
      have zk : w.heap.size + 1 < wr.heap.size := HKM.out.lt
      have ck4 : w4.cell? ⟨w.heap.size + 1 + 1, 0, none⟩ = some (.map (some (w.heap.size + 1))) := (hb4.cell (p := ⟨w.heap.size + 1 + 1, 0, none⟩) zt).trans CT.out
      have cm4 : w4.cell? ⟨w.heap.size, 0, none⟩ = some (.pointer (some ⟨s, 0, none⟩)) := (hb4.cell (p := ⟨w.heap.size, 0, none⟩) zm).trans CM.out
      have ct4 : w4.cell? ⟨wr.heap.size + 1, 0, none⟩ = some (.map (some wr.heap.size)) := by simp [World.cell?, e2]
      have hk4 : BoolMap w4 (w.heap.size + 1) k (fun a => l.contains a) := HKM.out.same (hb4.block _ zk)
      have nk : ∀ b, b < wr.heap.size → ¬ kset (wr.heap.size + 1 + 1 + 1) (wr.heap.size + 1 + 1) wr.heap.size b := fun b hb q => by rcases q with q | q | q <;> omega
      have nt : ¬ kset (wr.heap.size + 1 + 1 + 1) (wr.heap.size + 1 + 1) wr.heap.size (wr.heap.size + 1) := fun q => by rcases q with q | q | q <;> omega
      have hpmk : ∀ k w', KeepP (wr.heap.size + 1 + 1 + 1) (wr.heap.size + 1 + 1) wr.heap.size m.L l w4 k w' → PM w' s bw bm m := fun k w' hp => hP4.turns hp.2.2.2 (fun j hj => nk j (Nat.lt_of_lt_of_le (H.out.lt j hj) zs))
      have hcall := each_keep (w := w4) (s := s) (bw := bw) (sz := m.size) (n := m.L.length) (c0 := .pointer (some ⟨w.heap.size + 1 + 1, 0, none⟩)) (c1 := .pointer (some ⟨w.heap.size, 0, none⟩)) (c2 := .pointer (some ⟨wr.heap.size + 1 + 1 + 1, 0, none⟩)) (c3 := .pointer (some ⟨wr.heap.size + 1 + 1, 0, none⟩)) (c4 := .pointer (some ⟨wr.heap.size + 1, 0, none⟩)) (A := adr m.L) (NF := nfA m.L) (fun k w' => KeepP (wr.heap.size + 1 + 1 + 1) (wr.heap.size + 1 + 1) wr.heap.size m.L l w4 k w')
        ⟨by rw [e4]; simp [fitsTo, keptTo_zero], by rw [e3]; simp [keptTo_zero, szs], e1.congr (fun a => (toK_zero _ _ a).symm), Turns.refl _ _⟩ (each_zero _) (each_succ _) (each_mono _) (each_size hP4.good)
        (fun k w' hk hp => (hpmk k w' hp).c1) (fun k w' hk hp => each_head (hpmk k w' hp) hk)
        (fun k w' hk hp => by
          obtain ⟨p1, p2, p3, p4⟩ := hp
          refine (keep1_any (kb := w.heap.size + 1 + 1) (mb := w.heap.size) (fb := wr.heap.size + 1 + 1 + 1) (eb := wr.heap.size + 1 + 1) (tb := wr.heap.size + 1) (km := w.heap.size + 1) (tm := wr.heap.size) (hpmk k w' ⟨p1, p2, p3, p4⟩) hk (p4.cell ck4 (nk _ zt)) (hk4.same (p4.block _ hk4.lt (nk _ zk))) (p4.cell cm4 (nk _ zm)) (p4.cell ct4 nt) p1 p2 p3 (by omega) (by omega) (by omega) (by omega) (by omega) (by omega) (by omega) (by omega) (by omega) (by omega) (by omega) (by omega)).mono ?_
          rintro e w2 ⟨rfl, r1, r2, r3, r4⟩
          exact ⟨rfl, r1, r2, r3, p4.trans r4⟩)
      have HC := Lib.hid hcall
      have HP4 := Lib.hid hP4
      have HPMK := Lib.hid hpmk
      have HB4 := Lib.hid hb4
      have NK := Lib.hid nk
      have NT := Lib.hid nt
      have CT4 := Lib.hid ct4
      clear hcall hP4 hPr hpmk hb4 nk nt ck4 e1 e2 e3 e4 hk4 hmm ct4
      cases hft : fitsTo m.L l m.L.length
      · have HFT := Lib.hid hft
        have HV : Hid (keepV m l = (m, [], 1)) := by show _ = _; unfold keepV; rw [hft, Bool.and_false]; rfl
        clear hft
        go_wp2_with (go_at_call 43; (with_reducible refine HC.out.mono ?_); rintro e w6 ⟨rfl, p1, p2, p3, p4⟩; have cf : w6.cell? ⟨wr.heap.size + 1 + 1 + 1, 0, none⟩ = some (.bool false) := by { rw [HFT.out] at p1; simp [World.cell?, p1] }; have P1 := Lib.hid p1; have P2 := Lib.hid p2; have P3 := Lib.hid p3; have P4 := Lib.hid p4; clear p1 p2 p3 p4)
        go_returns
        exact keep_no HV.out (HPMK.out _ _ ⟨P1.out, P2.out, P3.out, P4.out⟩) (((Turns.of_below HBW.out).trans ((Turns.of_below HB4.out).trans P4.out)).mono (fun j hj q => absurd q (NK.out j (Nat.lt_of_lt_of_le hj zs))))
      · have HFT := Lib.hid hft
        have HV : Hid (keepV m l = (keptM m l, l.map (toV m.L l), 0)) := by show _ = _; unfold keepV; rw [hft, HKEEP.out]; rfl
        clear hft
        obtain ⟨W0, hW0⟩ : ∃ W0, W0 = wr := ⟨_, rfl⟩
        subst hW0
        go_upto_region 16 with (first | (go_at_call 43; (with_reducible refine HC.out.mono ?_); rintro e w6 ⟨rfl, p1, p2, p3, p4⟩; have cf : w6.cell? ⟨W0.heap.size + 1 + 1 + 1, 0, none⟩ = some (.bool true) := by { rw [HFT.out] at p1; simp [World.cell?, p1] }; have hc6 := p4.cell CT4.out NT.out; have P1 := Lib.hid p1; have P2 := Lib.hid p2; have P3 := Lib.hid p3; have P4 := Lib.hid p4; have HPM6 := Lib.hid (HPMK.out _ _ ⟨P1.out, P2.out, P3.out, P4.out⟩); have HMP6 := Lib.hid (P3.out.congr (fun a => toK_end _ _ a)); have cm6 := p4.cell ((HB4.out.cell (p := ⟨w.heap.size, 0, none⟩) zm).trans CM.out) (NK.out _ zm); clear p1 p2 p3 p4) | (go_at_call 61; (with_reducible refine (move_any HPM6.out HMP6.out).mono ?_); rintro e w7 ⟨rfl, pm, r1, r2, r3⟩))
        have hc7 := r3.cell hc6 (fun q => by rcases q with q | q <;> omega)
        have hm7 : IntMap w7 W0.heap.size m.L.length (toV m.L l) := (P3.out.same (r3.block _ P3.out.lt (fun q => by rcases q with q | q <;> omega))).congr (fun a => toK_end _ _ a)
        have hA7 : Nums w7 A l := ((((HA.out.below HBW.out).below HB4.out).turnsLt P4.out (fun hl b off e hb q => NK.out b (Nat.lt_of_lt_of_le (HA.out.lt0 hl b off e) zs) q)).turns r3 (fun b off e q => by have := HD.out b off e; rcases q with q | q <;> omega))
        have ht7 : Turns (gone s bw) w w7 := (((Turns.of_below HBW.out).trans ((Turns.of_below HB4.out).trans P4.out)).mono (T := gone s bw) (fun j hj q => absurd q (NK.out j (Nat.lt_of_lt_of_le hj zs)))).trans r3
        have hz7 : w.heap.size ≤ w7.heap.size := ht7.size
        have hpm7 : w.heap.size ≤ pm := Nat.le_trans (Nat.le_trans zs (Nat.le_trans HB4.out.size P4.out.size)) r2
        have HC7 := Lib.hid hc7
        have HM7 := Lib.hid hm7
        have HA7 := Lib.hid hA7
        have HT7 := Lib.hid ht7
        have HR1 := Lib.hid r1
        clear hc7 hm7 hA7 ht7 r1 r2 r3 cf hc6 cm6 P1 P2 P3 P4 HC HPMK
        go_wp2_with fail
        go_loopw [12, 45] (fun v i wr => ∃ j : Nat, j ≤ k ∧ i = .int .i64 j ∧ wr.ownsRow w7.heap.size 3 1 v j (((l.take j).map (toV m.L l)).map (Value.int .i64)) ∧ Below w7.heap.size w7 wr) (fun _ i _ => k - (intOf i).toNat)
        case atStart => exact ⟨0, Nat.zero_le _, rfl, World.ownsRow_nil _ _ _ _, Below.refl _ _⟩
        case round =>
          obtain ⟨j, hj, rfl, hown, hbw7⟩ := hrel
          have HB7 := Lib.hid hbw7
          have HOWN := Lib.hid hown
          have ct := (HB7.out.cell (p := ⟨W0.heap.size + 1, 0, none⟩) (cell_lt HC7.out)).trans HC7.out
          have hws := HB7.out.size
          clear hown hbw7
          by_cases hlt : j < k
          · have d0 : decide (j < k) = true := decide_eq_true hlt
            have hjl : j < l.length := by rw [HN.out]; exact hlt
            obtain ⟨ga, offa, rfl, hgl, hca⟩ := (HA7.out.below HB7.out) j hjl
            obtain ⟨x, hx⟩ : ∃ x, l[j] = x := ⟨_, rfl⟩
            have hxI : InI x := by rw [← hx]; exact HLI.out _ (List.getElem_mem hjl)
            have HX := Lib.hid hx
            rw [hx] at hca
            obtain ⟨y, hy⟩ : ∃ y, toV m.L l x = y := ⟨_, rfl⟩
            have HY := Lib.hid hy
            have hlk := (HM7.out.same (HB7.out.block _ HM7.out.lt)).look hxI
            rw [hy] at hlk
            have g0 : (0 : Int) ≤ (j : Int) := by omega
            have g1 : (j : Int) < (k : Int) := by omega
            clear hx hy hxI
            go_wp2_with (at_builtin; refine wpList_append_own _ rfl _ _ 23 rfl w7.heap.size 3 i0 (.int .i64 0) 1 8 Try.underlying23 hi hz0 hz1 hz2 rfl (by decide) _ _ _ rfl (HOWN.out.alloc _) ⟨wr.heap.size, 0, none⟩ 1 1 [.int .i64 y] rfl rfl (cells_newN _ _ _ _ (by simp)) (by simp [Value.oneCell']) (by unfold maxLen; omega) (by omega) (by simp only [World.size_alloc]; omega) ?_; intro v2 w2 hown3 hg2 _)
            go_roundw
            case rel =>
              have hb2 := below_of_append (HOWN.out.alloc (.cells #[.int .i64 y] 3)) hg2 (by simp only [World.size_alloc]; omega)
              refine ⟨j + 1, hlt, by go_num, ?_, ((HB7.out.alloc hws _).trans hb2)⟩
              rw [List.take_succ_eq_append_getElem hjl, List.map_append, List.map_append]
              simp only [List.map_cons, List.map_nil]
              rw [HX.out, HY.out]
              exact hown3
            case measure => simp [intOf]; omega
          · have hkn : j = k := by omega
            have d0 : decide (j < k) = false := decide_eq_false hlt
            clear hlt
            subst hkn
            go_wp2_with fail
            go_returns
            unfold KeepPost
            rw [HV.out]
            refine ⟨_, rfl, ?_, pm, HR1.out.below HB7.out, .inr hpm7, HT7.out.trans (Turns.of_below HB7.out)⟩
            have := HOWN.out
            rw [← HN.out, List.take_length] at this
            unfold Ints
            rw [List.length_map]
            exact ownsRow_mono this hz7
      -->d
end Go.Proofs.Ythjjanjmiinpbaa
