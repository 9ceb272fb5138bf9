/- Chapter 02: the contract of move. -/
import Derived.Test.YthjjanjmiinpbaaHK2
import Derived.BigRegion
namespace Go.Proofs.Ythjjanjmiinpbaa
open Go.ChangeShapes Go.WideShapes Go.ChangeAt Go.RowKit Go.Deep Go.Joins Go.Maps
set_option linter.unusedVariables false
set_option linter.unusedSimpArgs false

theorem plK_iff {L : List Ob} {l : List Int} : ∀ k, k ≤ L.length → ∀ a : Int, plK L l k a = true ↔ ∃ j, j < (keptTo L l k).length ∧ (adr (keptTo L l k) j : Int) = a
  | 0, _, a => by simp [plK, keptTo_zero]
  | k + 1, hk, a => by
    have ih := plK_iff (L := L) (l := l) k (Nat.le_of_succ_le hk) a
    cases hy : kp L l k
    · rw [plK_no hy, ih, keptTo_succ (show k < L.length by omega), hy]; simp
    · rw [plK_yes hy, keptTo_succ (show k < L.length by omega), hy, if_pos rfl]
      have hl : (keptTo L l k ++ [L[k]]).length = (keptTo L l k).length + 1 := by simp
      by_cases e : a = ((3 + szs (keptTo L l k) : Nat) : Int)
      · rw [if_pos e]
        exact ⟨fun _ => ⟨(keptTo L l k).length, by omega, by rw [adr_app _ _ _ (Nat.le_refl _), adr_end]; exact e.symm⟩, fun _ => rfl⟩
      · rw [if_neg e, ih]
        constructor
        · rintro ⟨j, h1, h2⟩
          exact ⟨j, by omega, by rw [adr_app _ _ _ (by omega)]; exact h2⟩
        · rintro ⟨j, h1, h2⟩
          rcases Nat.lt_or_ge j (keptTo L l k).length with q | q
          · exact ⟨j, q, by rw [adr_app _ _ _ (by omega)] at h2; exact h2⟩
          · obtain rfl : j = (keptTo L l k).length := by omega
            rw [adr_app _ _ _ (Nat.le_refl _), adr_end] at h2
            exact absurd h2.symm e
theorem toV_InI {m : Hp} (h : Good m) (l : List Int) (x : Int) : InI (toV m.L l x) := by
  unfold toV
  cases hp : plc m.L x with
  | none => dsimp only; unfold InI; omega
  | some i =>
    dsimp only
    split
    · have h1 := keptTo_szs m.L l i (Nat.le_of_lt (plc_some hp).1)
      have h2 := adr_bd h i
      unfold toAt InI; omega
    · unfold InI; omega
theorem sgm_InI {m : Hp} (h : Good m) (l : List Int) {x : Int} (hx : InI x) : InI (sgm m.L l x) := by
  unfold sgm; split
  · exact toV_InI h l x
  · exact hx
def keptM (m : Hp) (l : List Int) : Hp := { m with L := (keptTo m.L l m.L.length).map (turnO (sgm m.L l)) }
theorem keptM_good {m : Hp} (h : Good m) (l : List Int) : Good (keptM m l) := by
  have hs := keptTo_szs m.L l m.L.length (Nat.le_refl _)
  rw [adr_end] at hs
  have hf := h.fits
  refine ⟨h.lo, h.hi, h.made, by show 3 + szs ((keptTo m.L l m.L.length).map (turnO (sgm m.L l))) ≤ m.size; rw [szs_map_turn]; omega, fun o ho => ?_, fun o ho => ?_, fun o ho => ?_⟩ <;> obtain ⟨o', ho', rfl⟩ := List.mem_map.1 ho <;> obtain ⟨i, hi, _, _, rfl⟩ := keptTo_mem (Nat.le_refl _) ho'
  · show 0 ≤ m.L[i].fmt ∧ m.L[i].fmt ≤ 2
    exact h.fmt _ (List.getElem_mem hi)
  · rw [turnO_len]; exact h.len _ (List.getElem_mem hi)
  · have hw := h.word _ (List.getElem_mem hi)
    refine ⟨sgm_InI h l hw.1, hw.2.1, fun x hx => ?_⟩
    unfold turnO at hx
    dsimp only at hx
    split at hx
    · obtain ⟨y, hy, rfl⟩ := List.mem_map.1 hx
      exact sgm_InI h l (hw.2.2 y hy)
    · exact hw.2.2 x hx
theorem PM.kept {w w' : World} {s bw bm pm : Nat} {m : Hp} {l : List Int} (h : PM w s bw bm m) {ys : List Int} (hrow : w'.heap[bw]? = some (.cells ((ys).map (Value.int .i64)).toArray 3 (0, 0))) (hlen : ys.length = m.size) (hw : Words (keptM m l).L ys)
    (hbox : w'.heap[s]? = some (.cells #[.slice (some ⟨bw, 0, none⟩) m.size m.size, .int .i64 ((3 + szs (keptTo m.L l m.L.length) : Nat) : Int), .int .i64 (m.made : Int), .map (some pm)] 68 (0, 0)))
    (hmap : BoolMap w' pm (keptTo m.L l m.L.length).length (plK m.L l m.L.length)) : PM w' s bw pm (keptM m l) := by
  have hla : (keptM m l).L.map (fun o => o.F.length) = (keptTo m.L l m.L.length).map (fun o => o.F.length) := turned_lens _ _
  have hll : (keptM m l).L.length = (keptTo m.L l m.L.length).length := by unfold keptM; simp
  refine ⟨keptM_good h.good l, ?_, ⟨ys, hlen, hw, hrow⟩, _, _, by rw [hll]; exact Nat.le_refl _, hmap, fun a ha => ?_⟩
  · rw [hbox]
    show some (Obj.cells #[_, .int .i64 ((3 + szs (keptTo m.L l m.L.length) : Nat) : Int), _, _] _ _) = some (Obj.cells #[_, .int .i64 (adr (keptM m l).L (keptM m l).L.length : Int), _, _] _ _)
    rw [adr_congr hla, hll, adr_end]; rfl
  · rw [plK_iff _ (Nat.le_refl _), hll]
    simp only [adr_congr hla]
def gone (s bw : Nat) (b : Nat) : Prop := b = s ∨ b = bw
def MovePost (s bw : Nat) (m : Hp) (l : List Int) (w : World) (e : Ending) (w' : World) : Prop := e = .returned (.tuple #[]) ∧ ∃ pm, PM w' s bw pm (keptM m l) ∧ w.heap.size ≤ pm ∧ Turns (gone s bw) w w'

set_option maxRecDepth 100000 in
set_option maxHeartbeats 16000000 in
theorem move_any {w : World} {s bw bm : Nat} {m : Hp} (h : PM w s bw bm m) {tm nt : Nat} {l : List Int} (hmap : IntMap w tm nt (toV m.L l)) : Calls Try.prog 61 #[.pointer (some ⟨s, 0, none⟩), .map (some tm)] w (MovePost s bw m l w) := by
  obtain ⟨n1, n2, n3⟩ := h.ne
  have ls := h.lt s (.inl rfl)
  have lw := h.lt bw (.inr (.inl rfl))
  have lm := hmap.lt
  have htb : tm ≠ s ∧ tm ≠ bw := by
    obtain ⟨D, ⟨es, ck, e, _⟩, _⟩ := hmap
    obtain ⟨ys, _, _, e2⟩ := h.row
    exact ⟨fun q => by rw [q, h.box] at e; simp at e, fun q => by rw [q, e2] at e; simp at e⟩
  obtain ⟨w5, hw5⟩ : ∃ w5, ((((w.alloc (.cells #[.pointer (some ⟨s, 0, none⟩)] 24)).alloc (.cells #[.map (some tm)] 56)).alloc (.map #[] 0)).alloc (.cells #[.map (some (w.heap.size + 1 + 1))] 61)).alloc (.cells #[.int .i64 3] 3) = w5 := ⟨_, rfl⟩
  obtain ⟨w1, hw1⟩ : ∃ w1, w.alloc (.cells #[.pointer (some ⟨s, 0, none⟩)] 24) = w1 := ⟨_, rfl⟩
  obtain ⟨w2, hw2⟩ : ∃ w2, w1.alloc (.cells #[.map (some tm)] 56) = w2 := ⟨_, rfl⟩
  obtain ⟨w3, hw3⟩ : ∃ w3, w2.alloc (.map #[] 0) = w3 := ⟨_, rfl⟩
  obtain ⟨w4, hw4⟩ : ∃ w4, w3.alloc (.cells #[.map (some (w.heap.size + 1 + 1))] 61) = w4 := ⟨_, rfl⟩
  have hw5' : w4.alloc (.cells #[.int .i64 3] 3) = w5 := by rw [← hw5, ← hw4, ← hw3, ← hw2, ← hw1]
  have s1 : w1.heap.size = w.heap.size + 1 := by rw [← hw1]; simp
  have s2 : w2.heap.size = w.heap.size + 2 := by rw [← hw2]; simp [s1]
  have s3 : w3.heap.size = w.heap.size + 3 := by rw [← hw3]; simp [s2]
  have s4 : w4.heap.size = w.heap.size + 4 := by rw [← hw4]; simp [s3]
  have b5 : ∀ k, k < w4.heap.size → w5.heap[k]? = w4.heap[k]? := fun k hk => by rw [← hw5']; exact Below.heap_alloc _ _ _ hk
  have b4 : ∀ k, k < w3.heap.size → w5.heap[k]? = w3.heap[k]? := fun k hk => by rw [b5 k (by omega), ← hw4]; exact Below.heap_alloc _ _ _ hk
  have b3 : ∀ k, k < w2.heap.size → w5.heap[k]? = w2.heap[k]? := fun k hk => by rw [b4 k (by omega), ← hw3]; exact Below.heap_alloc _ _ _ hk
  have b2 : ∀ k, k < w1.heap.size → w5.heap[k]? = w1.heap[k]? := fun k hk => by rw [b3 k (by omega), ← hw2]; exact Below.heap_alloc _ _ _ hk
  have hb5 : Below w.heap.size w w5 := by
    rw [← hw5', ← hw4, ← hw3, ← hw2, ← hw1]
    exact (((((Below.refl _ _).alloc (Nat.le_refl _) _).alloc (by simp) _).alloc (by simp; omega) _).alloc (by simp; omega) _).alloc (by simp; omega) _
  have e1 : w5.heap[w.heap.size]? = some (.cells #[.pointer (some ⟨s, 0, none⟩)] 24 (0, 0)) := by rw [b2 _ (by omega), ← hw1]; exact heap_alloc_new _ _
  have e2 : w5.heap[w.heap.size + 1]? = some (.cells #[.map (some tm)] 56 (0, 0)) := by rw [b3 _ (by omega), ← hw2, ← s1]; exact heap_alloc_new _ _
  have e3 : BoolMap w5 (w.heap.size + 2) 0 (fun _ => false) := by
    have := BoolMap.made w2
    rw [hw3, s2] at this
    exact this.same (b4 _ (by omega))
  have e4 : w5.heap[w.heap.size + 3]? = some (.cells #[.map (some (w.heap.size + 2))] 61 (0, 0)) := by rw [b5 _ (by omega), ← hw4, ← s3]; exact heap_alloc_new _ _
  have e5 : w5.heap[w.heap.size + 4]? = some (.cells #[.int .i64 3] 3 (0, 0)) := by rw [← hw5', ← s4]; exact heap_alloc_new _ _
  have c1 : w5.cell? ⟨w.heap.size, 0, none⟩ = some (.pointer (some ⟨s, 0, none⟩)) := by simp [World.cell?, e1]
  have c2 : w5.cell? ⟨w.heap.size + 1, 0, none⟩ = some (.map (some tm)) := by simp [World.cell?, e2]
  have c4 : w5.cell? ⟨w.heap.size + 3, 0, none⟩ = some (.map (some (w.heap.size + 2))) := by simp [World.cell?, e4]
  have hm5 : IntMap w5 tm nt (toV m.L l) := hmap.same (hb5.block tm lm)
  have hP5 := h.below hb5
  obtain ⟨ys, y1, y2⟩ := hP5.gap
  have ns : ∀ b, b < w.heap.size → b ≠ bw → ¬ mset bw (w.heap.size + 4) (w.heap.size + 2) b := fun b hb hne q => by rcases q with q | q | q <;> omega
  have ns2 : ∀ b, b < w.heap.size + 2 → b ≠ bw → ¬ mset bw (w.heap.size + 4) (w.heap.size + 2) b := fun b hb hne q => by rcases q with q | q | q <;> omega
  have ns3 : ¬ mset bw (w.heap.size + 4) (w.heap.size + 2) (w.heap.size + 3) := fun q => by rcases q with q | q | q <;> omega
  have hcall := each_move (w := w5) (s := s) (bw := bw) (sz := m.size) (n := m.L.length) (c0 := .pointer (some ⟨w.heap.size + 1, 0, none⟩)) (c1 := .pointer (some ⟨w.heap.size, 0, none⟩)) (c2 := .pointer (some ⟨w.heap.size + 4, 0, none⟩)) (c3 := .pointer (some ⟨w.heap.size + 3, 0, none⟩)) (A := adr m.L) (NF := nfA m.L) (fun k w' => MoveP bw (w.heap.size + 4) (w.heap.size + 2) m.L l m.size w5 k w')
    ⟨ys, y1, by rw [keptTo_zero]; exact y2, by rw [keptTo_zero, e5]; simp [szs], by rw [keptTo_zero]; exact e3.congr (fun a => rfl), Turns.refl _ _⟩ (each_zero _) (each_succ _) (each_mono _) (each_size h.good)
    (fun k w' hk hp => by obtain ⟨_, _, _, _, _, p5⟩ := hp; exact p5.cell hP5.c1 (ns s ls n1))
    (fun k w' hk hp => by
      obtain ⟨zs, p1, p2, p3, p4, p5⟩ := hp
      refine ⟨p5.cell hP5.c0 (ns s ls n1), (encO m.L[k]).getD 0 0, ?_, ?_⟩
      · have h1 := mid_at ((gap_mid hk).1 p2) (j := 0) (by omega)
        obtain ⟨_, _, _, _, hl⟩ := p2
        rw [ints_cell p1 (k := adr m.L k) (by omega), show adr m.L k = adr m.L k + 0 from rfl, h1.1]
      · have := h.good.fmt _ (List.getElem_mem hk)
        rw [nfA_at hk]
        show (4 * (m.L[k].F.length : Int) + m.L[k].fmt) / 4 = _
        omega)
    (fun k w' hk hp => by
      obtain ⟨zs, p1, p2, p3, p4, p5⟩ := hp
      refine (move1_any (tb := w.heap.size + 1) (mb := w.heap.size) (eb := w.heap.size + 4) (pb := w.heap.size + 3) (tm := tm) (pm := w.heap.size + 2) h.good rfl hk (p5.cell hP5.c0 (ns s ls n1)) (p5.cell c2 (ns2 _ (by omega) (by omega))) (hm5.same (p5.block tm (Nat.lt_of_lt_of_le lm hb5.size) (ns _ lm htb.2))) (p5.cell c1 (ns2 _ (by omega) (by omega))) (p5.cell c4 ns3) p1 p2 p3 p4 n1 (by omega) (by omega) (by omega) (by omega) htb.2 (by omega) (by omega)).mono ?_
      rintro e w2 ⟨rfl, ys', r1, r2, r3, r4, r5⟩
      exact ⟨rfl, ys', r1, r2, r3, r4, p5.trans r5⟩)
  have HC : Hid (Calls Try.prog 43 #[.pointer (some ⟨s, 0, none⟩), .func (.func 71) #[] #[.pointer (some ⟨w.heap.size + 1, 0, none⟩), .pointer (some ⟨w.heap.size, 0, none⟩), .pointer (some ⟨w.heap.size + 1 + 1 + 1 + 1, 0, none⟩), .pointer (some ⟨w.heap.size + 1 + 1 + 1, 0, none⟩)]] (((((w.alloc (.cells #[.pointer (some ⟨s, 0, none⟩)] 24)).alloc (.cells #[.map (some tm)] 56)).alloc (.map #[] 0)).alloc (.cells #[.map (some (w.heap.size + 1 + 1))] 61)).alloc (.cells #[.int .i64 3] 3)) fun e w' => e = .returned (.tuple #[]) ∧ MoveP bw (w.heap.size + 4) (w.heap.size + 2) m.L l m.size w5 m.L.length w') := by rw [hw5]; exact hcall
  have H := Lib.hid h
  have HP5 := Lib.hid hP5
  have HB5 := Lib.hid hb5
  have HN3 := Lib.hid ns3
  have HNS := Lib.hid ns
  have HNS2 := Lib.hid ns2
  have C1 := Lib.hid c1
  have C4 := Lib.hid c4
  have L5 : w.heap.size + 4 < w5.heap.size := lt_of_block e5
  have hen := keptTo_szs m.L l m.L.length (Nat.le_refl _)
  have hae := adr_le h.good m.L.length
  have hsz := h.good.hi
  have hmm := @run_makeMap Try.prog
  clear h hmap hw5 hw5' hw1 hw2 hw3 hw4 s1 s2 s3 s4 b5 b4 b3 b2 hb5 e1 e2 e3 e4 e5 c1 c2 c4 hm5 hP5 y1 y2 ns ns2 ns3 hcall
  go_enter Try.func61, Try.ntmps61
  go_upto_region 3 with (go_at_call 43; (with_reducible refine HC.out.mono ?_); rintro e w6 ⟨rfl, zs, p1, p2, p3, p4, p5⟩)
  have hzl : zs.length = m.size := by obtain ⟨_, _, _, _, q⟩ := p2; exact q
  obtain ⟨en, hen2⟩ : ∃ en, 3 + szs (keptTo m.L l m.L.length) = en := ⟨_, rfl⟩
  obtain ⟨an, han⟩ : ∃ an, adr m.L m.L.length = an := ⟨_, rfl⟩
  have HEN := Lib.hid hen2
  have HAN := Lib.hid han
  rw [hen2] at p3 hen
  rw [han] at hen hae
  obtain ⟨nn, hnn⟩ : ∃ nn, an = en + nn := ⟨an - en, by omega⟩
  have cm := p5.cell C1.out (HNS2.out _ (by omega) (by omega))
  have cp := p5.cell C4.out HN3.out
  have cs0 := p5.cell HP5.out.c0 (HNS.out s ls n1)
  have cs1 := p5.cell HP5.out.c1 (HNS.out s ls n1)
  have hbx6 : w6.heap[s]? = w5.heap[s]? := p5.block s (Nat.lt_of_lt_of_le ls HB5.out.size) (HNS.out s ls n1)
  rw [han, hnn] at cs1
  have cs1' : w6.cell? ⟨s, 1, none⟩ = some (.int .i64 ((en : Int) + (nn : Int))) := cs1
  have ce : w6.cell? ⟨w.heap.size + 1 + 1 + 1 + 1, 0, none⟩ = some (.int .i64 (en : Int)) := by simp [World.cell?, p3]
  have cp' : w6.cell? ⟨w.heap.size + 1 + 1 + 1, 0, none⟩ = some (.map (some (w.heap.size + 2))) := cp
  have hsl : ∃ A5 c5 w7, (∀ w' : World, (Instr.slice 23 (.slice (some ⟨bw, 0, none⟩) m.size m.size) (some (.int .i64 (en : Int))) (some (.int .i64 ((en : Int) + (nn : Int)))) none).run Try.prog w' = .ok (.slice A5 nn c5) w') ∧ (∀ ty, (Builtin.clear_ #[23] ty #[.slice A5 nn c5]).run Try.prog w6.drew = .ok (.tuple #[]) w7) ∧ w7.heap[bw]? = some (.cells ((spl zs en (List.replicate nn 0)).map (Value.int .i64)).toArray 3 (0, 0)) ∧ (∀ k, k ≠ bw → w7.heap[k]? = w6.heap[k]?) ∧ Turns (fun b => b = bw) w6 w7 := by
    obtain ⟨c5, A5, hsl⟩ := slice_ints en nn bw m.size (by omega)
    by_cases hz : nn = 0
    · subst hz
      exact ⟨A5, c5, w6.drew, fun w' => (hsl w').1, fun ty => clear_none w6.drew ty A5 c5, p1, fun _ _ => rfl, (Turns.refl _ _).drewN 1⟩
    · have hA : A5 = some ⟨bw, en, none⟩ := (hsl w6).2 (by omega)
      subst hA
      refine ⟨_, c5, w6.drew.setCells bw en (List.replicate nn (.int .i64 0)), fun w' => (hsl w').1, fun ty => Lib.run_clear_slice w6.drew 23 3 ty (.int .i64 0) Try.underlying23 zeroI rfl rfl bw en nn c5 (by omega) (fun j hj => by
        have : w6.cell? ⟨bw, en + j, none⟩ = _ := ints_cell p1 (k := en + j) (by omega)
        show (w6.cell? ⟨bw, en + j, none⟩).isSome = true
        rw [this]; rfl) (fun j hj => ints_free (w := w6.drew) p1 _), ?_, fun k hk => setCells_other _ _ _ _ _ hk, Turns.setCells _ ((Turns.refl _ _).drewN 1) bw en rfl⟩
      have := ints_setCells (List.replicate nn 0) w6.drew bw en zs p1
      rw [List.map_replicate] at this
      exact this
  obtain ⟨A5, c5, w7, hsl, hcl, hr7, ho7, ht7⟩ := hsl
  have hB7 : w7.heap[s]? = some (.cells #[.slice (some ⟨bw, 0, none⟩) m.size m.size, .int .i64 ((en : Int) + (nn : Int)), .int .i64 (m.made : Int), .map (some bm)] 68 (0, 0)) := by
    rw [ho7 s n1, hbx6, HP5.out.box, han, hnn]; rfl
  have hw7 : Words (keptM m l).L (spl zs en (List.replicate nn 0)) := by
    have := gap_end p2 nn (by rw [szs_map_turn, hen2, han]; omega)
    rw [szs_map_turn, hen2] at this
    exact this
  have k0 : w7.cell? ⟨w.heap.size, 0, none⟩ = some (.pointer (some ⟨s, 0, none⟩)) := by have := cm; unfold World.cell? at this ⊢; rw [ho7 w.heap.size (by omega)]; exact this
  have k3 : w7.cell? ⟨w.heap.size + 1 + 1 + 1, 0, none⟩ = some (.map (some (w.heap.size + 2))) := by have := cp'; unfold World.cell? at this ⊢; rw [ho7 (w.heap.size + 1 + 1 + 1) (by omega)]; exact this
  have k4 : w7.cell? ⟨w.heap.size + 1 + 1 + 1 + 1, 0, none⟩ = some (.int .i64 (en : Int)) := by have := ce; unfold World.cell? at this ⊢; rw [ho7 (w.heap.size + 1 + 1 + 1 + 1) (by omega)]; exact this
  have j1 : w7.cell? ⟨s, 1, none⟩ = some (.int .i64 ((en : Int) + (nn : Int))) := by simp [World.cell?, hB7]
  have j3 : w7.cell? ⟨s, 3, none⟩ = some (.map (some bm)) := by simp [World.cell?, hB7]
  have jf1 : w7.frozen? ⟨s, 1, none⟩ = false := by simp [World.frozen?, hB7]
  have jf3 : w7.frozen? ⟨s, 3, none⟩ = false := by simp [World.frozen?, hB7]
  have hpm7 : BoolMap w7 (w.heap.size + 2) (keptTo m.L l m.L.length).length (plK m.L l m.L.length) := p4.same (ho7 _ (by omega))
  have HB7 := Lib.hid hB7
  have HW7 := Lib.hid hw7
  have HR7 := Lib.hid hr7
  have HPM7 := Lib.hid hpm7
  have HT7 := Lib.hid ht7
  have HP5b := Lib.hid p5
  have HZL := Lib.hid hzl
  clear p1 p2 p3 p4 p5 hbx6 hr7 ho7 ht7 hB7 hw7 hpm7 hen2 han cp cs1 hzl
  refine wp_region_still_tail 10 (by kernel_rfl) (by kernel_rfl) ?_
  simp only [List.take_succ_cons, List.take_zero, List.drop_succ_cons, List.drop_zero]
  repeat still_step
  refine wpStill_nil ?_
  change wpList _ _ _ _ _ w6.drew
  go_wp2_with fail
  go_region
  all_goals
    go_wp2_with fail
    go_returns
    refine ⟨rfl, w.heap.size + 2, ?_, by omega, ?_⟩
    · refine H.out.kept (ys := spl zs en (List.replicate nn 0)) ?_ (by rw [spl_len]; exact HZL.out) HW7.out ?_ ?_
      · show ((w7.setCell _ _).setCell _ _).heap[bw]? = _
        rw [Below.heap_setCell _ _ _ _ (fun e => n1 e.symm), Below.heap_setCell _ _ _ _ (fun e => n1 e.symm)]; exact HR7.out
      · show ((w7.setCell ⟨s, 3, none⟩ _).setCell ⟨s, 1, none⟩ _).heap[s]? = _
        rw [heap_setCell_same _ s 1 _ _ _ (heap_setCell_same w7 s 3 _ _ _ HB7.out), HEN.out]
        rfl
      · exact (HPM7.out.same (Below.heap_setCell _ _ _ _ (by show w.heap.size + 2 ≠ s; omega))).same (Below.heap_setCell _ _ _ _ (by show w.heap.size + 2 ≠ s; omega))
    · have t1 : Turns (fun b => mset bw (w.heap.size + 4) (w.heap.size + 2) b ∨ b = s) w w6 := (Turns.of_below HB5.out).trans (HP5b.out.mono (fun j _ q => .inl q))
      have t2 := t1.trans (HT7.out.mono (fun j _ q => .inl (.inl q)))
      exact ((((t2.setCell ⟨s, 3, none⟩ _ (.inr rfl)).setCell ⟨s, 1, none⟩ _ (.inr rfl)).drewN 1).mono (fun j hj q => by rcases q with (q | q | q) | q <;> first | exact .inr q | exact .inl q | omega))
end Go.Proofs.Ythjjanjmiinpbaa
