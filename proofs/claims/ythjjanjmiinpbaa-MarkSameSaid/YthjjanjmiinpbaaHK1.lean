/- Chapter 02: the contract of Keep's look at an object. -/
import Derived.Test.YthjjanjmiinpbaaHT2
import Derived.Deep.RegionWith
namespace Go.Proofs.Ythjjanjmiinpbaa
open Go.ChangeShapes Go.WideShapes Go.ChangeAt Go.RowKit Go.Deep Go.Joins Go.Maps
set_option linter.unusedVariables false
set_option linter.unusedSimpArgs false

/-- a goal that no tactic looks into -/
structure BoxS (p : Prop) : Prop where
  out : p
section
variable {P : Program} {ops : Array Oper} {w : World} {Q : Act → Prop} {a : Act} {o : Oper} {rest : List Oper}
theorem boxS_nil (h : Q a) : BoxS (wpStill P ops w Q [] a) := ⟨wpStill_nil h⟩
theorem boxS_step (h : ∀ K : Act → Prop, (∀ a, BoxS (wpStill P ops w Q rest a) → K a) → if Region.wanted o (yielded ops a.tmps) then o.still P a w K else K (a.put o.dst undef)) : BoxS (wpStill P ops w Q (o :: rest) a) := ⟨wpStill_step (fun K hK => h K (fun a h => hK a h.out))⟩
theorem boxS_skip (h : Region.wanted o (yielded ops a.tmps) = false) (hk : ∀ K : Act → Prop, (∀ a, BoxS (wpStill P ops w Q rest a) → K a) → K (a.put o.dst undef)) : BoxS (wpStill P ops w Q (o :: rest) a) := boxS_step (fun K hK => by rw [if_neg (by rw [h]; simp)]; exact hk K hK)
theorem boxS_want (h : Region.wanted o (yielded ops a.tmps) = true) (hk : ∀ K : Act → Prop, (∀ a, BoxS (wpStill P ops w Q rest a) → K a) → o.still P a w K) : BoxS (wpStill P ops w Q (o :: rest) a) := boxS_step (fun K hK => by rw [if_pos h]; exact hk K hK)
end

theorem IntMap.upd {w : World} {b n : Nat} {f : Int → Int} (h : IntMap w b n f) (hn : n < maxLen) {k y : Int} (hk : InI k) (hy : InI y) : ∃ w', (Instr.mapUpdate 56 (.map (some b)) (.int .i64 k) (.int .i64 y)).run Try.prog w = .ok () w' ∧ IntMap w' b (n + 1) (fun c => if c = k then y else f c) ∧ w.grownBy w' (some b) := by
  obtain ⟨D, h1, h2⟩ := h
  obtain ⟨w', hrun, r1, r2⟩ := h1.update keyedI Try.underlying56 hn (key_i hk) (plainElem_int Try.underlying3 hy.wf)
  exact ⟨w', hrun, IntMap.put h1 h2 r1, r2⟩

def okW (l : List Int) (x : Int) : Bool := !isPointerV x || l.contains x
def fitQ (l : List Int) (o : Ob) (q : Nat) : Bool := (List.range q).all (fun j => okW l (wordO o j))
theorem fitQ_succ (l : List Int) (o : Ob) (q : Nat) : fitQ l o (q + 1) = (fitQ l o q && okW l (wordO o q)) := by unfold fitQ; rw [List.range_succ, List.all_append]; simp
theorem fitQ_end (l : List Int) (o : Ob) : fitQ l o (npO o) = fitsO l o := by unfold fitQ fitsO; rw [wordsO_at, List.all_map]; rfl
theorem fitsTo_succ {L : List Ob} {l : List Int} {k : Nat} (hk : k < L.length) : fitsTo L l (k + 1) = if kp L l k then fitsTo L l k && fitsO l L[k] else fitsTo L l k := by
  unfold fitsTo
  rw [keptTo_succ hk]
  split
  · rw [List.all_append]; simp
  · rfl
/-- what the look at the first k objects has laid -/
def toK (L : List Ob) (l : List Int) (k : Nat) (a : Int) : Int := match plc L a with | some i => if i < k ∧ kp L l i = true then toAt L l i else 0 | none => 0
theorem toK_zero (L : List Ob) (l : List Int) (a : Int) : toK L l 0 a = 0 := by unfold toK; cases plc L a <;> simp
theorem toK_end (L : List Ob) (l : List Int) (a : Int) : toK L l L.length a = toV L l a := by
  unfold toK toV
  cases h : plc L a with
  | none => rfl
  | some i => have := (plc_some h).1; simp [this]
theorem toK_no {L : List Ob} {l : List Int} {k : Nat} (hn : kp L l k = false) (a : Int) : toK L l (k + 1) a = toK L l k a := by
  unfold toK
  cases h : plc L a with
  | none => rfl
  | some i =>
    dsimp only
    by_cases e : i = k
    · subst e; rw [hn]; simp
    · have : i < k + 1 ↔ i < k := by omega
      simp only [this]
theorem toK_yes {L : List Ob} {l : List Int} {k : Nat} (hk : k < L.length) (hy : kp L l k = true) (a : Int) : toK L l (k + 1) a = if a = ptr L k then toAt L l k else toK L l k a := by
  by_cases ha : a = ptr L k
  · subst ha
    unfold toK
    rw [plc_at hk, if_pos rfl]
    simp [hy]
  · rw [if_neg ha]
    unfold toK
    cases h : plc L a with
    | none => rfl
    | some i =>
      dsimp only
      have hne : i ≠ k := fun e => by subst e; exact ha (plc_some h).2.symm
      have : i < k + 1 ↔ i < k := by omega
      simp only [this]
def kset (fb eb tm : Nat) (b : Nat) : Prop := b = fb ∨ b = eb ∨ b = tm
/-- behind the look at the first k objects -/
def KeepP (fb eb tm : Nat) (L : List Ob) (l : List Int) (w : World) (k : Nat) (w' : World) : Prop := w'.heap[fb]? = some (.cells #[.bool (fitsTo L l k)] 4 (0, 0)) ∧ w'.heap[eb]? = some (.cells #[.int .i64 ((3 + szs (keptTo L l k) : Nat) : Int)] 3 (0, 0)) ∧ IntMap w' tm k (toK L l k) ∧ Turns (kset fb eb tm) w w'
theorem lt_blockX {w w' : World} {b : Nat} (h : b < w.heap.size) (e : w'.heap[b]? = w.heap[b]?) : b < w'.heap.size := by
  rcases Nat.lt_or_ge b w'.heap.size with q | q
  · exact q
  · rw [Array.getElem?_eq_none q, Array.getElem?_eq_getElem h] at e; cases e

set_option maxRecDepth 100000 in
set_option maxHeartbeats 16000000 in
theorem keep1_any {w : World} {s bw bm kb mb fb eb tb km nk tm k : Nat} {m : Hp} {l : List Int} (h : PM w s bw bm m) (hk : k < m.L.length)
    (ck : w.cell? ⟨kb, 0, none⟩ = some (.map (some km))) (hkm : BoolMap w km nk (fun a => l.contains a)) (cm : w.cell? ⟨mb, 0, none⟩ = some (.pointer (some ⟨s, 0, none⟩))) (ct : w.cell? ⟨tb, 0, none⟩ = some (.map (some tm)))
    (hfb : w.heap[fb]? = some (.cells #[.bool (fitsTo m.L l k)] 4 (0, 0))) (heb : w.heap[eb]? = some (.cells #[.int .i64 ((3 + szs (keptTo m.L l k) : Nat) : Int)] 3 (0, 0))) (hmap : IntMap w tm k (toK m.L l k))
    (n1 : s ≠ fb) (n2 : kb ≠ fb) (n3 : mb ≠ fb) (n4 : tb ≠ fb) (n5 : bw ≠ fb) (n6 : km ≠ fb) (n7 : eb ≠ fb) (n8 : tm ≠ fb) (n9 : tm ≠ eb) (n10 : tm ≠ mb) (n11 : tm ≠ s) (n12 : tm ≠ bw) :
    Calls Try.prog 59 #[.int .i64 (adr m.L k : Int), .pointer (some ⟨kb, 0, none⟩), .pointer (some ⟨mb, 0, none⟩), .pointer (some ⟨fb, 0, none⟩), .pointer (some ⟨eb, 0, none⟩), .pointer (some ⟨tb, 0, none⟩)] w fun e w' => e = .returned (.tuple #[]) ∧ KeepP fb eb tm m.L l w (k + 1) w' := by
  have ha := adr_bd h.good k
  have hki := each_size h.good
  have hkl : k ≤ 131072 := by have := len_bd h.good; omega
  obtain ⟨hc0, hlt0⟩ := h.at_ hk (k := 0) (by omega)
  have hlt1 := (h.at_ hk (k := m.L[k].F.length + 2) (by omega)).2
  have hc0' : w.cell? ⟨bw, adr m.L k, none⟩ = some (.int .i64 (4 * (m.L[k].F.length : Int) + m.L[k].fmt)) := hc0
  have hfm := h.good.fmt _ (List.getElem_mem hk)
  have hptr := pointers_any h.c0 hc0' hfm.1 hfm.2 ha.1 (by omega) h.good.hi
  have hszk := keptTo_szs m.L l k (Nat.le_of_lt hk)
  have hp : ptr m.L k = 2 * (adr m.L k : Int) := rfl
  obtain ⟨t, ht⟩ : ∃ t, adr m.L k = t := ⟨_, rfl⟩
  have HT := Lib.hid ht
  have hoI : InI (2 * (t : Int)) := by unfold InI; omega
  have hlk := hkm.look hoI
  rw [← ht, ← hp] at hlk
  obtain ⟨y, hy⟩ : ∃ y, kp m.L l k = y := ⟨_, rfl⟩
  have hlk' : (Instr.lookup 61 (.map (some km)) (.int .i64 (2 * (t : Int))) false).run Try.prog w = .ok (.bool y) w := by
    rw [← hy, ← ht, ← hp]; exact hlk
  have HPV : Hid (pointerV (t : Int) = (2 * (t : Int), true)) := by show _ = _; unfold pointerV; rw [if_pos (by omega)]
  have HPTR := Lib.hid hptr
  have H := Lib.hid h
  have HKM := Lib.hid hkm
  have HFB0 := Lib.hid hfb
  have HEB0 := Lib.hid heb
  have HMAP := Lib.hid hmap
  have CK := Lib.hid ck
  have CM := Lib.hid cm
  have CT := Lib.hid ct
  have HP := Lib.hid hp
  have HKP := Lib.hid hy
  rw [ht] at ha hszk hc0' HPTR hlt0 ⊢
  clear h hptr hlk hkm hfb heb hmap ht hp hc0 hy
  cases y
  · go_enter Try.func59, Try.ntmps59
    go_wp2_with (go_at_call 45; (with_reducible refine (pointer_any (t : Int) _).mono ?_); rw [HPV.out]; rintro e w8 ⟨rfl, hw8⟩; replace hw8 := hw8.symm; subst hw8)
    go_returns
    refine ⟨rfl, ?_, ?_, (HMAP.out.mono (Nat.le_succ _)).congr (fun a => (toK_no HKP.out a).symm), Turns.refl _ _⟩
    · rw [fitsTo_succ hk, HKP.out]; exact HFB0.out
    · rw [keptTo_succ hk, HKP.out]; exact HEB0.out
  · go_enter Try.func59, Try.ntmps59
    go_wp2_with (first | (go_at_call 45; (with_reducible refine (pointer_any (t : Int) _).mono ?_); rw [HPV.out]; rintro e w8 ⟨rfl, hw8⟩; replace hw8 := hw8.symm; subst hw8) | (go_at_call 60; (with_reducible refine HPTR.out.mono ?_); rintro e w1 ⟨v, rfl, hi1, hb1⟩; obtain ⟨VA, vc, rfl, hvc, hnums, hva, hvm, _⟩ := hi1.nums; rw [prs_len] at *; have HN1 := Lib.hid hnums; have HB1 := Lib.hid hb1; have HVA := Lib.hid hva; clear hi1 hnums hb1 hva))
    obtain ⟨np, hnp⟩ : ∃ np, npO m.L[k] = np := ⟨_, rfl⟩
    rw [hnp]
    rw [hnp] at hvc
    unfold maxLen at hvm
    have HNP := Lib.hid hnp
    clear hnp hlk'
    obtain ⟨F, hF⟩ : ∃ F, fitsTo m.L l k = F := ⟨_, rfl⟩
    have HF := Lib.hid hF
    rw [hF] at HFB0
    clear hF
    have L1 := lt_of_block HFB0.out
    have L2 := lt_of_block HEB0.out
    go_loopw [24] (fun i wr => ∃ q : Nat, q ≤ np ∧ i = .int .i64 q ∧ wr.heap[fb]? = some (.cells #[.bool (F && fitQ l m.L[k] q)] 4 (0, 0)) ∧ Turns (fun b => b = fb ∨ False) w1 wr) (fun i _ => np - (intOf i).toNat)
    case atStart => exact ⟨0, Nat.zero_le _, rfl, by rw [HB1.out.block fb L1, HFB0.out]; simp [fitQ], Turns.refl _ _⟩
    case round =>
      obtain ⟨q, hq, rfl, hfb, hts⟩ := hrel
      have HFB := Lib.hid hfb
      have HTS := Lib.hid hts
      have no : ∀ b, b ≠ fb → ¬ (b = fb ∨ False) := fun b hb => by simpa using hb
      have NO := Lib.hid no
      have c0 := HTS.out.cell (HB1.out.cell (p := ⟨s, 0, none⟩) (cell_lt H.out.c0) |>.trans H.out.c0) (no _ n1)
      have cm := HTS.out.cell (HB1.out.cell (p := ⟨mb, 0, none⟩) (cell_lt CM.out) |>.trans CM.out) (no _ n3)
      have ck := HTS.out.cell (HB1.out.cell (p := ⟨kb, 0, none⟩) (cell_lt CK.out) |>.trans CK.out) (no _ n2)
      have ct := HTS.out.cell (HB1.out.cell (p := ⟨tb, 0, none⟩) (cell_lt CT.out) |>.trans CT.out) (no _ n4)
      have hkm : BoolMap wr km nk (fun a => l.contains a) := (HKM.out.same (HB1.out.block km HKM.out.lt)).same (HTS.out.block km (Nat.lt_of_lt_of_le HKM.out.lt HB1.out.size) (no _ n6))
      clear hfb hts no
      by_cases hlt : q < np
      · have hqn : q < npO m.L[k] := by rw [HNP.out]; exact hlt
        have d1 : decide (q < np) = true := decide_eq_true hlt
        obtain ⟨x, hx⟩ : ∃ x, wordO m.L[k] q = x := ⟨_, rfl⟩
        have hxI : InI x := by rw [← hx]; exact words_InI H.out.good (List.getElem_mem hk) _ (wordO_mem hqn)
        obtain ⟨pp, hpp⟩ : ∃ pp, t + wix q = pp := ⟨_, rfl⟩
        obtain ⟨hcx, hpz⟩ := H.out.at_ hk (k := wix q) (wix_lt hqn)
        rw [show (encO m.L[k]).getD (wix q) 0 = x from hx, HT.out, hpp] at hcx
        rw [HT.out, hpp] at hpz
        have cx := HTS.out.cell (HB1.out.cell (p := ⟨bw, pp, none⟩) (cell_lt hcx) |>.trans hcx) (NO.out _ n5)
        have hpl : q < (prsV t m.L[k].F.length m.L[k].fmt).length := by rw [prs_len]; exact hqn
        obtain ⟨gv, off, e, hgl, hce⟩ := HN1.out q hpl
        have hpe : (prsV t m.L[k].F.length m.L[k].fmt)[q] = (pp : Int) := by
          have := prs_at t hqn
          rw [List.getElem?_eq_getElem hpl, hpp] at this
          exact Option.some.inj this
        rw [hpe] at hce
        have hgb := (HVA.out gv off e).1
        subst e
        have ce := HTS.out.cell hce (NO.out _ (fun e => by omega))
        have hlkx := (show BoolMap wr.drew km nk (fun a => l.contains a) from hkm.same rfl).look hxI
        obtain ⟨z, hz⟩ : ∃ z, l.contains x = z := ⟨_, rfl⟩
        have HZ := Lib.hid hz
        rw [hz] at hlkx
        have HX := Lib.hid hx
        have hszz := H.out.good.hi
        have g0 : (0 : Int) ≤ (q : Int) := by omega
        have g1 : (q : Int) < (np : Int) := by omega
        have g2 : (0 : Int) ≤ (pp : Int) := by omega
        have g3 : (pp : Int) < (m.size : Int) := by omega
        obtain ⟨G, hG⟩ : ∃ G, (F && fitQ l m.L[k] q) = G := ⟨_, rfl⟩
        have HG := Lib.hid hG
        rw [hG] at HFB
        have hcf : wr.cell? ⟨fb, 0, none⟩ = some (.bool G) := by simp [World.cell?, HFB.out]
        have hff : wr.frozen? ⟨fb, 0, none⟩ = false := by simp [World.frozen?, HFB.out]
        clear hx hpp hcx hpl hpe hce hz hkm hG
        have hdr : wr.drew.heap[fb]? = some (.cells #[.bool G] 4 (0, 0)) := HFB.out
        have HDR := Lib.hid hdr
        clear hdr
        cases G
        · --<a
          go_upto_region 5 with fail
          refine wp_region_still_tail 23 (by kernel_rfl) (by kernel_rfl) ?_
          simp only [List.take_succ_cons, List.take_zero, List.drop_succ_cons, List.drop_zero]
          refine BoxS.out ?_
          (refine boxS_step (fun K hK => ?_); go_simp; refine hK _ ?_; clear hK K)
          (refine boxS_step (fun K hK => ?_); go_simp; refine hK _ ?_; clear hK K)
          (refine boxS_skip (by kernel_rfl) (fun K hK => ?_); go_simp; refine hK _ ?_; clear hK K)
          (refine boxS_skip (by kernel_rfl) (fun K hK => ?_); go_simp; refine hK _ ?_; clear hK K)
          (refine boxS_skip (by kernel_rfl) (fun K hK => ?_); go_simp; refine hK _ ?_; clear hK K)
          (refine boxS_skip (by kernel_rfl) (fun K hK => ?_); go_simp; refine hK _ ?_; clear hK K)
          (refine boxS_skip (by kernel_rfl) (fun K hK => ?_); go_simp; refine hK _ ?_; clear hK K)
          (refine boxS_skip (by kernel_rfl) (fun K hK => ?_); go_simp; refine hK _ ?_; clear hK K)
          (refine boxS_skip (by kernel_rfl) (fun K hK => ?_); go_simp; refine hK _ ?_; clear hK K)
          (refine boxS_skip (by kernel_rfl) (fun K hK => ?_); go_simp; refine hK _ ?_; clear hK K)
          (refine boxS_skip (by kernel_rfl) (fun K hK => ?_); go_simp; refine hK _ ?_; clear hK K)
          (refine boxS_skip (by kernel_rfl) (fun K hK => ?_); go_simp; refine hK _ ?_; clear hK K)
          (refine boxS_skip (by kernel_rfl) (fun K hK => ?_); go_simp; refine hK _ ?_; clear hK K)
          (refine boxS_skip (by kernel_rfl) (fun K hK => ?_); go_simp; refine hK _ ?_; clear hK K)
          (refine boxS_skip (by kernel_rfl) (fun K hK => ?_); go_simp; refine hK _ ?_; clear hK K)
          (refine boxS_skip (by kernel_rfl) (fun K hK => ?_); go_simp; refine hK _ ?_; clear hK K)
          (refine boxS_skip (by kernel_rfl) (fun K hK => ?_); go_simp; refine hK _ ?_; clear hK K)
          (refine boxS_skip (by kernel_rfl) (fun K hK => ?_); go_simp; refine hK _ ?_; clear hK K)
          (refine boxS_skip (by kernel_rfl) (fun K hK => ?_); go_simp; refine hK _ ?_; clear hK K)
          (refine boxS_skip (by kernel_rfl) (fun K hK => ?_); go_simp; refine hK _ ?_; clear hK K)
          (refine boxS_skip (by kernel_rfl) (fun K hK => ?_); go_simp; refine hK _ ?_; clear hK K)
          (refine boxS_skip (by kernel_rfl) (fun K hK => ?_); go_simp; refine hK _ ?_; clear hK K)
          (refine boxS_step (fun K hK => ?_); go_simp; refine hK _ ?_; clear hK K)
          refine boxS_nil ?_
          change wpList _ _ _ _ _ wr.drew
          go_wp2_with fail
          go_roundw
          case rel =>
            refine ⟨q + 1, by omega, by go_num, ?_, (HTS.out.drewN 1).setCell _ _ (.inl rfl)⟩
            rw [fitQ_succ, HX.out, ← Bool.and_assoc]
            show (wr.drew.setCell _ _).heap[fb]? = _
            rw [heap_setCell_same wr.drew fb 0 _ _ _ HDR.out]
            rw [HG.out]; rfl
          case measure => simp [intOf]; omega
          -->a
        · cases hpx : isPointerV x
          · have HIP := Lib.hid (show ∀ w', Calls Try.prog 50 #[.int .i64 x] w' fun e w'' => e = .returned (.bool false) ∧ w'' = w' from fun w' => by have := isPointer_any x w'; rw [hpx] at this; exact this)
            have HOK : Hid (okW l x = true) := by show _ = _; unfold okW; rw [hpx]; rfl
            clear hpx
            --<b
            go_upto_region 5 with fail
            refine wp_region_still_tail 23 (by kernel_rfl) (by kernel_rfl) ?_
            simp only [List.take_succ_cons, List.take_zero, List.drop_succ_cons, List.drop_zero]
            refine BoxS.out ?_
            (refine boxS_step (fun K hK => ?_); go_simp; refine hK _ ?_; clear hK K)
            (refine boxS_step (fun K hK => ?_); go_simp; refine hK _ ?_; clear hK K)
            (refine boxS_want (by kernel_rfl) (fun K hK => ?_); go_simp; refine hK _ ?_; clear hK K)
            (refine boxS_want (by kernel_rfl) (fun K hK => ?_); go_simp; refine hK _ ?_; clear hK K)
            (refine boxS_want (by kernel_rfl) (fun K hK => ?_); go_simp; refine hK _ ?_; clear hK K)
            (refine boxS_want (by kernel_rfl) (fun K hK => ?_); go_simp; refine hK _ ?_; clear hK K)
            (refine boxS_want (by kernel_rfl) (fun K hK => ?_); go_simp; refine hK _ ?_; clear hK K)
            (refine boxS_want (by kernel_rfl) (fun K hK => ?_); go_simp; refine hK _ ?_; clear hK K)
            (refine boxS_want (by kernel_rfl) (fun K hK => ?_); go_simp; refine hK _ ?_; clear hK K)
            (refine boxS_want (by kernel_rfl) (fun K hK => ?_); go_simp; refine ⟨_, HIP.out _, hK _ ?_⟩; clear hK K)
            (refine boxS_want (by kernel_rfl) (fun K hK => ?_); go_simp; refine hK _ ?_; clear hK K)
            (refine boxS_want (by kernel_rfl) (fun K hK => ?_); go_simp; refine hK _ ?_; clear hK K)
            (refine boxS_skip (by kernel_rfl) (fun K hK => ?_); go_simp; refine hK _ ?_; clear hK K)
            (refine boxS_skip (by kernel_rfl) (fun K hK => ?_); go_simp; refine hK _ ?_; clear hK K)
            (refine boxS_skip (by kernel_rfl) (fun K hK => ?_); go_simp; refine hK _ ?_; clear hK K)
            (refine boxS_skip (by kernel_rfl) (fun K hK => ?_); go_simp; refine hK _ ?_; clear hK K)
            (refine boxS_skip (by kernel_rfl) (fun K hK => ?_); go_simp; refine hK _ ?_; clear hK K)
            (refine boxS_skip (by kernel_rfl) (fun K hK => ?_); go_simp; refine hK _ ?_; clear hK K)
            (refine boxS_skip (by kernel_rfl) (fun K hK => ?_); go_simp; refine hK _ ?_; clear hK K)
            (refine boxS_skip (by kernel_rfl) (fun K hK => ?_); go_simp; refine hK _ ?_; clear hK K)
            (refine boxS_skip (by kernel_rfl) (fun K hK => ?_); go_simp; refine hK _ ?_; clear hK K)
            (refine boxS_want (by kernel_rfl) (fun K hK => ?_); go_simp; refine hK _ ?_; clear hK K)
            (refine boxS_step (fun K hK => ?_); go_simp; refine hK _ ?_; clear hK K)
            refine boxS_nil ?_
            change wpList _ _ _ _ _ wr.drew
            go_wp2_with fail
            go_roundw
            case rel =>
              refine ⟨q + 1, by omega, by go_num, ?_, (HTS.out.drewN 1).setCell _ _ (.inl rfl)⟩
              rw [fitQ_succ, HX.out, ← Bool.and_assoc]
              show (wr.drew.setCell _ _).heap[fb]? = _
              rw [heap_setCell_same wr.drew fb 0 _ _ _ HDR.out]
              rw [HG.out, HOK.out]; rfl
            case measure => simp [intOf]; omega
            -->b
          · have HIP := Lib.hid (show ∀ w', Calls Try.prog 50 #[.int .i64 x] w' fun e w'' => e = .returned (.bool true) ∧ w'' = w' from fun w' => by have := isPointer_any x w'; rw [hpx] at this; exact this)
            have HOK : Hid (okW l x = z) := by show _ = _; unfold okW; rw [hpx, HZ.out]; rfl
            clear hpx
            --<c
            go_upto_region 5 with fail
            refine wp_region_still_tail 23 (by kernel_rfl) (by kernel_rfl) ?_
            simp only [List.take_succ_cons, List.take_zero, List.drop_succ_cons, List.drop_zero]
            refine BoxS.out ?_
            (refine boxS_step (fun K hK => ?_); go_simp; refine hK _ ?_; clear hK K)
            (refine boxS_step (fun K hK => ?_); go_simp; refine hK _ ?_; clear hK K)
            (refine boxS_want (by kernel_rfl) (fun K hK => ?_); go_simp; refine hK _ ?_; clear hK K)
            (refine boxS_want (by kernel_rfl) (fun K hK => ?_); go_simp; refine hK _ ?_; clear hK K)
            (refine boxS_want (by kernel_rfl) (fun K hK => ?_); go_simp; refine hK _ ?_; clear hK K)
            (refine boxS_want (by kernel_rfl) (fun K hK => ?_); go_simp; refine hK _ ?_; clear hK K)
            (refine boxS_want (by kernel_rfl) (fun K hK => ?_); go_simp; refine hK _ ?_; clear hK K)
            (refine boxS_want (by kernel_rfl) (fun K hK => ?_); go_simp; refine hK _ ?_; clear hK K)
            (refine boxS_want (by kernel_rfl) (fun K hK => ?_); go_simp; refine hK _ ?_; clear hK K)
            (refine boxS_want (by kernel_rfl) (fun K hK => ?_); go_simp; refine ⟨_, HIP.out _, hK _ ?_⟩; clear hK K)
            (refine boxS_want (by kernel_rfl) (fun K hK => ?_); go_simp; refine hK _ ?_; clear hK K)
            (refine boxS_want (by kernel_rfl) (fun K hK => ?_); go_simp; refine hK _ ?_; clear hK K)
            (refine boxS_want (by kernel_rfl) (fun K hK => ?_); go_simp; refine hK _ ?_; clear hK K)
            (refine boxS_want (by kernel_rfl) (fun K hK => ?_); go_simp; refine hK _ ?_; clear hK K)
            (refine boxS_want (by kernel_rfl) (fun K hK => ?_); go_simp; refine hK _ ?_; clear hK K)
            (refine boxS_want (by kernel_rfl) (fun K hK => ?_); go_simp; refine hK _ ?_; clear hK K)
            (refine boxS_want (by kernel_rfl) (fun K hK => ?_); go_simp; refine hK _ ?_; clear hK K)
            (refine boxS_want (by kernel_rfl) (fun K hK => ?_); go_simp; refine hK _ ?_; clear hK K)
            (refine boxS_want (by kernel_rfl) (fun K hK => ?_); go_simp; refine hK _ ?_; clear hK K)
            (refine boxS_want (by kernel_rfl) (fun K hK => ?_); go_simp; refine hK _ ?_; clear hK K)
            (refine boxS_want (by kernel_rfl) (fun K hK => ?_); go_simp; refine hK _ ?_; clear hK K)
            (refine boxS_want (by kernel_rfl) (fun K hK => ?_); go_simp; refine hK _ ?_; clear hK K)
            (refine boxS_step (fun K hK => ?_); go_simp; refine hK _ ?_; clear hK K)
            refine boxS_nil ?_
            change wpList _ _ _ _ _ wr.drew
            go_wp2_with fail
            go_roundw
            case rel =>
              refine ⟨q + 1, by omega, by go_num, ?_, (HTS.out.drewN 1).setCell _ _ (.inl rfl)⟩
              rw [fitQ_succ, HX.out, ← Bool.and_assoc]
              show (wr.drew.setCell _ _).heap[fb]? = _
              rw [heap_setCell_same wr.drew fb 0 _ _ _ HDR.out]
              rw [HG.out, HOK.out]; rfl
            case measure => simp [intOf]; omega
            -->c
      · have hkn : q = np := by omega
        have d1 : decide (q < np) = false := decide_eq_false hlt
        clear hlt
        subst hkn
        have hFE : (F && fitQ l m.L[k] q) = fitsTo m.L l (k + 1) := by rw [fitsTo_succ hk, HKP.out, if_pos rfl, HF.out, ← HNP.out, fitQ_end]
        have HFE := Lib.hid hFE
        obtain ⟨en, hen⟩ : ∃ en, 3 + szs (keptTo m.L l k) = en := ⟨_, rfl⟩
        have HEN := Lib.hid hen
        have hent : en ≤ t ∧ 3 ≤ en := by omega
        have heb : wr.heap[eb]? = some (.cells #[.int .i64 (en : Int)] 3 (0, 0)) := by
          rw [HTS.out.block eb (Nat.lt_of_lt_of_le L2 HB1.out.size) (NO.out _ n7), HB1.out.block eb L2, HEB0.out, hen]
        have hcb : wr.cell? ⟨eb, 0, none⟩ = some (.int .i64 (en : Int)) := by simp [World.cell?, heb]
        have hmp : IntMap wr tm k (toK m.L l k) := (HMAP.out.same (HB1.out.block tm HMAP.out.lt)).same (HTS.out.block tm (Nat.lt_of_lt_of_le HMAP.out.lt HB1.out.size) (NO.out _ n8))
        have HPE : Hid (∀ w', Calls Try.prog 45 #[.int .i64 (en : Int)] w' fun e w'' => e = .returned (.tuple #[.int .i64 (2 * (en : Int)), .bool true]) ∧ w'' = w') := fun w' => by
          have := pointer_any (en : Int) w'
          rw [show pointerV (en : Int) = (2 * (en : Int), true) by unfold pointerV; rw [if_pos (by omega)]] at this
          exact this
        obtain ⟨X, hX⟩ : ∃ X, 4 * (m.L[k].F.length : Int) + m.L[k].fmt = X := ⟨_, rfl⟩
        obtain ⟨nf, hnf⟩ : ∃ nf, m.L[k].F.length = nf := ⟨_, rfl⟩
        have hnfb : nf ≤ 256 := by rw [← hnf]; exact H.out.good.len _ (List.getElem_mem hk)
        have HNF := Lib.hid hnf
        have hXd : X / 4 = (nf : Int) := by omega
        have cX := HTS.out.cell (HB1.out.cell (p := ⟨bw, t, none⟩) (cell_lt hc0') |>.trans hc0') (NO.out _ n5)
        rw [hX] at cX
        have HXD := Lib.hid hXd
        have HMP := Lib.hid hmp
        have HEB := Lib.hid heb
        have hkm2 : k < maxLen := by unfold maxLen; omega
        have HKM2 := Lib.hid hkm2
        have hI2 : InI (2 * (en : Int)) := by unfold InI; omega
        have HI2 := Lib.hid hI2
        have HI1 := Lib.hid hoI
        have hszz := H.out.good.hi
        have hsw := lt_of_block HFB.out
        have hse := lt_of_block HEB.out
        have hl0 := cell_lt c0
        have hlm := cell_lt cm
        have hlX := cell_lt cX
        have CX := Lib.hid cX
        have C0 := Lib.hid c0
        have CMR := Lib.hid cm
        clear hkm hFE hen heb hmp hX hnf hXd hkm2 hI2 hoI
        --<d
        obtain ⟨w7, hrun7, hm7, hg7⟩ := IntMap.upd (show IntMap wr.drew tm k (toK m.L l k) from HMP.out.same rfl) HKM2.out HI1.out HI2.out
        have HM7 := Lib.hid hm7
        have HG7 := Lib.hid hg7
        clear hm7 hg7
        go_upto_region 7 with fail
        go_region_with (first | (go_at_call 45; (with_reducible refine (HPE.out _).mono ?_); rintro e w5 ⟨rfl, rfl⟩))
        all_goals
          clear hrun7
          have hg7 := HG7.out
          have hm7 := HM7.out
          have hb7 := fun j (hj : j < wr.heap.size) (hne : j ≠ tm) => (hg7.block j hj (fun e => hne (by cases e; rfl)) : w7.heap[j]? = wr.heap[j]?)
          have g7 := fun j (hj : j < wr.heap.size) (hne : j ≠ tm) o v (hc : wr.cell? ⟨j, o, none⟩ = some v) => (show w7.cell? ⟨j, o, none⟩ = some v by unfold World.cell? at hc ⊢; rw [hb7 j hj hne]; exact hc)
          have k0 := g7 s hl0 (fun e => n11 e.symm) 0 _ C0.out
          have k1 := g7 mb hlm (fun e => n10 e.symm) 0 _ CMR.out
          have k2 := g7 eb hse (fun e => n9 e.symm) 0 _ hcb
          have k3 := g7 bw hlX (fun e => n12 e.symm) t _ CX.out
          have hEB7 : w7.heap[eb]? = some (.cells #[.int .i64 (en : Int)] 3 (0, 0)) := (hb7 eb hse (fun e => n9 e.symm)).trans HEB.out
          have hFB7 : w7.heap[fb]? = some (.cells #[.bool (F && fitQ l m.L[k] q)] 4 (0, 0)) := (hb7 fb hsw (fun e => n8 e.symm)).trans HFB.out
          have kf : w7.frozen? ⟨eb, 0, none⟩ = false := by simp [World.frozen?, hEB7]
          have HEB7 := Lib.hid hEB7
          have HFB7 := Lib.hid hFB7
          have hXd := HXD.out
          have g2 : (0 : Int) ≤ (t : Int) := by omega
          have g3 : (t : Int) < (m.size : Int) := by omega
          have w1_ : IntKind.i64.wrap ((nf : Int) + 3) = (nf : Int) + 3 := by rw [IntKind.wrap_i64]; omega
          have w2_ : IntKind.i64.wrap ((en : Int) + ((nf : Int) + 3)) = (en : Int) + ((nf : Int) + 3) := by rw [IntKind.wrap_i64]; omega
          clear hb7 g7 hEB7 hFB7 hm7 hg7 c0 cm ck ct hcb cX
          go_upto_region 8 with fail
          refine wp_region_still_tail 11 (by kernel_rfl) (by kernel_rfl) ?_
          simp only [List.take_succ_cons, List.take_zero, List.drop_succ_cons, List.drop_zero]
          repeat still_step
          refine wpStill_nil ?_
          change wpList _ _ _ _ _ w7.drew
          go_wp2_with fail
          go_returns
          refine ⟨rfl, ?_, ?_, ?_, ?_⟩
          · show (w7.drew.setCell _ _).heap[fb]? = _
            rw [Below.heap_setCell _ _ _ _ (fun e => n7 e.symm), ← HFE.out]; exact HFB7.out
          · show (w7.drew.setCell _ _).heap[eb]? = _
            rw [heap_setCell_same w7.drew eb 0 _ _ _ (show w7.drew.heap[eb]? = _ from HEB7.out), keptTo_succ hk, HKP.out, if_pos rfl, szs_app, ← HEN.out, ← HNF.out]
            simp [szs]; omega
          · refine ((HM7.out.same rfl : IntMap w7.drew tm (k + 1) _).same (Below.heap_setCell _ _ _ _ n9)).congr (fun a => ?_)
            rw [toK_yes hk HKP.out, HP.out, HT.out]
            unfold toAt
            rw [HEN.out]
          · have t1 : Turns (kset fb eb tm) w wr := (Turns.of_below HB1.out).trans (HTS.out.mono (fun j _ e => .inl (e.resolve_right (fun x => x))))
            exact ((((t1.drewN 1).grown HG7.out (.inr (.inr rfl))).drewN 1).setCell _ _ (.inr (.inl rfl)))
        -->d
end Go.Proofs.Ythjjanjmiinpbaa
