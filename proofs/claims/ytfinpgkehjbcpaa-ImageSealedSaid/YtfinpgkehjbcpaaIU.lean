/- Chapter 05: the statements' example. -/
import Derived.Test.YtfinpgkehjbcpaaISnd
import Derived.Test.YtfinpgkehjbcpaaIS
import Derived.Test.YtfinpgkehjbcpaaIH
import Derived.Deep.RegionLaw
import Derived.Lib.SlBytesConst
import Derived.Lib.AppendStr
namespace Go.Proofs.Ytfinpgkehjbcpaa
open Go.ChangeShapes Go.WideShapes Go.ChangeAt Go.RowKit Go.Deep Go.Joins Go.Maps
set_option linter.unusedVariables false
set_option linter.unusedSimpArgs false
theorem nums_nil (w : World) (A : Option Addr) : Nums w A [] := fun k hk => absurd hk (by simp)
theorem wr_write {m : Hp} {js : List Int} (h : Wr m js) : writeV m js = (sealV (bodyB m js), 0) := by
  unfold writeV
  rw [if_pos ⟨h.few, h.may, h.odd⟩]
theorem write_ok {w w' : World} {m : Hp} {js : List Int} {e : Ending} (h : Wr m js) (hw : WriteP w m js e w') : ∃ A n c, e = .returned (.tuple #[.slice A n c, .int .i64 0]) ∧ n = (sealV (bodyB m js)).length ∧ n ≤ c ∧ c ≤ maxLen ∧ Bytes w' A (sealV (bodyB m js)) ∧ (∀ b off, A = some ⟨b, off, none⟩ → w.heap.size ≤ b) ∧ BInts w' w.heap.size (.slice A n c) (sealV (bodyB m js)) ∧ Below w.heap.size w w' := by
  obtain ⟨v, he, hi, hb⟩ := hw
  rw [wr_write h] at he hi
  obtain ⟨A, c, hv, h1, h2, h3, h4⟩ := hi.bytes
  subst hv
  refine ⟨A, _, c, he, rfl, h1, h2, h4, fun b off e => ?_, hi, hb⟩
  exact (World.ownsRow.lt hi b (by subst e; rfl)).1
theorem read_no {w w' : World} {b : List Int} {size k : Int} {e : Ending} (h : ReadP w b size e w') (hv : readV b size = (none, k)) : e = .returned (.tuple #[.pointer none, .slice none 0 0, .int .i64 k]) ∧ Below w.heap.size w w' := by
  obtain ⟨h1, h2⟩ := h
  rw [hv] at h1
  exact ⟨h1, h2⟩
theorem read_yes {w w' : World} {b : List Int} {size : Int} {x : Img} {e : Ending} (h : ReadP w b size e w') (hv : readV b size = (some x, 0)) : ∃ s bw bm A n c, e = .returned (.tuple #[.pointer (some ⟨s, 0, none⟩), .slice A n c, .int .i64 0]) ∧ n = (x.ws.map (realI x.ts)).length ∧ Nums w' A (x.ws.map (realI x.ts)) ∧ PM w' s bw bm ⟨size.toNat, x.made, bldL x.ts⟩ ∧ (∀ j, pset s bw bm j → w.heap.size ≤ j) ∧ Below w.heap.size w w' := by
  obtain ⟨h1, h2⟩ := h
  rw [hv] at h1
  obtain ⟨s, bw, bm, v, he, hi, hp, hj⟩ := h1
  obtain ⟨A, c, hvv, _, hn, _⟩ := hi.nums
  subst hvv
  exact ⟨s, bw, bm, A, _, c, he, rfl, hn, hp, hj, h2⟩
def liveT (A : Option Addr) : Nat → ThT := fun _ => ⟨0, 0, A, 2, 2, [-1, 7]⟩
def live0 : Hp := ⟨2000, 1, [⟨0, 0, 1, [6, 7]⟩]⟩
set_option maxRecDepth 100000 in
theorem live_made (A : Option Addr) : madeV (liveT A) 1 = live0 := by kernel_rfl
theorem live_wr (h : Good live0) : Wr live0 [6] := by
  have hs : Snd1 live0 := by rw [← live_made none]; exact snd_made _ _
  refine ⟨h, hs.1, hs.2, by decide, fun x hx => ?_, fun o ho => ?_⟩
  · rw [List.mem_singleton.1 hx]; decide
  · rw [List.mem_singleton.1 ho]; rfl
theorem nil_wr : Wr (nilHp 16) [] := by
  have hs := snd_nil 16
  exact ⟨good_nil rfl, hs.1, hs.2, by decide, fun x hx => absurd hx (by simp), fun o ho => absurd ho (by simp [nilHp])⟩
theorem nil_len : (sealV (bodyB (nilHp 16) [])).length = 11 := by
  unfold sealV bodyB nilHp tailV
  simp [cnt_small]
theorem live_read : readV (sealV (bodyB live0 [6])) 100 = (some ⟨1, tsOf live0, wsOf live0 [6]⟩, 0) ↔ True := by
  refine ⟨fun _ => trivial, fun _ => ?_⟩
  have hg : Good live0 := by
    refine ⟨by decide, by decide, by decide, by decide, fun o ho => ?_, fun o ho => ?_, fun o ho => ?_⟩
    all_goals rw [List.mem_singleton.1 ho]
    · decide
    · decide
    · refine ⟨by decide, by decide, fun x hx => ?_⟩
      have hx' : x ∈ [(6 : Int), 7] := hx
      simp at hx'
      omega
  rw [read_put (live_wr hg)]
  rw [if_pos ⟨rfl, by decide⟩]
  rfl
theorem live_things (w : World) : Calls Try.prog 10 #[.slice (some ⟨w.heap.size + 1, 0, none⟩) 1 1] ((w.alloc (.cells #[.int .i64 (-1), .int .i64 7] 3)).alloc (.cells #[.int .i64 0, .int .i64 0, .slice (some ⟨w.heap.size, 0, none⟩) 2 2] 53)) fun e w' => ∃ s r, e = .returned (.tuple #[.pointer (some ⟨s, 0, none⟩), .pointer (some ⟨r, 0, none⟩), .bool true]) ∧ ∃ bw bm R lv fv, PM w' s bw bm live0 ∧ RM w' R r live0 lv fv ∧ Below w.heap.size w w' := by
  have s1 : (w.alloc (.cells #[.int .i64 (-1), .int .i64 7] 3)).heap.size = w.heap.size + 1 := by simp
  have h0 : ((w.alloc (.cells #[.int .i64 (-1), .int .i64 7] 3)).alloc (.cells #[.int .i64 0, .int .i64 0, .slice (some ⟨w.heap.size, 0, none⟩) 2 2] 53)).heap[w.heap.size]? = some (.cells #[.int .i64 (-1), .int .i64 7] 3 (0, 0)) := by
    rw [Below.heap_alloc _ _ _ (by rw [s1]; omega)]
    exact heap_alloc_new w _
  have h2 : ((w.alloc (.cells #[.int .i64 (-1), .int .i64 7] 3)).alloc (.cells #[.int .i64 0, .int .i64 0, .slice (some ⟨w.heap.size, 0, none⟩) 2 2] 53)).heap[w.heap.size + 1]? = some (.cells #[.int .i64 0, .int .i64 0, .slice (some ⟨w.heap.size, 0, none⟩) 2 2] 53 (0, 0)) := by
    rw [← s1]
    exact heap_alloc_new _ _
  have hbl : Below w.heap.size w ((w.alloc (.cells #[.int .i64 (-1), .int .i64 7] 3)).alloc (.cells #[.int .i64 0, .int .i64 0, .slice (some ⟨w.heap.size, 0, none⟩) 2 2] 53)) := ((Below.refl _ _).alloc (Nat.le_refl _) _).alloc (by rw [s1]; omega) _
  obtain ⟨W, hW⟩ : ∃ W, ((w.alloc (.cells #[.int .i64 (-1), .int .i64 7] 3)).alloc (.cells #[.int .i64 0, .int .i64 0, .slice (some ⟨w.heap.size, 0, none⟩) 2 2] 53)) = W := ⟨_, rfl⟩
  rw [hW] at h0 h2 hbl ⊢
  clear hW s1
  have cells : ∀ j v, #[.int .i64 0, .int .i64 0, .slice (some ⟨w.heap.size, 0, none⟩) 2 2][j]? = some v → W.cell? ⟨w.heap.size + 1, j, none⟩ = some v := fun j v hj => by unfold World.cell?; rw [h2]; exact hj
  have lb := lt_of_block h2
  have IZ : InI 0 := inI_of (by decide) (by decide)
  have raw : RawT W (some ⟨w.heap.size + 1, 0, none⟩) 1 1 (liveT (some ⟨w.heap.size, 0, none⟩)) := by
    refine ⟨Nat.le_refl _, by decide, fun i hi => ?_, fun i hi => ?_⟩
    · obtain rfl : i = 0 := by omega
      exact ⟨_, 0, rfl, lb, cells 0 _ rfl, cells 1 _ rfl, cells 2 _ rfl⟩
    · refine ⟨IZ, IZ, rfl, Nat.le_refl _, (show 2 ≤ maxLen by decide), fun k hk => ⟨_, 0, rfl, lt_of_block h0, ?_⟩, fun x hx => ?_⟩
      · have hk2 : k < 2 := hk
        unfold World.cell?
        rw [h0]
        rcases (show k = 0 ∨ k = 1 by omega) with rfl | rfl <;> rfl
      · have hx' : x ∈ [(-1 : Int), 7] := hx
        simp at hx'
        exact inI_of (by omega) (by omega)
  refine (things_any raw).mono ?_
  rintro e w' ⟨s, r, rfl, hg⟩
  rw [live_made] at hg
  obtain ⟨bw, bm, R, ⟨lv, fv, P, Q, _, h4⟩, hb, q⟩ := hg
  exact ⟨s, r, rfl, bw, bm, R, lv, fv, P, Q, hbl.trans (hb.mono hbl.size)⟩
set_option maxRecDepth 100000 in
set_option maxHeartbeats 16000000 in
theorem lives_any (w : World) : Calls Try.prog 16 #[] w fun e w' => e = .returned (.bool true) ∧ Below w.heap.size w w' := by
  have HNW := Lib.hid nil_wr
  have HNL := Lib.hid nil_len
  have HTK : Hid ((sealV (bodyB (nilHp 16) [])).take 4 = [86, 73, 86, 49]) := Lib.hid (by unfold sealV; rw [List.take_append_of_le_length (by have := body_len (nilHp 16) []; omega)]; exact body_take _ _)
  have kc := fun (w : World) (C : Array Value) (n c : Nat) => Lib.run_convert_bytes_const (P := Try.prog) w 30 5 C n c Try.underlying30 Try.underlying5
  go_enter Try.func16, Try.ntmps16
  go_upto_region 2 with (first | (go_at_call 23; (with_reducible refine (pnew_any _ 16 (inI_of (by decide) (by decide))).mono ?_); simp only [if_pos (show okN 16 = true from rfl)]; rintro e w1 ⟨⟨s0, bw0, bm0, rfl, _, hp⟩, hb⟩; have HP0 := Lib.hid hp; have HB := Lib.hid hb; clear hp hb) | (go_at_call 13; (with_reducible refine (write_any HP0.out HNW.out.snd (A := none) (js := []) (n := 0) (nums_nil _ _) rfl (by omega)).mono ?_); rintro e w2 hw; obtain ⟨A1, n1, c1, rfl, hn1, hnc1, hcm1, hby1, _, _, hb1⟩ := write_ok HNW.out hw; rw [HNL.out] at hn1; subst hn1; have HBY1 := Lib.hid hby1; replace HB := Lib.hid (HB.out.trans (hb1.mono HB.out.size)); clear hw hby1 hb1))
  have HRV : Hid (readV [86, 73, 86, 49] 100 = (none, 7)) := Lib.hid rfl
  obtain ⟨W3, hW3⟩ : ∃ W3, W3 = w2.alloc (.cells #[.int .u8 86, .int .u8 73, .int .u8 86, .int .u8 49] 5 (4, 5)) := ⟨_, rfl⟩
  have hb3 : Below w2.heap.size w2 W3 := by rw [hW3]; exact (Below.refl _ _).alloc (Nat.le_refl _) _
  have hz3 : Bytes W3 (some ⟨w2.heap.size, 0, none⟩) [86, 73, 86, 49] := fun k hk => (by
    have hx : W3.heap[w2.heap.size]? = some (.cells #[.int .u8 86, .int .u8 73, .int .u8 86, .int .u8 49] 5 (4, 5)) := by rw [hW3]; exact heap_alloc_new w2 _
    refine ⟨w2.heap.size, 0, rfl, lt_of_block hx, ?_⟩
    unfold World.cell?
    rw [hx]
    have hk4 : k < 4 := by simpa using hk
    rcases (show k = 0 ∨ k = 1 ∨ k = 2 ∨ k = 3 by omega) with rfl | rfl | rfl | rfl <;> rfl)
  have HZ3 := Lib.hid hz3
  have HB3 := Lib.hid hb3
  have HI3 : Hid (IsB [86, 73, 86, 49]) := Lib.hid (fun x hx => by simp at hx; omega)
  replace HB := Lib.hid (HB.out.trans (hb3.mono HB.out.size))
  replace HBY1 := Lib.hid (HBY1.out.below hb3)
  have ks := kc w2 #[.int .u8 86, .int .u8 73, .int .u8 86, .int .u8 49] 4 4
  rw [show (w2.alloc (.cells #[.int .u8 86, .int .u8 73, .int .u8 86, .int .u8 49] 5 ((#[.int .u8 86, .int .u8 73, .int .u8 86, .int .u8 49] : Array Value).size, (#[.int .u8 86, .int .u8 73, .int .u8 86, .int .u8 49] : Array Value).size + 1))) = W3 from hW3.symm] at ks
  clear hW3 hb3 hz3 kc
  go_upto_region 3 with (first | (go_at_call 17; (with_reducible refine (read_any (n := 4) (c := 4) HZ3.out HI3.out rfl (Nat.le_refl _) (show 4 ≤ maxLen by decide) (by omega) 100 (inI_of (by decide) (by decide))).mono ?_); intro e w4 hr; obtain ⟨he, hb⟩ := read_no hr HRV.out; subst he; replace HBY1 := Lib.hid (HBY1.out.below hb); replace HB := Lib.hid (HB.out.trans (hb.mono HB.out.size)); clear hr hb))
  obtain ⟨g1, o1, hA1, _, _⟩ := HBY1.out 0 (by rw [HNL.out]; decide)
  subst hA1
  go_upto_region 6 with (first | (go_at_call 10; (with_reducible refine (live_things _).mono ?_); rintro e w5 ⟨s, r, rfl, bw, bm, R, lv, fv, hP, hQ, hb⟩; have HP := Lib.hid hP; have HQ := Lib.hid hQ; replace HBY1 := Lib.hid (HBY1.out.below hb); replace HB := Lib.hid (HB.out.trans (hb.mono HB.out.size)); clear hP hQ hb))
  have hb6 : Below w5.heap.size w5 (w5.alloc (.cells #[.int .i64 6] 3)) := (Below.refl _ _).alloc (Nat.le_refl _) _
  have HP6 := Lib.hid (HP.out.below hb6)
  have HQ6 := Lib.hid (HQ.out.below hb6)
  replace HB := Lib.hid (HB.out.trans (hb6.mono HB.out.size))
  replace HBY1 := Lib.hid (HBY1.out.below hb6)
  have HN6 : Hid (Nums (w5.alloc (.cells #[.int .i64 6] 3)) (some ⟨w5.heap.size, 0, none⟩) [6]) := Lib.hid (fun k hk => by
    obtain rfl : k = 0 := by simpa using hk
    refine ⟨w5.heap.size, 0, rfl, by simp, ?_⟩
    unfold World.cell?
    rw [heap_alloc_new w5 _]; rfl)
  have hwr := live_wr HP.out.good
  have HWR := Lib.hid hwr
  have HRL : Hid (readV (sealV (bodyB live0 [6])) 100 = (some ⟨1, tsOf live0, wsOf live0 [6]⟩, 0)) := Lib.hid (live_read.2 trivial)
  have HWB : Hid ((wsOf live0 [6]).map (realI (tsOf live0)) = [6]) := Lib.hid (ws_back hwr)
  have HBB : Hid (bldL (tsOf live0) = live0.L) := Lib.hid (bld_back hwr.good hwr.snd)
  obtain ⟨L2, hL2⟩ : ∃ L2, sealV (bodyB live0 [6]) = L2 := ⟨_, rfl⟩
  have HI2 : Hid (IsB L2) := Lib.hid (by rw [← hL2]; exact seal_isB (body_isB hwr.snd [6]))
  have hlen2 : L2.length ≤ 100000 := by rw [← hL2]; exact body_few hwr (by decide) (by decide)
  have HL2 := Lib.hid hL2
  rw [hL2] at HRL
  clear hb6 hwr hL2 HP
  go_upto_region 11 with (first | (go_at_call 13; (with_reducible refine (write_any HP6.out HWR.out.snd (A := some ⟨w5.heap.size, 0, none⟩) (js := [6]) (n := 1) HN6.out rfl (by omega)).mono ?_); intro e w6 hw; obtain ⟨A2, n2, c2, he, hn2, hnc2, hcm2, hby2, _, _, hb2⟩ := write_ok HWR.out hw; subst he; rw [HL2.out] at hn2 hby2; have hn2b : n2 ≤ 100000 := (by rw [hn2]; exact hlen2); have HN2 := Lib.hid hn2.symm; have HBY2 := Lib.hid hby2; replace HBY1 := Lib.hid (HBY1.out.below hb2); have HQ7 := Lib.hid (HQ6.out.below hb2); replace HB := Lib.hid (HB.out.trans (hb2.mono HB.out.size)); clear hw hby2 hb2 hn2) | (go_at_call 17; (with_reducible refine (read_any (n := n2) HBY2.out HI2.out HN2.out hnc2 hcm2 (by omega) 100 (inI_of (by decide) (by decide))).mono ?_); intro e w7 hr; obtain ⟨s9, bw9, bm9, A9, n9, c9, he, hn9, hnm9, hp9, hj9, hb9⟩ := read_yes hr HRL.out; subst he; rw [HWB.out] at hn9 hnm9; rw [HBB.out] at hp9; have hn9' : n9 = 1 := hn9; subst hn9'; have HN8 := Lib.hid hnm9; have HP8 := Lib.hid hp9; replace HBY1 := Lib.hid (HBY1.out.below hb9); have HQ8 := Lib.hid (HQ7.out.below hb9); replace HB := Lib.hid (HB.out.trans (hb9.mono HB.out.size)); clear hr hnm9 hp9 hj9 hb9 hn9) | (go_at_call 20; (with_reducible refine (like_any HP8.out HQ8.out rfl rfl 100 rfl).mono ?_); rintro e w8 ⟨rfl, hb⟩; have HN9 := Lib.hid (HN8.out.below hb); replace HBY1 := Lib.hid (HBY1.out.below hb); replace HB := Lib.hid (HB.out.trans (hb.mono HB.out.size)); clear hb))
  have hz1 := HBY1.out.take 4
  rw [HTK.out] at hz1
  have ks8 : (convert 30 9 (.slice (some ⟨g1, o1, none⟩) 4 c1)).run Try.prog w8 = .ok (.string ⟨#[86, 73, 86, 49]⟩) w8 := str_bytes (c := c1) hz1 rfl
  obtain ⟨g9, o9, hA9, _, hc9⟩ := HN9.out 0 (by decide)
  subst hA9
  have hc9' : w8.cell? ⟨g9, o9, none⟩ = some (.int .i64 6) := hc9
  clear hz1 hc9
  go_wp2_with fail
  go_ret
  exact ⟨rfl, HB.out⟩
end Go.Proofs.Ytfinpgkehjbcpaa
/- Chapter 05: the laws' steps. -/
namespace Go.Proofs.Ytfinpgkehjbcpaa
open Go.ChangeShapes Go.WideShapes Go.ChangeAt Go.RowKit Go.Deep Go.Joins Go.Maps
set_option linter.unusedVariables false
set_option linter.unusedSimpArgs false
theorem len_make (m : Hp) (c f n : Int) : (makeV m c f n).1.L.length ≤ m.L.length + 1 := by
  unfold makeV
  repeat' split
  · exact Nat.le_succ _
  · exact Nat.le_succ _
  · show (m.L ++ [_]).length ≤ _
    simp
theorem len_upd (L : List Ob) (a : Int) (g : Ob → Ob) : (updL L a g).length = L.length := by unfold updL; split <;> simp
theorem len_flds {t : ThT} {o : List Int} {p : Int} {m : Hp} : ∀ k, (flds t o p m k).L.length = m.L.length
  | 0 => by
    unfold flds setClassV
    repeat' split
    · simp [len_upd]
    · rfl
    · rfl
  | k + 1 => by
    have ih := len_flds (t := t) (o := o) (p := p) (m := m) k
    unfold flds putV
    repeat' split
    · exact ih
    · exact ih
    · simp [len_upd, ih]
    · exact ih
theorem len_mk1 (T : Nat → ThT) : ∀ i, (mk1 T i).L.length ≤ i
  | 0 => Nat.le_refl _
  | i + 1 => by
    have ih := len_mk1 T i
    have := len_make (mk1 T i) 0 (T i).f ((min (T i).n 6 : Nat) : Int)
    show (makeV (mk1 T i) 0 (T i).f ((min (T i).n 6 : Nat) : Int)).1.L.length ≤ i + 1
    omega
theorem len_mk2 {T : Nat → ThT} {o : List Int} {m : Hp} : ∀ i, (mk2 T o m i).1.L.length = m.L.length
  | 0 => rfl
  | i + 1 => by
    have ih := len_mk2 (T := T) (o := o) (m := m) i
    unfold mk2
    repeat' split
    · exact ih
    · exact ih
    · rw [len_flds]; exact ih
theorem len_made (T : Nat → ThT) (n : Nat) : (madeV T n).L.length ≤ 20 := by
  unfold madeV
  rw [len_mk2]
  have := len_mk1 T (min n 20)
  omega
theorem rootsN {w : World} {A B : Option Addr} {l js : List Int} {ln jn k c d : Nat} (hA : Nums w A l) (hl : l.length = ln) (hB : Nums w B js) (hj : js.length = jn) (hk : (allV l js).length = k) (hn : ln ≤ 1000000) (hm : jn ≤ maxLen) (hi : ∀ x, x ∈ js → InI x) :
    Calls Try.prog 11 #[.slice A ln c, .slice B jn d] w fun e w' => ∃ C q, e = .returned (.slice C k q) ∧ Nums w' C (allV l js) ∧ Below w.heap.size w w' := by
  subst hl hj
  refine (all_any hA hB hn hm hi).mono ?_
  rintro e w' ⟨v, rfl, _, hv, hb⟩
  obtain ⟨C, q, rfl, _, hnm, _⟩ := hv.nums
  rw [hk]
  exact ⟨C, q, rfl, hnm, hb⟩
theorem sameN' {w : World} {A B : Option Addr} {l : List Int} {n c d : Nat} (hA : Nums w A l) (hB : Nums w B l) (hl : l.length = n) (hn : n ≤ 1000000) :
    Calls Try.prog 19 #[.slice A n c, .slice B n d] w fun e w' => e = .returned (.bool true) ∧ Below w.heap.size w w' := by
  subst hl; exact same_any hA hB (Nat.le_trans hn (by decide))
/-- both memories, behind a world -/
structure MM (w wc : World) (s bw bm r : Nat) (R : Nat → Prop) (m : Hp) (lv : Value) (fv : Nat → Value) : Prop where
  p : PM wc s bw bm m
  q : RM wc R r m lv fv
  b : Below w.heap.size w wc
theorem MM.below {w wc w' : World} {s bw bm r : Nat} {R : Nat → Prop} {m : Hp} {lv : Value} {fv : Nat → Value} (h : MM w wc s bw bm r R m lv fv) (hb : Below wc.heap.size wc w') : MM w w' s bw bm r R m lv fv := ⟨h.p.below hb, h.q.below hb, h.b.trans (hb.mono h.b.size)⟩
theorem madeM {w : World} {A : Option Addr} {n c : Nat} {T : Nat → ThT} (hR : RawT w A n c T) {m : Hp} (hm : madeV T n = m) : Calls Try.prog 10 #[.slice A n c] w fun e w' => ∃ s bw bm r R lv fv, e = .returned (.tuple #[.pointer (some ⟨s, 0, none⟩), .pointer (some ⟨r, 0, none⟩), .bool true]) ∧ MM w w' s bw bm r R m lv fv := by
  subst hm
  refine (things_any hR).mono ?_
  rintro e w' ⟨s, r, rfl, bw, bm, R, ⟨lv, fv, P, Q, _⟩, hb, _⟩
  exact ⟨s, bw, bm, r, R, lv, fv, rfl, P, Q, hb⟩
theorem wr_made {T : Nat → ThT} {n : Nat} {js : List Int} (hG : Good (madeV T n)) (hl : js.length ≤ 10) (hm : ∀ x, x ∈ js → mayV (madeV T n).L x = true) (ho : ∀ o, o ∈ (madeV T n).L → oddO o = false) : Wr (madeV T n) js :=
  ⟨hG, (snd_made T n).1, (snd_made T n).2, by omega, hm, ho⟩
theorem write_bad {w w' : World} {m : Hp} {js : List Int} {e : Ending} (h : writeV m js = ([], 1)) (hw : WriteP w m js e w') : ∃ A c, e = .returned (.tuple #[.slice A 0 c, .int .i64 1]) ∧ Below w.heap.size w w' := by
  obtain ⟨v, he, hi, hb⟩ := hw
  rw [h] at he hi
  obtain ⟨A, c, hv, _⟩ := hi.bytes
  subst hv
  exact ⟨A, c, he, hb⟩
end Go.Proofs.Ytfinpgkehjbcpaa
/- Chapter 05: bytes told the same. -/
namespace Go.Proofs.Ytfinpgkehjbcpaa
open Go.ChangeShapes Go.WideShapes Go.ChangeAt Go.RowKit Go.Deep Go.Joins Go.Maps
set_option linter.unusedVariables false
set_option linter.unusedSimpArgs false
set_option maxRecDepth 100000 in
set_option maxHeartbeats 16000000 in
theorem bytes_any {w : World} {A B : Option Addr} {zs : List Int} {n c d : Nat} (hA : Bytes w A zs) (hB : Bytes w B zs) (hl : zs.length = n) (h0 : 0 < n) : Calls Try.prog 15 #[.slice A n c, .slice B n d] w fun e w' => e = .returned (.bool true) ∧ w' = w := by
  obtain ⟨g1, o1, e1, y1, z1⟩ := hA 0 (by omega)
  obtain ⟨g2, o2, e2, y2, z2⟩ := hB 0 (by omega)
  subst e1 e2
  clear y1 z1 y2 z2
  have k1 := str_bytes (c := c) hA hl
  have k2 := str_bytes (c := d) hB hl
  obtain ⟨st, hst⟩ : ∃ st, strOfNums zs = st := ⟨_, rfl⟩
  rw [hst] at k1 k2
  clear hA hB hl hst
  go_enter Try.func15, Try.ntmps15
  go_wp2_with fail
  go_ret
  exact ⟨ret_bool (by simp), rfl⟩
/-- a row of bytes in memory, whatever they are -/
def RowB (w : World) (g n : Nat) : Prop := ∃ C : Array Value, w.heap[g]? = some (.cells C 5 (0, 0)) ∧ n ≤ C.size
theorem RowB.cell {w : World} {g n k : Nat} (h : RowB w g n) (hk : k < n) : (∃ v, w.cell? ⟨g, k, none⟩ = some v) ∧ w.frozen? ⟨g, k, none⟩ = false := by
  obtain ⟨C, h1, h2⟩ := h
  exact ⟨⟨C[k]'(by omega), by simp [World.cell?, h1, Array.getElem?_eq_getElem (show k < C.size by omega)]⟩, by simp [World.frozen?, h1]⟩
theorem RowB.set {w : World} {g n k : Nat} (h : RowB w g n) (v : Value) : RowB (w.setCell ⟨g, k, none⟩ v) g n := by
  obtain ⟨C, h1, h2⟩ := h
  exact ⟨_, heap_setCell_same w g k _ _ _ h1, by simpa using h2⟩
theorem RowB.turns {w w' : World} {g n : Nat} {T : Nat → Prop} (h : RowB w g n) (ht : Turns T w w') (hd : ¬ T g) : RowB w' g n := by
  obtain ⟨C, h1, h2⟩ := h
  exact ⟨C, (ht.block g (lt_of_block h1) hd).trans h1, h2⟩
theorem BInts.rowB {w : World} {base g o n c : Nat} {zs : List Int} (h : BInts w base (.slice (some ⟨g, o, none⟩) n c) zs) (hn : n = zs.length) : o = 0 ∧ RowB w g n := by
  rcases h.2 with ⟨h1, _⟩ | ⟨g', cap, cur, hv, hg, hh, h1, h2, h3, _⟩
  · cases h1
  · cases hv
    exact ⟨rfl, cur, hh, by omega⟩
theorem BInts.bytesAt {w : World} {base n c : Nat} {A : Option Addr} {zs : List Int} (h : BInts w base (.slice A n c) zs) : Bytes w A zs := by
  obtain ⟨A', c', e, _, _, _, hb⟩ := h.bytes
  cases e
  exact hb
end Go.Proofs.Ytfinpgkehjbcpaa
/- Chapter 05: bytes that were handed in. -/
namespace Go.Proofs.Ytfinpgkehjbcpaa
open Go.ChangeShapes Go.WideShapes Go.ChangeAt Go.RowKit Go.Deep Go.Joins Go.Maps
set_option linter.unusedVariables false
set_option linter.unusedSimpArgs false
/-- bytes that were handed in -/
structure RawB (w : World) (A : Option Addr) (n c : Nat) (b : List Int) : Prop where
  len : b.length = n
  le : n ≤ c
  cap : c ≤ maxLen
  bytes : Bytes w A b
  isB : IsB b
  nil : A = none → c = 0
theorem RawB.below {w w' : World} {A : Option Addr} {n c : Nat} {b : List Int} (h : RawB w A n c b) (hb : Below w.heap.size w w') : RawB w' A n c b := ⟨h.len, h.le, h.cap, h.bytes.below hb, h.isB, h.nil⟩
section
variable {H : Type} {enc : TypeId × Value → H} {w : World} {base b0 : Nat} {spare : Nat → Bool} {held : Bool} {r : Go.Reach}
theorem open_bytes {v : Value} {d : DataW H} {p : List MemPlace} (hv : Value.okWide Try.prog w r b0 30 v) (h : DataW.Trod enc Try.prog w base spare held 30 v d p) :
    ∃ A n c b, v = .slice A n c ∧ RawB w A n c b := by
  obtain ⟨a, n, c, rfl⟩ := okWide_slice Try.underlying30 hv
  obtain ⟨fuel, hf⟩ := h
  obtain ⟨A, n', c', F, e, hl, hm, hR, hw⟩ := open_nums Try.underlying30 Try.underlying5 (by kernel_rfl) hf
  have e2 := e
  simp [Value.cells] at e2
  obtain ⟨rfl, rfl, rfl⟩ := e2
  refine ⟨_, _, _, (List.range n).map F, rfl, by simp, hl, hm, fun k hk => ?_, fun x hx => ?_, fun hA => ?_⟩
  · have hk' : k < n := by simpa using hk
    obtain ⟨b, off, e1, hlt, hc⟩ := hR (by omega)
    refine ⟨b, off, e1, hlt, ?_⟩
    have := hc k hk' 0 (by omega)
    simpa using this
  · obtain ⟨i, hi, rfl⟩ := List.mem_map.1 hx
    have := hw i (List.mem_range.1 hi)
    simp [Lit.wf, show IntKind.u8.min = 0 from rfl, show IntKind.u8.max = 255 from rfl] at this
    omega
  · subst hA
    rcases DataW.trod_slice Try.underlying30 hf with ⟨e, _⟩ | ⟨a, len, cap, _, _, _, _, e, _⟩
    · simp [Value.cells] at e; exact e.2
    · simp [Value.cells] at e
end
/-- the first four bytes are put -/
theorem wpList_magic {w : World} {ops : Array Oper} {rest : List Oper} {o : Oper} {a : Act} {Q : Exit → Act → World → Prop} (hgd : o.guard = none) (sl x : Operand)
    (ho : o.op = .call { callee := .builtin .append, args := #[sl, x], argTypes := #[30, 9] }) (hs : a.eval sl = .slice none 0 0) (hx : a.eval x = .string ⟨#[86, 73, 86, 49]⟩)
    (h : ∀ v' w', BInts w' w.heap.size v' magicB → Below w.heap.size w w' → wpList Try.prog ops Q rest (a.put o.dst v') w') : wpList Try.prog ops Q (o :: rest) a w := by
  obtain ⟨i0, hi, hz0, hz1, hz2⟩ := info_parts infoB
  refine Lib.wpList_append_own_string (P := Try.prog) w hgd sl x 30 9 ho w.heap.size 5 i0 Try.underlying30 Try.underlying9 hi hz0 hz1 hz2 (.slice none 0 0) 0 [] hs (World.ownsRow_nil _ _ _ _) ⟨#[86, 73, 86, 49]⟩ hx (by decide) (by decide) (Nat.le_refl _) ?_
  intro v' w' h2 h3 _
  exact h v' w' h2 (below_of_append (BInts.nil w w.heap.size) h3 (Nat.le_refl _))
theorem sealedN {w : World} {A : Option Addr} {n c : Nat} {zs : List Int} (hB : Bytes w A zs) (hc0 : A = none → c = 0) (hI : IsB zs) (hl : zs.length = n) (hz : n ≤ 900000000) : Calls Try.prog 21 #[.slice A n c] w fun e w' => ∃ A3 n3 c3, e = .returned (.slice A3 n3 c3) ∧ n3 = (sealV zs).length ∧ n3 ≤ c3 ∧ c3 ≤ maxLen ∧ Bytes w' A3 (sealV zs) ∧ Below w.heap.size w w' := by
  subst hl
  refine (rsealed_any hB hc0 hI hz).mono ?_
  rintro e w' ⟨v, rfl, hi, hb⟩
  obtain ⟨A3, c3, hv, h1, h2, _, h4⟩ := hi.bytes
  subst hv
  exact ⟨A3, _, c3, rfl, rfl, h1, h2, h4, hb⟩
theorem read_one {z : List Int} (hz : IsB z) : imgV (sealV (magicB ++ z)) = parse z := by
  rw [img_seal (by simp [magicB]) (by simp [magicB])]
  simp [magicB]
end Go.Proofs.Ytfinpgkehjbcpaa
