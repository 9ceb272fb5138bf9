/- Chapter 05: bytes are read. -/
import Derived.Test.YtfinpgkehjbcpaaIParse
import Derived.Test.YtfinpgkehjbcpaaIQ
import Derived.Test.YtfinpgkehjbcpaaNEW
import Derived.Laws.BytesArg
import Derived.Lib.EndianBits
import Derived.Lib.Bytes
import Derived.Deep.CutBlock
namespace Go.Proofs.Ytfinpgkehjbcpaa
open Go.ChangeShapes Go.WideShapes Go.ChangeAt Go.RowKit Go.Deep Go.Joins Go.Maps
set_option linter.unusedVariables false
set_option linter.unusedSimpArgs false
theorem Bytes.take {w : World} {A : Option Addr} {zs : List Int} (h : Bytes w A zs) (k : Nat) : Bytes w A (zs.take k) := fun i hi => by
  have hi' : i < zs.length := by rw [List.length_take] at hi; omega
  obtain ⟨b, off, e, hl, hc⟩ := h i hi'
  exact ⟨b, off, e, hl, by rw [List.getElem_take]; exact hc⟩
theorem Bytes.drop {w : World} {g off : Nat} {zs : List Int} (h : Bytes w (some ⟨g, off, none⟩) zs) (k : Nat) : Bytes w (some ⟨g, off + k, none⟩) (zs.drop k) := fun i hi => by
  have hi' : k + i < zs.length := by rw [List.length_drop] at hi; omega
  obtain ⟨b, o, e, hl, hc⟩ := h (k + i) hi'
  cases e
  exact ⟨g, off + k, rfl, hl, by rw [List.getElem_drop, Nat.add_assoc]; exact hc⟩
theorem str_bytes {w : World} {g off n c : Nat} {zs : List Int} (h : Bytes w (some ⟨g, off, none⟩) zs) (hl : zs.length = n) : (convert 30 9 (.slice (some ⟨g, off, none⟩) n c)).run Try.prog w = .ok (.string (strOfNums zs)) w :=
  run_convert_bytes_arg (P := Try.prog) w 30 5 Try.underlying30 Try.underlying5 g off n c zs hl (fun i hi => by
    obtain ⟨b, o, e, _, hc⟩ := h i (by omega)
    cases e
    rw [List.getD_eq_getElem?_getD, List.getElem?_eq_getElem (by omega)]
    exact hc) 9 Try.underlying9
theorem u8s_inj : ∀ {a b : List Int}, IsB a → IsB b → a.map (fun n => UInt8.ofNat n.toNat) = b.map (fun n => UInt8.ofNat n.toNat) → a = b := by
  intro a b ha hb h1
  have hl : a.length = b.length := by have := congrArg List.length h1; simpa using this
  refine List.ext_getElem hl (fun i h2 h3 => ?_)
  have h4 : (a.map (fun n => UInt8.ofNat n.toNat))[i]? = (b.map (fun n => UInt8.ofNat n.toNat))[i]? := by rw [h1]
  rw [List.getElem?_map, List.getElem?_map, List.getElem?_eq_getElem h2, List.getElem?_eq_getElem h3] at h4
  have h5 : UInt8.ofNat (a[i].toNat) = UInt8.ofNat (b[i].toNat) := by simpa using h4
  have h6 := congrArg UInt8.toNat h5
  have b1 := ha a[i] (List.getElem_mem h2)
  have b2 := hb b[i] (List.getElem_mem h3)
  simp only [UInt8.toNat_ofNat'] at h6
  omega
theorem or_four {x0 x1 x2 x3 : Int} (h0 : 0 ≤ x0 ∧ x0 ≤ 255) (h1 : 0 ≤ x1 ∧ x1 ≤ 255) (h2 : 0 ≤ x2 ∧ x2 ≤ 255) (h3 : 0 ≤ x3 ∧ x3 ≤ 255) : bits .or .u32 (bits .or .u32 (bits .or .u32 x0 (x1 * 256)) (x2 * 65536)) (x3 * 16777216) = x0 + x1 * 256 + x2 * 65536 + x3 * 16777216 := by
  rw [Go.u32_or8 x0 (x1 * 256) (by omega) (by omega) (by omega) (by omega) (by omega), Go.u32_or16 (x0 + x1 * 256) (x2 * 65536) (by omega) (by omega) (by omega) (by omega) (by omega), Go.u32_or24 (x0 + x1 * 256 + x2 * 65536) (x3 * 16777216) (by omega) (by omega) (by omega) (by omega) (by omega)]
theorem magic_isB : IsB magicB := fun x hx => by unfold magicB at hx; simp at hx; omega
def ReadP (w : World) (b : List Int) (size : Int) (e : Ending) (w' : World) : Prop := (match (readV b size).1 with
  | some x => ∃ s bw bm v, e = .returned (.tuple #[.pointer (some ⟨s, 0, none⟩), v, .int .i64 0]) ∧ Ints w' w.heap.size v (x.ws.map (realI x.ts)) ∧ PM w' s bw bm ⟨size.toNat, x.made, bldL x.ts⟩ ∧ ∀ j, pset s bw bm j → w.heap.size ≤ j
  | none => e = .returned (.tuple #[.pointer none, .slice none 0 0, .int .i64 (readV b size).2])) ∧ Below w.heap.size w w'
theorem TRow.shape {w : World} {base : Nat} {v : Value} {ts : List (Tng × Value)} (h : TRow w base v ts) : ∃ A c, v = .slice A ts.length c := by
  rcases h.1.2 with ⟨h1, h0⟩ | ⟨g, cap, cur, hv, _⟩
  · exact ⟨none, 0, by rw [h1, show ts.length = 0 from h0]⟩
  · exact ⟨_, cap, hv⟩
/-- a row of things stays where what turns lies behind a world that had it -/
theorem trow_apart {w w1 w2 : World} {base : Nat} {v : Value} {ts : List (Tng × Value)} {T : Nat → Prop} (h : TRow w1 base v ts) (h0 : TRow w base v ts) (ht : Turns T w1 w2) (hT : ∀ z, T z → w.heap.size ≤ z) : TRow w2 base v ts := by
  refine ⟨⟨h.1.1, ?_⟩, fun p hp => ?_⟩
  · rcases h.1.2 with h1 | ⟨g, cap, cur, hv, hg, hh, rest⟩
    · exact .inl h1
    · have hl := (World.ownsRow.lt h0.1 g (by rw [hv]; rfl)).2
      exact .inr ⟨g, cap, cur, hv, hg, (ht.block g (lt_of_block hh) (fun q => by have := hT g q; omega)).trans hh, rest⟩
  · obtain ⟨A, c, h1, h2, h3, h4⟩ := h.2 p hp
    obtain ⟨A', c', k1, k2, _⟩ := h0.2 p hp
    rw [h1] at k1
    cases k1
    refine ⟨A, c, h1, nums_turns0 h2 ht (fun b off e z q => ?_), h3, h4⟩
    obtain ⟨b', off', e', hlt, _⟩ := k2 0 z
    rw [e] at e'
    cases e'
    have := hT b q
    omega
theorem pset_ge {B s bw bm : Nat} (h : B ≤ s ∧ B ≤ bw ∧ B ≤ bm) (j : Nat) (hj : pset s bw bm j) : B ≤ j := by
  rcases hj with e | e | e <;> omega
theorem readP_no {w w' : World} {b : List Int} {size : Int} {e : Ending} (h : imgV b = none) (he : e = .returned (.tuple #[.pointer none, .slice none 0 0, .int .i64 7])) (hb : Below w.heap.size w w') : ReadP w b size e w' := by
  have h2 : readV b size = (none, 7) := by unfold readV; rw [h]
  refine ⟨?_, hb⟩
  rw [h2]; exact he
set_option maxRecDepth 100000 in
set_option maxHeartbeats 16000000 in
theorem read_any {w : World} {A : Option Addr} {n c : Nat} {b : List Int} (hB : Bytes w A b) (hI : IsB b) (hn : b.length = n) (hc : n ≤ c) (hcm : c ≤ maxLen) (hnb : n ≤ 1000000) (size : Int) (hsi : InI size) : Calls Try.prog 17 #[.slice A n c, .int .i64 size] w (ReadP w b size) := by
  have HB := Lib.hid hB
  have HI := Lib.hid hI
  have HN := Lib.hid hn
  by_cases h8 : n < 8
  · have d1 : decide ((n : Int) - 4 < 4) = true := decide_eq_true (by omega)
    have d1' : (n : Int) - 4 < 4 := by omega
    have HNO : Hid (imgV b = none) := Lib.hid (by unfold imgV; rw [if_neg (fun q => by have := q.1; omega)])
    clear hB hI hn
    go_enter Try.func17, Try.ntmps17
    go_wp2_with fail
    go_returns
    exact readP_no HNO.out rfl (by (repeat' (first | (with_reducible exact Below.refl _ _) | (with_reducible assumption) | (with_reducible refine below_drewN ?_ _) | (with_reducible refine Below.alloc ?_ ?_ _) | (with_reducible refine Below.drew ?_) | (with_reducible refine Below.setCell ?_ ?_ _) | go_size)))
  obtain ⟨m, hm⟩ : ∃ m : Nat, n = m + 4 := ⟨n - 4, by omega⟩
  subst hm
  have d1 : decide ((m : Int) + 4 - 4 < 4) = false := decide_eq_false (by omega)
  have d1' : ¬ (m : Int) < 4 := by omega
  obtain ⟨g, off, hA, hlg, hdum⟩ := hB 0 (by omega)
  subst hA
  clear hdum
  have hs4 := str_bytes (c := c) (hB.take 4) (show (b.take 4).length = 4 by rw [List.length_take]; omega)
  by_cases hmg : b.take 4 = magicB
  · rw [hmg] at hs4
    have ks : (convert 30 9 (.slice (some ⟨g, off, none⟩) 4 c)).run Try.prog w = .ok (.string ⟨#[86, 73, 86, 49]⟩) w := hs4
    have HMG := Lib.hid hmg
    have hcl : ∀ j (hj : j < 4), ∃ x, b[m + j]? = some x ∧ (0 ≤ x ∧ x ≤ 255) ∧ w.cell? ⟨g, off + (m + j), none⟩ = some (.int .u8 x) := fun j hj => (by
      have hmj : m + j < b.length := by omega
      obtain ⟨g', o', e, _, hc'⟩ := hB (m + j) hmj
      cases e
      exact ⟨b[m + j], List.getElem?_eq_getElem hmj, hI _ (List.getElem_mem hmj), hc'⟩)
    obtain ⟨x0, e0, b0, c0⟩ := hcl 0 (by omega)
    obtain ⟨x1, e1, b1, c1⟩ := hcl 1 (by omega)
    obtain ⟨x2, e2, b2, c2⟩ := hcl 2 (by omega)
    obtain ⟨x3, e3, b3, c3⟩ := hcl 3 (by omega)
    rw [Nat.add_zero] at c0 e0
    have HE := Lib.hid (And.intro e0 (And.intro e1 (And.intro e2 e3)))
    have i0 : (0 : Int) ≤ (m : Int) := by omega
    have i1 : IntKind.i64.wrap ((m : Int) + 1) = (m : Int) + 1 := IntWalk.i64_in _ ⟨by omega, by omega⟩
    have i2 : IntKind.i64.wrap ((m : Int) + 2) = (m : Int) + 2 := IntWalk.i64_in _ ⟨by omega, by omega⟩
    have i3 : IntKind.i64.wrap ((m : Int) + 3) = (m : Int) + 3 := IntWalk.i64_in _ ⟨by omega, by omega⟩
    have t1 : ((m : Int) + 1).toNat = m + 1 := by omega
    have t2 : ((m : Int) + 2).toNat = m + 2 := by omega
    have t3 : ((m : Int) + 3).toNat = m + 3 := by omega
    have p1 : (0 : Int) ≤ (m : Int) + 1 := by omega
    have p2 : (0 : Int) ≤ (m : Int) + 2 := by omega
    have p3 : (0 : Int) ≤ (m : Int) + 3 := by omega
    have l0 : (m : Int) < (m : Int) + 4 := by omega
    have l1 : (m : Int) + 1 < (m : Int) + 4 := by omega
    have l2 : (m : Int) + 2 < (m : Int) + 4 := by omega
    have l3 : (m : Int) + 3 < (m : Int) + 4 := by omega
    clear hs4 hmg hB hI hn hcl e0 e1 e2 e3
    go_enter Try.func17, Try.ntmps17
    go_upto_region 4 with fail
    go_quiet (fail)
    rw [or_four b0 b1 b2 b3]
    obtain ⟨y, hy⟩ : ∃ y, x0 + x1 * 256 + x2 * 65536 + x3 * 16777216 = y := ⟨_, rfl⟩
    rw [hy]
    obtain ⟨w1, hw1⟩ : ∃ w1, w1 = w.drewN nq := ⟨_, rfl⟩
    have HBW1 : Hid (Below w.heap.size w w1) := Lib.hid (by rw [hw1]; exact below_drewN (Below.refl _ _) nq)
    have HB1 : Hid (Bytes w1 (some ⟨g, off, none⟩) b) := Lib.hid (HB.out.below (by rw [hw1]; exact below_drewN (Below.refl _ _) nq))
    rw [← hw1]
    clear hw1 c0 c1 c2 c3 i0 i1 i2 i3 t1 t2 t3 p1 p2 p3 l0 l1 l2 l3 ks d1
    have hbm : (b.take m).length = m := by rw [List.length_take, HN.out]; omega
    have hsum := sum_any (c := c) (HB1.out.take m) (fun x hx => HI.out x (List.mem_of_mem_take hx)) (by rw [hbm]; omega)
    rw [hbm] at hsum
    obtain ⟨sm, hsm⟩ : ∃ sm, sumV (b.take m) = sm := ⟨_, rfl⟩
    have hsb := sum_bd (b.take m)
    rw [hsm] at hsum hsb
    have HSU := Lib.hid hsum
    have hdrop : b.drop m = [x0, x1, x2, x3] := by
      obtain ⟨e0, e1, e2, e3⟩ := HE.out
      apply List.ext_getElem?
      intro i
      rw [List.getElem?_drop]
      match i with
      | 0 => exact e0
      | 1 => exact e1
      | 2 => exact e2
      | 3 => exact e3
      | i + 4 => rw [List.getElem?_eq_none (by rw [HN.out]; omega)]; rfl
    have htl : ([x0, x1, x2, x3] = tailV sm) ↔ y = sm := by
      unfold tailV
      constructor
      · intro q
        simp only [List.cons.injEq, and_true] at q
        obtain ⟨q0, q1, q2, q3⟩ := q
        omega
      · intro q
        have z0 : x0 = sm % 256 := by omega
        have z1 : x1 = sm / 256 % 256 := by omega
        have z2 : x2 = sm / 65536 % 256 := by omega
        have z3 : x3 = sm / 16777216 % 256 := by omega
        rw [← z0, ← z1, ← z2, ← z3]
    have HBL : Hid (b.length - 4 = m) := Lib.hid (by rw [HN.out]; omega)
    by_cases hys : y = sm
    · have k1 : decide (y = sm) = true := decide_eq_true hys
      have HIM : Hid (imgV b = parse ((b.take m).drop 4)) := Lib.hid (by
        unfold imgV
        rw [HBL.out, if_pos ⟨by rw [HN.out]; omega, HMG.out, by rw [hdrop, hsm]; exact htl.2 hys⟩])
      subst hys
      obtain ⟨q, hq⟩ : ∃ q, m - 4 = q := ⟨_, rfl⟩
      have hbq : ((b.take m).drop 4).length = q := by rw [List.length_drop, hbm, hq]
      obtain ⟨l, hl⟩ : ∃ l, (b.take m).drop 4 = l := ⟨_, rfl⟩
      rw [hl] at HIM hbq
      have HLB : Hid (Bytes w1 (some ⟨g, off + 4, none⟩) l) := Lib.hid (by rw [← hl]; exact (HB1.out.take m).drop 4)
      have HLI : Hid (IsB l) := Lib.hid (fun x hx => HI.out x (by rw [← hl] at hx; exact List.mem_of_mem_take (List.mem_of_mem_drop hx)))
      have HLQ := Lib.hid hbq
      have HQ := Lib.hid hq
      have hqb : q ≤ 1000000 := by omega
      clear hsum hsm hdrop htl hbm hq hbq hl k1 hsb hy
      go_upto_region 8 with (first | (go_at_call 41; (with_reducible refine HSU.out.mono ?_); rintro e w2 ⟨rfl, hb2⟩; have HB2 := Lib.hid hb2; clear hb2))
      obtain ⟨rb, hrb⟩ : ∃ rb, rb = w2.heap.size := ⟨_, rfl⟩
      have hbw2 : Below w.heap.size w w2 := HBW1.out.trans (HB2.out.mono HBW1.out.size)
      rw [HQ.out]
      obtain ⟨W3, hW3⟩ : ∃ W3, W3 = w2.alloc (.cells #[.slice (some ⟨g, off + 4, none⟩) q (c - 4), .bool false] 79) := ⟨_, rfl⟩
      have hb3 : Below w2.heap.size w2 W3 := by rw [hW3]; exact (Below.refl _ _).alloc (Nat.le_refl _) _
      have hx3 : W3.heap[rb]? = some (.cells #[.slice (some ⟨g, off + 4, none⟩) q (c - 4), .bool false] 79 (0, 0)) := by rw [hW3, hrb]; exact heap_alloc_new w2 _
      have HRB : Hid (w.heap.size ≤ rb ∧ g < w.heap.size) := Lib.hid ⟨by rw [hrb]; exact hbw2.size, hlg⟩
      have HR : Hid (RS W3 rb g (some l) ∧ Below w.heap.size w W3) := Lib.hid ⟨⟨some ⟨g, off + 4, none⟩, c - 4, l, by rw [HLQ.out]; exact hx3, by rw [HLQ.out]; have := HQ.out; omega, by omega, (HLB.out.below HB2.out).below hb3, HLI.out, ⟨fun b' o' e => by cases e; rfl, by have := HRB.out; omega⟩, fun l' e => by cases e; rfl⟩, hbw2.trans (hb3.mono hbw2.size)⟩
      rw [← hW3, ← hrb]
      clear hW3 hrb hb3 hx3 hbw2
      obtain ⟨made, s1, hca⟩ : ∃ n s, cntR 1099511627776 (some l) = (n, s) := ⟨_, _, rfl⟩
      obtain ⟨many, s2, hcc⟩ : ∃ n s, cntR 1099511627776 s1 = (n, s) := ⟨_, _, rfl⟩
      obtain ⟨bm, hbm⟩ : ∃ bm, decide (many ≤ made) = bm := ⟨_, rfl⟩
      obtain ⟨s3, hs3⟩ : ∃ s3, mustR bm s2 = s3 := ⟨_, rfl⟩
      obtain ⟨ts, s4, hob⟩ : ∃ n s, objsR many s3 = (n, s) := ⟨_, _, rfl⟩
      obtain ⟨kr, s5, hck⟩ : ∃ n s, cntR 4000 s4 = (n, s) := ⟨_, _, rfl⟩
      obtain ⟨ws, s6, hwr⟩ : ∃ n s, wrdsR kr s5 = (n, s) := ⟨_, _, rfl⟩
      have hpA : parseA l = (made, s1) := hca
      have hpC : parseC l = (many, s2) := by unfold parseC; rw [hpA]; exact hcc
      have hpO : parseO l = (ts, s4) := by unfold parseO; rw [hpC, hpA]; show objsR many (mustR (decide (many ≤ made)) s2) = _; rw [hbm, hs3, hob]
      have hpK : parseK l = (kr, s5) := by unfold parseK; rw [hpO]; exact hck
      have hpW : parseW l = (ws, s6) := by unfold parseW; rw [hpK]; exact hwr
      have HPA : Hid (parse l = if s6 = some [] ∧ fitsV ts ws = true then some ⟨made, ts, ws⟩ else none) := Lib.hid (by unfold parse; rw [hpW, hpO, hpA])
      have HPQ : Hid ((parseA l).1 = made ∧ (parseO l).1 = ts ∧ parseW l = (ws, s6)) := Lib.hid ⟨by rw [hpA], by rw [hpO], hpW⟩
      have HL3 : Hid (∀ l', s3 = some l' → l'.length ≤ q) := Lib.hid (fun l' e => by
        rw [← hs3] at e
        obtain ⟨_, e2⟩ := mustR_some e
        have e3 : (cntR 1099511627776 s1).2 = some l' := by rw [hcc]; exact e2
        cases s1 with
        | none => cases e3
        | some l1 =>
          obtain ⟨_, k1, _⟩ := cntR_isB e3
          obtain ⟨_, k2, _⟩ := cntR_isB (show (cntR 1099511627776 (some l)).2 = some l1 by rw [hca])
          have := HLQ.out
          omega)
      have hmadeb : made ≤ 1099511627776 := by have := cntR_le 1099511627776 (some l); rw [hca] at this; exact this
      have hmanyb : many ≤ 1099511627776 := by have := cntR_le 1099511627776 s1; rw [hcc] at this; exact this
      have hkrb : kr ≤ 4000 := by have := cntR_le 4000 s4; rw [hck] at this; exact this
      have HCA := Lib.hid hca
      have HCC := Lib.hid hcc
      have HS3 := Lib.hid hs3
      have HOB := Lib.hid hob
      have HCK := Lib.hid hck
      have HWR := Lib.hid hwr
      have k2 : decide ((many : Int) ≤ (made : Int)) = bm := by rw [← hbm]; exact decide_eq_decide.2 (by omega)
      clear hca hcc hs3 hob hck hwr hpA hpC hpO hpK hpW HLB
      --<a
      go_upto_block 0 with (first | (go_at_call 46; (with_reducible refine (count_lit HR.out.1 1099511627776 1099511627776 rfl (by omega)).mono ?_); rw [HCA.out]; rintro e w4 ⟨rfl, hr4, ht4⟩; replace HR := Lib.hid (And.intro hr4 (HR.out.2.trans (ht4.below (fun k z => by have := HRB.out; unfold rset at z; omega) HR.out.2.size))); clear hr4 ht4) | (go_at_call 46; (with_reducible refine (count_lit HR.out.1 1099511627776 1099511627776 rfl (by omega)).mono ?_); rw [HCC.out]; rintro e w4 ⟨rfl, hr4, ht4⟩; replace HR := Lib.hid (And.intro hr4 (HR.out.2.trans (ht4.below (fun k z => by have := HRB.out; unfold rset at z; omega) HR.out.2.size))); clear hr4 ht4) | (go_at_call 47; (with_reducible refine (must_any HR.out.1 bm).mono ?_); rintro e w4 ⟨rfl, hr4, ht4⟩; replace HR := Lib.hid (And.intro hr4 (HR.out.2.trans (ht4.below (fun k z => by have := HRB.out; unfold rset at z; omega) HR.out.2.size))); clear hr4 ht4))
      rw [HS3.out] at HR
      have HS0 : Hid (w.heap.size ≤ w4.heap.size ∧ rb < w4.heap.size) := Lib.hid ⟨HR.out.2.size, HR.out.1.lt⟩
      --<b
      go_cut [12, 13] (fun v nd wx => ∃ (ps : List (Tng × Value)) (LA : Option Addr) (lc : Nat), v = .slice LA ps.length lc ∧ TRow wx w4.heap.size (.slice LA ps.length lc) ps ∧ ps.map Prod.fst = ts ∧ nd = .int .i64 ((3 + szT ts : Nat) : Int) ∧ (RS wx rb g s4 ∧ Below w.heap.size w wx) ∧ w4.heap.size ≤ wx.heap.size ∧ ps.length ≤ q + 1 ∧ 3 + szT ts ≤ 259 * (q + 1) + 3 ∧ (∀ p, p ∈ ps → p.1.F.length ≤ 256))
      case first =>
        go_wp2_with fail
        go_loopw [12, 13, 14] (fun v nd i wr => ∃ (k : Nat) (ps : List (Tng × Value)) (LA : Option Addr) (lc need : Nat) (σk : RdS), i = .int .i64 k ∧ k ≤ many ∧ ps.length = k ∧ v = .slice LA k lc ∧ TRow wr w4.heap.size (.slice LA k lc) ps ∧ nd = .int .i64 (need : Int) ∧ need = 3 + szT (ps.map Prod.fst) ∧ need ≤ 259 * k + 3 ∧ (RS wr rb g σk ∧ Below w.heap.size w wr) ∧ w4.heap.size ≤ wr.heap.size ∧ objsR many s3 = (ps.map Prod.fst ++ (objsR (many - k) σk).1, (objsR (many - k) σk).2) ∧ k ≤ q + 1 ∧ (∀ l', σk = some l' → k + l'.length ≤ q) ∧ (∀ p, p ∈ ps → p.1.F.length ≤ 256)) (fun _ _ i _ => many - (intOf i).toNat)
        case atStart => exact ⟨0, [], none, 0, 3, s3, rfl, Nat.zero_le _, rfl, rfl, TRow.nil _ _, rfl, rfl, by omega, HR.out, Nat.le_refl _, by simp, by omega, fun l' e => by have := HL3.out l' e; omega, fun p hp => absurd hp (by simp)⟩
        case round =>
          obtain ⟨k, ps, LA, lc, need, σk, rfl, hk, hps, rfl, htr, rfl, hneed, hnb3, hrs, hsz, hobj, hkq, hlq, hpl⟩ := hrel
          replace HR := Lib.hid hrs
          have HTR := Lib.hid htr
          have HPS := Lib.hid hps
          have HND := Lib.hid hneed
          have HOJ := Lib.hid hobj
          have HLL := Lib.hid hlq
          have HPL := Lib.hid hpl
          have kr1 := hrs.1.c1
          clear hps htr hneed hrs hobj hlq hpl
          by_cases hlt : k < many
          · have d3 : decide (k < many) = true := decide_eq_true hlt
            have d4 : decide ((k : Int) < (many : Int)) = true := decide_eq_true (by omega)
            cases σk with
            | some lk =>
              simp only [Option.isNone] at kr1
              obtain ⟨t, σ', hob⟩ : ∃ t σ', objR (some lk) = (t, σ') := ⟨_, _, rfl⟩
              have HO1 := Lib.hid hob
              have hFl : t.F.length ≤ 256 := by have := objR_len (some lk); rw [hob] at this; exact this
              have hlk := HLL.out lk rfl
              have HL2 : Hid (∀ l', σ' = some l' → (k + 1) + l'.length ≤ q) := Lib.hid (fun l' e => by
                obtain ⟨l0, e0, e1, _⟩ := objR_some (σ := some lk) (l' := l') (by rw [hob]; exact e)
                cases e0; omega)
              have HOJ2 : Hid (objsR many s3 = ((ps.map Prod.fst ++ [t]) ++ (objsR (many - (k + 1)) σ').1, (objsR (many - (k + 1)) σ').2)) := Lib.hid (by
                rw [HOJ.out, show many - k = many - (k + 1) + 1 by omega]
                have e : ∀ m, objsR (m + 1) (some lk) = ((objR (some lk)).1 :: (objsR m (objR (some lk)).2).1, (objsR m (objR (some lk)).2).2) := fun _ => rfl
                rw [e, hob]
                simp)
              have HGB : Hid (g < wr.heap.size) := Lib.hid (by have := HRB.out.2; have := HR.out.2.size; omega)
              have hwr := HR.out.2.size
              clear hob HOJ HLL
              have HPL1 : ∀ z, Hid ((ps ++ [(t, z)]).length = k + 1) := fun z => Lib.hid (by have := HPS.out; simp; omega)
              go_upto_region 16 with (first | (go_at_call 48; (with_reducible refine (robject_any' HR.out.1 HGB.out).mono ?_); rw [HO1.out]; rintro e w5 ⟨fv, rfl, hi5, hr5, ht5⟩; have HFA := Lib.hid (FldsAt.of_ints (base := w4.heap.size) (rv := .slice LA k lc) (t := t) hi5 (by omega) hsz (fun z hz => (HTR.out.lt z hz).2)); have HR5 := Lib.hid (And.intro hr5 (HR.out.2.trans (ht5.below (fun k z => by have := HRB.out; unfold rset at z; omega) HR.out.2.size))); have HT5 := Lib.hid (HTR.out.turnsT ht5 (fun z hz e => by have := HS0.out; unfold rset at e; omega)); have HS5 : Hid (wr.heap.size ≤ w5.heap.size) := Lib.hid ht5.size; obtain ⟨FA, fc, hfv, hfc, _⟩ := hi5.nums; subst hfv; obtain ⟨W6, hW6⟩ : ∃ W6, W6 = w5.alloc (.cells #[.int .i64 (t.fmt : Int), .int .i64 t.hash, .int .i64 (t.cls : Int), .slice FA t.F.length fc] 83) := ⟨_, rfl⟩; have hx6 : W6.heap[w5.heap.size]? = some (.cells #[.int .i64 (t.fmt : Int), .int .i64 t.hash, .int .i64 (t.cls : Int), .slice FA t.F.length fc] 83 (0, 0)) := (by rw [hW6]; exact heap_alloc_new w5 _); have HX6 := Lib.hid hx6; have y0 : W6.cell? ⟨w5.heap.size, 0, none⟩ = some (.int .i64 (t.fmt : Int)) := (by simp [World.cell?, hx6]); have y1 : W6.cell? ⟨w5.heap.size, 1, none⟩ = some (.int .i64 t.hash) := (by simp [World.cell?, hx6]); have y2 : W6.cell? ⟨w5.heap.size, 2, none⟩ = some (.int .i64 (t.cls : Int)) := (by simp [World.cell?, hx6]); have y3 : W6.cell? ⟨w5.heap.size, 3, none⟩ = some (.slice FA t.F.length fc) := (by simp [World.cell?, hx6]); have HB6 : Hid (Below w5.heap.size w5 W6) := Lib.hid (by rw [hW6]; exact (Below.refl _ _).alloc (Nat.le_refl _) _); clear hi5 hr5 ht5 hx6))
              rw [← hW6]
              replace HPL1 := HPL1 (.slice FA t.F.length fc)
              clear hW6
              go_wp2_with (first | (at_builtin; refine wpList_tng rfl _ _ rfl w4.heap.size _ ps rfl (HT5.out.below (HB6.out.alloc HB6.out.size _)) (p := (t, .slice FA t.F.length fc)) (HFA.out.turnsT (T := fun _ => False) (Turns.of_below (HB6.out.alloc HB6.out.size _)) (fun _ _ z => z)) (B := W6.heap.size) rfl (by simp [go_sem]) (by simp [go_sem]) (by simp [go_sem]) (by simp [go_sem]) (by have := HPS.out; omega) (by have := HB6.out.size; have := HS5.out; simp; omega) ?_; intro v7 w7 ht7 hg7; obtain ⟨LA6, lc6, hv7⟩ := ht7.shape; subst hv7; rw [HPL1.out] at ht7 ⊢; have HT6 := Lib.hid ht7; have hgt : Turns (fun z => (Value.slice LA k lc).ownBlock = some z) (W6.alloc (.cells #[.int .i64 (t.fmt : Int), .int .i64 t.hash, .int .i64 (t.cls : Int), .slice FA t.F.length fc] 83)) w7 := ⟨hg7.os, hg7.tape, hg7.output, hg7.size, fun z hz hs => hg7.block z hz (fun e => hs e.symm)⟩; have HO := fun z hz => HT5.out.lt z hz; have hbA := HB6.out.alloc HB6.out.size (.cells #[.int .i64 (t.fmt : Int), .int .i64 t.hash, .int .i64 (t.cls : Int), .slice FA t.F.length fc] 83); have HR6 : Hid (RS w7 rb g σ' ∧ Below w.heap.size w w7) := Lib.hid ⟨(HR5.out.1.below hbA).turns hgt (fun e => by have := HO _ e; have := HS0.out; omega) (fun e => by have := HO _ e; have := HS0.out; have := HRB.out; omega), (HR5.out.2.trans (hbA.mono HR5.out.2.size)).trans (hgt.below (fun z e => by have := HO _ e; have := HS0.out; omega) (Nat.le_trans HR5.out.2.size hbA.size))⟩; have HS6 : Hid (w5.heap.size ≤ w7.heap.size) := Lib.hid (Nat.le_trans hbA.size hg7.size); have y3 : w7.cell? ⟨w5.heap.size, 3, none⟩ = some (.slice FA t.F.length fc) := (by have h1 : w7.heap[w5.heap.size]? = some (.cells #[.int .i64 (t.fmt : Int), .int .i64 t.hash, .int .i64 (t.cls : Int), .slice FA t.F.length fc] 83 (0, 0)) := ((hgt.block w5.heap.size (by have := lt_of_block HX6.out; simp; omega) (fun e => by have := HO _ e; omega)).trans (heap_alloc_old _ _ (lt_of_block HX6.out))).trans HX6.out; simp [World.cell?, h1]); clear ht7 hg7 hgt HO hbA))
              go_roundw
              case rel =>
                exact ⟨k + 1, ps ++ [(t, .slice FA t.F.length fc)], LA6, lc6, need + (3 + t.F.length), σ', by go_num, by omega, by have := HPS.out; simp; omega, rfl, HT6.out, by go_num, by rw [HND.out, List.map_append, szT_app]; simp [szT]; omega, by omega, HR6.out, by have := HS6.out; have := HS5.out; omega, by rw [HOJ2.out]; simp, by omega, HL2.out, fun p hp => (List.mem_append.1 hp).elim (HPL.out p) (fun z => by rw [List.mem_singleton.1 z]; exact hFl)⟩
              case measure => simp [intOf]; omega
            | none =>
              simp only [Option.isNone] at kr1
              have HTE : Hid (ps.map Prod.fst = ts ∧ s4 = none) := Lib.hid (by
                have h1 := HOJ.out
                rw [HOB.out, show many - k = many - (k + 1) + 1 by omega] at h1
                have e : ∀ m, objsR (m + 1) none = ([], none) := fun _ => rfl
                rw [e] at h1
                cases h1
                simp)
              clear HOJ
              go_wp2_with fail
              go_meet
              exact ⟨ps, LA, lc, by rw [HPS.out], by rw [HPS.out]; exact HTR.out, HTE.out.1, by rw [HND.out, HTE.out.1], by rw [HTE.out.2]; exact HR.out, hsz, by have := HPS.out; omega, by have := HND.out; rw [HTE.out.1] at this; omega, HPL.out⟩
          · have d3 : decide (k < many) = false := decide_eq_false hlt
            have d4 : decide ((k : Int) < (many : Int)) = false := decide_eq_false (by omega)
            have HTE : Hid (ps.map Prod.fst = ts ∧ s4 = σk) := Lib.hid (by
              have h1 := HOJ.out
              rw [HOB.out, show many - k = 0 by omega] at h1
              have e : objsR 0 σk = ([], σk) := rfl
              rw [e] at h1
              cases h1
              simp)
            clear HOJ
            go_wp2_with fail
            go_meet
            exact ⟨ps, LA, lc, by rw [HPS.out], by rw [HPS.out]; exact HTR.out, HTE.out.1, by rw [HND.out, HTE.out.1], by rw [HTE.out.2]; exact HR.out, hsz, by have := HPS.out; omega, by have := HND.out; rw [HTE.out.1] at this; omega, HPL.out⟩
      case rest =>
        obtain ⟨ps, LA, lc, hv, htr, hts, hnd, hrs, hsz, hpq, hneed, hpl⟩ := hcut
        subst hv hnd
        replace HR := Lib.hid hrs
        have HTR := Lib.hid htr
        have HPL := Lib.hid hpl
        have HTS := Lib.hid hts
        clear htr hts hrs hpl
        --<c
        go_upto_block 2 with (first | (go_at_call 46; (with_reducible refine (count_lit HR.out.1 4000 4000 rfl (by omega)).mono ?_); rw [HCK.out]; rintro e w5 ⟨rfl, hr4, ht4⟩; replace HR := Lib.hid (And.intro hr4 (HR.out.2.trans (ht4.below (fun k z => by have := HRB.out; unfold rset at z; omega) HR.out.2.size))); have HTC := Lib.hid ht4; clear hr4 ht4))
        have HT5 : Hid (TRow w5 w4.heap.size (.slice LA ps.length lc) ps ∧ w4.heap.size ≤ w5.heap.size) := Lib.hid ⟨HTR.out.turnsT HTC.out (fun z hz e => by have := HS0.out; unfold rset at e; omega), Nat.le_trans hsz HTC.out.size⟩
        go_cut [16] (fun v wx => ∃ (WA : Option Addr) (wcap : Nat), v = .slice WA ws.length wcap ∧ Ints wx w5.heap.size (.slice WA ws.length wcap) ws ∧ TRow wx w4.heap.size (.slice LA ps.length lc) ps ∧ (RS wx rb g s6 ∧ Below w.heap.size w wx))
        case first =>
          go_wp2_with fail
          go_loopw [16, 17] (fun v i wr => ∃ (j : Nat) (zs : List Int) (WA : Option Addr) (wcap : Nat) (σk : RdS), i = .int .i64 j ∧ j ≤ kr ∧ zs.length + j = kr ∧ v = .slice WA zs.length wcap ∧ Ints wr w5.heap.size (.slice WA zs.length wcap) zs ∧ TRow wr w4.heap.size (.slice LA ps.length lc) ps ∧ (RS wr rb g σk ∧ Below w.heap.size w wr) ∧ w5.heap.size ≤ wr.heap.size ∧ wrdsR kr s5 = (zs ++ (wrdsR j σk).1, (wrdsR j σk).2)) (fun _ i _ => (intOf i).toNat)
          case atStart => exact ⟨kr, [], none, 0, s5, rfl, Nat.le_refl _, by simp, rfl, Ints.nil0 _ _, HT5.out.1, HR.out, Nat.le_refl _, by simp⟩
          case round =>
            obtain ⟨j, zs, WA, wcap, σk, rfl, hj, hzs, rfl, hin, htr, hrs, hsz5, hwo⟩ := hrel
            replace HR := Lib.hid hrs
            have HIN := Lib.hid hin
            have HTR2 := Lib.hid htr
            have HZS := Lib.hid hzs
            have HWJ := Lib.hid hwo
            have kr1 := hrs.1.c1
            clear hin htr hzs hwo hrs
            by_cases hlt : 0 < j
            · have d3 : decide (0 < j) = true := decide_eq_true hlt
              have d4 : decide ((0 : Int) < (j : Int)) = true := decide_eq_true (by omega)
              cases σk with
              | some lk =>
                simp only [Option.isNone] at kr1
                obtain ⟨x, σ', hob⟩ : ∃ x σ', wrdR (some lk) = (x, σ') := ⟨_, _, rfl⟩
                have HW1 := Lib.hid hob
                have HWJ2 : Hid (wrdsR kr s5 = ((zs ++ [(x : Int)]) ++ (wrdsR (j - 1) σ').1, (wrdsR (j - 1) σ').2)) := Lib.hid (by
                  rw [HWJ.out, show j = j - 1 + 1 by omega]
                  have e : ∀ m, wrdsR (m + 1) (some lk) = (((wrdR (some lk)).1 : Int) :: (wrdsR m (wrdR (some lk)).2).1, (wrdsR m (wrdR (some lk)).2).2) := fun _ => rfl
                  rw [e, hob]
                  simp)
                have HPL1 : Hid ((zs ++ [(x : Int)]).length = zs.length + 1) := Lib.hid (by simp)
                clear hob HWJ
                go_wp2_with (first | (go_at_call 49; (with_reducible refine (rword_any' HR.out.1).mono ?_); rw [HW1.out]; rintro e w6 ⟨rfl, hr6, ht6⟩; have HR6a := Lib.hid (And.intro hr6 (HR.out.2.trans (ht6.below (fun k z => by have := HRB.out; unfold rset at z; omega) HR.out.2.size))); have HT6a := Lib.hid (HTR2.out.turnsT ht6 (fun z hz e => by have := HS0.out; unfold rset at e; omega)); have HI6a := Lib.hid (HIN.out.turnsT ht6 (fun z hz e => by have := HS0.out; have := HT5.out.2; unfold rset at e; omega)); have HS6a : Hid (wr.heap.size ≤ w6.heap.size) := Lib.hid ht6.size; clear hr6 ht6) | (at_builtin; refine wpList_num rfl _ _ rfl w5.heap.size _ zs rfl (HI6a.out.below1 _) (B := w6.heap.size) (y := (x : Int)) rfl (by simp [go_sem]) (by have := HZS.out; omega) (by have := HS6a.out; simp; omega) ?_; intro v7 w7 hi7 hg7; have HI7 := Lib.hid hi7; have HG7 := Lib.hid hg7; clear hi7 hg7))
                go_roundw
                case rel =>
                  have hg7 := HG7.out
                  have hi7 := HI7.out
                  have HO : ∀ z, (Value.slice WA zs.length wcap).ownBlock = some z → w5.heap.size ≤ z ∧ z < w6.heap.size := World.ownsRow.lt HI6a.out
                  have hbA : Below w6.heap.size w6 (w6.alloc (.cells #[.int .i64 (x : Int)] 3)) := (Below.refl _ _).alloc (Nat.le_refl _) _
                  have hgt : Turns (fun z => (Value.slice WA zs.length wcap).ownBlock = some z) (w6.alloc (.cells #[.int .i64 (x : Int)] 3)) w7 := ⟨hg7.os, hg7.tape, hg7.output, hg7.size, fun z hz hs => hg7.block z hz (fun e => hs e.symm)⟩
                  have n1 : ¬ (Value.slice WA zs.length wcap).ownBlock = some rb := fun e => by have := (HO _ e).1; have := HS0.out; have := HT5.out.2; omega
                  have n2 : ¬ (Value.slice WA zs.length wcap).ownBlock = some g := fun e => by have := (HO _ e).1; have := HS0.out; have := HRB.out; have := HT5.out.2; omega
                  have hRS : RS w7 rb g σ' := (HR6a.out.1.below hbA).turns hgt n1 n2
                  have hBL : Below w.heap.size w w7 := (HR6a.out.2.trans (hbA.mono HR6a.out.2.size)).trans (hgt.below (fun z e => by have := (HO z e).1; have := HS0.out; have := HT5.out.2; omega) (Nat.le_trans HR6a.out.2.size hbA.size))
                  have hTR : TRow w7 w4.heap.size (.slice LA ps.length lc) ps := trow_apart (HT6a.out.below hbA) HT5.out.1 hgt (fun z e => (HO z e).1)
                  have hSZ : w5.heap.size ≤ w7.heap.size := by have := HS6a.out; have := hbA.size; have := hg7.size; omega
                  obtain ⟨WA6, wc6, hv7, _⟩ := hi7.nums
                  subst hv7
                  exact ⟨j - 1, zs ++ [(x : Int)], WA6, wc6, σ', by go_num, by omega, by have := HZS.out; simp; omega, rfl, hi7, hTR, ⟨hRS, hBL⟩, hSZ, HWJ2.out⟩
                case measure => simp [intOf]; omega
              | none =>
                simp only [Option.isNone] at kr1
                have HTE : Hid (zs = ws ∧ s6 = none) := Lib.hid (by
                  have h1 := HWJ.out
                  rw [HWR.out, show j = j - 1 + 1 by omega] at h1
                  have e : ∀ m, wrdsR (m + 1) none = ([], none) := fun _ => rfl
                  rw [e] at h1
                  cases h1
                  simp)
                clear HWJ
                go_wp2_with fail
                go_meet
                exact ⟨WA, wcap, by rw [← HTE.out.1], by rw [← HTE.out.1]; exact HIN.out, HTR2.out, by rw [HTE.out.2]; exact HR.out⟩
            · have d3 : decide (0 < j) = false := decide_eq_false hlt
              have d4 : decide ((0 : Int) < (j : Int)) = false := decide_eq_false (by omega)
              have HTE : Hid (zs = ws ∧ s6 = σk) := Lib.hid (by
                have h1 := HWJ.out
                rw [HWR.out, show j = 0 by omega] at h1
                have e : wrdsR 0 σk = ([], σk) := rfl
                rw [e] at h1
                cases h1
                simp)
              clear HWJ
              go_wp2_with fail
              go_meet
              exact ⟨WA, wcap, by rw [← HTE.out.1], by rw [← HTE.out.1]; exact HIN.out, HTR2.out, by rw [HTE.out.2]; exact HR.out⟩
        case rest =>
          obtain ⟨WA, wcap, hv, hin, htr, hrs⟩ := hcut
          subst hv
          clear HR
          have HR := Lib.hid hrs
          have HIN := Lib.hid hin
          have HT6 := Lib.hid htr
          have hbw := hrs.2
          have HPN : s6 ≠ some [] → Hid (imgV b = none) := fun q => Lib.hid (by rw [HIM.out, HPA.out, if_neg (fun z => q z.1)])
          obtain ⟨RA, rc, rl, rbx, _, _, _, _, _, rs7⟩ := hrs.1
          have r1 : wc.cell? ⟨rb, 1, none⟩ = some (.bool s6.isNone) := by simp [World.cell?, rbx]
          have r0 : wc.cell? ⟨rb, 0, none⟩ = some (.slice RA rl.length rc) := by simp [World.cell?, rbx]
          clear hrs hin htr rbx
          --<d
          cases hs6 : s6 with
          | none =>
            have HNO := HPN (by rw [hs6]; simp)
            rw [hs6] at r1
            simp only [Option.isNone] at r1
            clear hs6 HPN rs7
            go_wp2_with fail
            go_returns
            exact readP_no HNO.out rfl (by (repeat' (first | (with_reducible exact Below.refl _ _) | (with_reducible assumption) | (with_reducible refine below_drewN ?_ _) | (with_reducible refine Below.alloc ?_ ?_ _) | (with_reducible refine Below.drew ?_) | (with_reducible refine Below.setCell ?_ ?_ _) | go_size)))
          | some lr =>
            obtain rfl := rs7 lr hs6
            rw [hs6] at r1
            simp only [Option.isNone] at r1
            cases lr with
            | cons x lr =>
              have HNO := HPN (by rw [hs6]; simp)
              obtain ⟨ll, hll⟩ : ∃ ll, lr.length = ll := ⟨_, rfl⟩
              rw [show (x :: lr).length = ll + 1 by simp [hll]] at r0
              have k5 : decide (0 < ll + 1) = true := decide_eq_true (by omega)
              have k6 : decide ((0 : Int) < (ll : Int) + 1) = true := decide_eq_true (by omega)
              clear hs6 HPN hll
              go_wp2_with fail
              go_returns
              exact readP_no HNO.out rfl (by (repeat' (first | (with_reducible exact Below.refl _ _) | (with_reducible assumption) | (with_reducible refine below_drewN ?_ _) | (with_reducible refine Below.alloc ?_ ?_ _) | (with_reducible refine Below.drew ?_) | (with_reducible refine Below.setCell ?_ ?_ _) | go_size)))
            | nil =>
              have HS6 := Lib.hid hs6
              have HPR : Hid ((∀ t, t ∈ ts → TPre t) ∧ (∀ z, z ∈ ws → wPre z) ∧ ts.length ≤ made ∧ made ≤ 1099511627776 ∧ ws.length ≤ 4000 ∧ ts.length ≤ l.length) := Lib.hid (by
                have h1 := HPQ.out
                have := parse_pre HLI.out (by rw [h1.2.2]; exact hs6)
                rw [h1.1, h1.2.1, h1.2.2] at this
                exact this)
              have hr0 : wc.cell? ⟨rb, 0, none⟩ = some (.slice RA 0 rc) := r0
              obtain ⟨bf, hbf⟩ : ∃ bf, fitsV (ps.map Prod.fst) ws = bf := ⟨_, rfl⟩
              have HPI : Hid (parse l = if bf = true then some ⟨made, ts, ws⟩ else none) := Lib.hid (by rw [HPA.out, HS6.out, ← hbf, HTS.out]; simp)
              have HBF := Lib.hid hbf
              obtain ⟨wz, hwz⟩ : ∃ wz, ws.length = wz := ⟨_, rfl⟩
              rw [hwz] at HIN
              have hwz4 : wz ≤ 4000 := by rw [← hwz]; exact HPR.out.2.2.2.2.1
              have HWZ := Lib.hid hwz
              have HNW : Hid (Nums wc WA ws) := Lib.hid (by obtain ⟨A', c', e, _, hnm, _⟩ := HIN.out.nums; cases e; exact hnm)
              have HFI : Hid (∀ p, p ∈ ps → InI (p.1.cls : Int) ∧ ∀ x, x ∈ p.1.F → InI x) := Lib.hid (fun p hp => tPre_in (HPR.out.1 p.1 (by rw [← HTS.out]; exact List.mem_map.2 ⟨p, hp, rfl⟩)))
              have HFW : Hid (∀ x, x ∈ ws → InI x) := Lib.hid (fun x hx => by have h1 := (HPR.out.2.1 x hx).1; have h2 := (HPR.out.2.1 x hx).2.1; show _ ∧ _; omega)
              rw [hwz]
              clear hs6 HPN hbf hwz r0
              cases bf with
              | false =>
                have HNO : Hid (imgV b = none) := Lib.hid (by rw [HIM.out, HPI.out]; rfl)
                go_wp2_with (first | (go_at_call 50; (with_reducible refine (fits_any HT6.out rfl (by omega) HFI.out HNW.out HWZ.out (by omega) HFW.out).mono ?_); rw [HBF.out]; rintro e w8 ⟨rfl, hb8⟩; have hbw8 := hbw.trans (hb8.mono hbw.size); have HB8 := Lib.hid hb8; clear hb8))
                go_returns
                exact readP_no HNO.out rfl (by (repeat' (first | (with_reducible exact Below.refl _ _) | (with_reducible assumption) | (with_reducible refine below_drewN ?_ _) | (with_reducible refine Below.alloc ?_ ?_ _) | (with_reducible refine Below.drew ?_) | (with_reducible refine Below.setCell ?_ ?_ _) | go_size)))
              | true =>
                have HIG : Hid (imgV b = some ⟨made, ts, ws⟩) := Lib.hid (by rw [HIM.out, HPI.out]; rfl)
                have HPS : Hid (∀ p, p ∈ ps → TOk ps.length p.1) := Lib.hid (fun p hp => by
                  have h1 := (parse_ok HLI.out (HPI.out.trans (if_pos rfl))).1 p.1 (by show p.1 ∈ ts; rw [← HTS.out]; exact List.mem_map.2 ⟨p, hp, rfl⟩)
                  have h2 : (ts.length) = ps.length := by rw [← HTS.out, List.length_map]
                  rw [show (Img.mk made ts ws).ts.length = ps.length from h2] at h1
                  exact h1)
                have HWO : Hid (∀ x, x ∈ ws → wOk ps.length x) := Lib.hid (fun x hx => by
                  have h1 := (parse_ok HLI.out (HPI.out.trans (if_pos rfl))).2.1 x hx
                  have h2 : (ts.length) = ps.length := by rw [← HTS.out, List.length_map]
                  rw [show (Img.mk made ts ws).ts.length = ps.length from h2] at h1
                  exact h1)
                have HML : Hid (ps.length ≤ made ∧ made ≤ 1099511627776) := Lib.hid (by have h2 : (ts.length) = ps.length := (by rw [← HTS.out, List.length_map]); rw [← h2]; exact ⟨HPR.out.2.2.1, HPR.out.2.2.2.1⟩)
                --<e
                go_upto_region 25 with (first | (go_at_call 50; (with_reducible refine (fits_any HT6.out rfl (by omega) HFI.out HNW.out HWZ.out (by omega) HFW.out).mono ?_); rw [HBF.out]; rintro e w8 ⟨rfl, hb8⟩; have hbw8 := hbw.trans (hb8.mono hbw.size); have HB8 := Lib.hid hb8; clear hb8))
                have HBW8 := Lib.hid hbw8
                have hps1 : ps.length ≤ 1000000 := by
                  have h1 := HPR.out.2.2.2.2.2
                  have h2 : ts.length = ps.length := by rw [← HTS.out, List.length_map]
                  have := HLQ.out
                  omega
                have HT8 := Lib.hid (HT6.out.below HB8.out)
                have HN8 := Lib.hid (HNW.out.below HB8.out)
                obtain ⟨zt, hzt⟩ : ∃ zt, szT ts = zt := ⟨_, rfl⟩
                rw [hzt]
                have hztb : zt ≤ 259 * 1000001 := by omega
                have HZT := Lib.hid hzt
                clear hzt
                by_cases hok : okN size = true
                · have HOK := Lib.hid hok
                  by_cases hroom : ((3 + zt : Nat) : Int) ≤ size
                  · have HRV : Hid (readV b size = (some ⟨made, ts, ws⟩, 0)) := Lib.hid (by
                      unfold readV
                      rw [HIG.out]
                      show (if okN size = true ∧ ((3 + szT ts : Nat) : Int) ≤ size then _ else _) = _
                      rw [HZT.out, if_pos ⟨hok, hroom⟩])
                    have k7 : decide (size < 3 + (zt : Int)) = false := decide_eq_false (by omega)
                    have k7' : ¬ (size < 3 + (zt : Int)) := by omega
                    clear hok hroom
                    go_wp2_with (first | (go_at_call 23; (with_reducible refine (pnew_any _ size hsi).mono ?_); simp only [if_pos HOK.out]; rintro e w9 ⟨⟨s, bw, bmp, rfl, hge, hpm⟩, hb9⟩; have HPM9 : Hid (PM w9 s bw bmp ⟨size.toNat, 0, []⟩) := Lib.hid hpm; have HGE := Lib.hid hge; have HB9 := Lib.hid hb9; clear hge hpm hb9) | (go_at_call 51; (with_reducible refine (built_any HPM9.out HT8.out rfl (by omega) HPS.out HN8.out HWZ.out hwz4 HWO.out HB9.out (pset_ge HGE.out) (by rw [HTS.out, HZT.out]; omega) HML.out).mono ?_); rw [HTS.out]; rintro e w10 ⟨v, rfl, hi10, hp10, hb10⟩; have HI10 := Lib.hid hi10; have HP10 := Lib.hid hp10; have HB10 := Lib.hid hb10; clear hi10 hp10 hb10))
                    go_returns
                    unfold ReadP
                    rw [HRV.out]
                    exact ⟨⟨s, bw, bmp, v, rfl, HI10.out.base_ (by have := HBW8.out.size; have := HB9.out.size; omega), HP10.out, fun j hj => Nat.le_trans HBW8.out.size (pset_ge HGE.out j hj)⟩, HBW8.out.trans (HB10.out.mono HBW8.out.size)⟩
                  · have HRV : Hid (readV b size = (none, 4)) := Lib.hid (by
                      unfold readV
                      rw [HIG.out]
                      show (if okN size = true ∧ ((3 + szT ts : Nat) : Int) ≤ size then _ else _) = _
                      rw [HZT.out, if_neg (fun z => hroom z.2)])
                    have k7 : decide (size < 3 + (zt : Int)) = true := decide_eq_true (by omega)
                    have k7' : size < 3 + (zt : Int) := by omega
                    clear hok hroom
                    go_wp2_with (first | (go_at_call 23; (with_reducible refine (pnew_any _ size hsi).mono ?_); simp only [if_pos HOK.out]; rintro e w9 ⟨⟨s, bw, bmp, rfl, hge, hpm⟩, hb9⟩; have HB9 := Lib.hid hb9; clear hge hpm hb9))
                    go_returns
                    unfold ReadP
                    rw [HRV.out]
                    exact ⟨rfl, HBW8.out.trans (HB9.out.mono HBW8.out.size)⟩
                · have HRV : Hid (readV b size = (none, 4)) := Lib.hid (by
                    unfold readV
                    rw [HIG.out]
                    show (if okN size = true ∧ ((3 + szT ts : Nat) : Int) ≤ size then _ else _) = _
                    rw [if_neg (fun z => hok z.1)])
                  have HOK := Lib.hid hok
                  clear hok
                  go_wp2_with (first | (go_at_call 23; (with_reducible refine (pnew_any _ size hsi).mono ?_); simp only [if_neg HOK.out]; rintro e w9 ⟨rfl, hb9⟩; have HB9 := Lib.hid hb9; clear hb9))
                  go_returns
                  unfold ReadP
                  rw [HRV.out]
                  exact ⟨rfl, HBW8.out.trans (HB9.out.mono HBW8.out.size)⟩
    · have k1 : decide (y = sm) = false := decide_eq_false hys
      have k2 : (y == sm) = false := beq_false_of_ne hys
      have HNO : Hid (imgV b = none) := Lib.hid (by
        unfold imgV
        rw [HBL.out, if_neg (fun q => hys (htl.1 (by rw [← hdrop, ← hsm]; exact q.2.2)))])
      clear hsum hsm hdrop htl hbm hsb hy
      go_wp2_with (first | (go_at_call 41; (with_reducible refine HSU.out.mono ?_); rintro e w2 ⟨rfl, hb2⟩; have HB2 := Lib.hid (HBW1.out.trans (hb2.mono HBW1.out.size)); clear hb2))
      have hB2 := HB2.out
      go_returns
      exact readP_no HNO.out rfl (by (repeat' (first | (with_reducible exact Below.refl _ _) | (with_reducible assumption) | (with_reducible refine below_drewN ?_ _) | (with_reducible refine Below.alloc ?_ ?_ _) | (with_reducible refine Below.drew ?_) | (with_reducible refine Below.setCell ?_ ?_ _) | go_size)))
  · have HNO : Hid (imgV b = none) := Lib.hid (by unfold imgV; rw [if_neg (fun q => hmg q.2.1)])
    obtain ⟨s4, hs⟩ : ∃ s4, strOfNums (b.take 4) = s4 := ⟨_, rfl⟩
    rw [hs] at hs4
    have hne : (s4.toList == [86, 73, 86, 49]) = false := beq_false_of_ne (fun q => hmg (u8s_inj (fun x hx => hI x (List.mem_of_mem_take hx)) magic_isB (by
      rw [← hs, Lib.strOfNums_toList] at q
      exact q)))
    clear hs hmg hB hI hn
    go_enter Try.func17, Try.ntmps17
    go_wp2_with fail
    go_returns
    exact readP_no HNO.out rfl (by (repeat' (first | (with_reducible exact Below.refl _ _) | (with_reducible assumption) | (with_reducible refine below_drewN ?_ _) | (with_reducible refine Below.alloc ?_ ?_ _) | (with_reducible refine Below.drew ?_) | (with_reducible refine Below.setCell ?_ ?_ _) | go_size)))
end Go.Proofs.Ytfinpgkehjbcpaa
