/- Chapter 09: instructions told as lines. -/
import Derived.Test.YtclndbiljhbbkaaDoorC2
import Derived.Shelf.LaysM
import Derived.Shelf.Strconv.Itoa3
import Derived.Lib.ItoaLen
import Derived.Laws.Concat
namespace Go.Proofs.YtclndbiljhbbkaaDoor
open Go.ChangeShapes Go.WideShapes Go.ChangeAt Go.RowKit Go.Deep Go.Joins Go.Shelf
set_option linter.unusedVariables false
set_option linter.unusedSimpArgs false
def itoaRen : Go.Shelf.Ren := ⟨fun | 171 => 31 | 243 => 33 | 246 => 34 | 283 => 35 | 284 => 36 | 285 => 37 | 286 => 38 | 129 => 40 | 317 => 39 | 318 => 41 | 319 => 42 | 320 => 43 | 337 => 44 | 338 => 45 | n => n, fun | 3 => 3 | 9 => 9 | 2 => 2 | 4 => 4 | 171 => 53 | 0 => 0 | 53 => 54 | 37 => 24 | 5 => 5 | 173 => 57 | 212 => 60 | 51 => 61 | 20 => 20 | 213 => 62 | 46 => 44 | 232 => 65 | 233 => 66 | n => n, fun | 17 => 1 | 18 => 2 | 19 => 3 | n => n⟩
theorem itoaLays : LaysM.n171 Tryd.prog itoaRen := {
  mixed := by kernel_rfl,
  f129 := Tryd.func40.trans (congrArg some (by kernel_rfl)),
  f171 := Tryd.func31.trans (congrArg some (by kernel_rfl)),
  f243 := Tryd.func33.trans (congrArg some (by kernel_rfl)),
  f246 := Tryd.func34.trans (congrArg some (by kernel_rfl)),
  f283 := Tryd.func35.trans (congrArg some (by kernel_rfl)),
  f284 := Tryd.func36.trans (congrArg some (by kernel_rfl)),
  f285 := Tryd.func37.trans (congrArg some (by kernel_rfl)),
  f286 := Tryd.func38.trans (congrArg some (by kernel_rfl)),
  f317 := Tryd.func39.trans (congrArg some (by kernel_rfl)),
  f318 := Tryd.func41.trans (congrArg some (by kernel_rfl)),
  f319 := Tryd.func42.trans (congrArg some (by kernel_rfl)),
  f320 := Tryd.func43.trans (congrArg some (by kernel_rfl)),
  f337 := Tryd.func44.trans (congrArg some (by kernel_rfl)),
  f338 := Tryd.func45.trans (congrArg some (by kernel_rfl)),
  t0 := Tryd.underlying0,
  a0 := Tryd.isAgg0,
  z0 := Tryd.sizeOf0,
  v0 := Tryd.zeroValue0,
  t2 := Tryd.underlying2,
  a2 := Tryd.isAgg2,
  z2 := Tryd.sizeOf2,
  v2 := Tryd.zeroValue2,
  t3 := Tryd.underlying3,
  a3 := Tryd.isAgg3,
  z3 := Tryd.sizeOf3,
  v3 := Tryd.zeroValue3,
  t4 := Tryd.underlying4,
  a4 := Tryd.isAgg4,
  z4 := Tryd.sizeOf4,
  v4 := Tryd.zeroValue4,
  t5 := Tryd.underlying5,
  a5 := Tryd.isAgg5,
  z5 := Tryd.sizeOf5,
  v5 := Tryd.zeroValue5,
  t9 := Tryd.underlying9,
  a9 := Tryd.isAgg9,
  z9 := Tryd.sizeOf9,
  v9 := Tryd.zeroValue9,
  t20 := Tryd.underlying20,
  a20 := Tryd.isAgg20,
  z20 := Tryd.sizeOf20,
  v20 := Tryd.zeroValue20,
  t37 := Tryd.underlying24,
  a37 := Tryd.isAgg24,
  z37 := Tryd.sizeOf24,
  v37 := Tryd.zeroValue24,
  t46 := Tryd.underlying44,
  a46 := Tryd.isAgg44,
  z46 := Tryd.sizeOf44,
  v46 := Tryd.zeroValue44,
  t51 := Tryd.underlying61,
  a51 := Tryd.isAgg61,
  z51 := Tryd.sizeOf61,
  v51 := Tryd.zeroValue61,
  t53 := Tryd.underlying54,
  a53 := Tryd.isAgg54,
  z53 := Tryd.sizeOf54,
  v53 := Tryd.zeroValue54,
  t171 := Tryd.underlying53,
  a171 := Tryd.isAgg53,
  z171 := Tryd.sizeOf53,
  v171 := Tryd.zeroValue53,
  t173 := Tryd.underlying57,
  a173 := Tryd.isAgg57,
  z173 := Tryd.sizeOf57,
  v173 := Tryd.zeroValue57,
  t212 := Tryd.underlying60,
  a212 := Tryd.isAgg60,
  z212 := Tryd.sizeOf60,
  v212 := Tryd.zeroValue60,
  t213 := Tryd.underlying62,
  a213 := Tryd.isAgg62,
  z213 := Tryd.sizeOf62,
  t232 := Tryd.underlying65,
  a232 := Tryd.isAgg65,
  z232 := Tryd.sizeOf65,
  v232 := Tryd.zeroValue65,
  t233 := Tryd.underlying66,
  a233 := Tryd.isAgg66,
  z233 := Tryd.sizeOf66,
  v233 := Tryd.zeroValue66,
  g17 := by kernel_rfl,
  g18 := by kernel_rfl,
  g19 := by kernel_rfl,
  i0 := by kernel_rfl,
  i2 := by kernel_rfl,
  i3 := by kernel_rfl,
  i4 := by kernel_rfl,
  i5 := by kernel_rfl,
  i9 := by kernel_rfl,
  i20 := by kernel_rfl,
  i37 := by kernel_rfl,
  i46 := by kernel_rfl,
  i51 := by kernel_rfl,
  i53 := by kernel_rfl,
  i171 := by kernel_rfl,
  i173 := by kernel_rfl,
  i212 := by kernel_rfl,
  i232 := by kernel_rfl,
  i233 := by kernel_rfl,
  m17 := by kernel_rfl,
  m18 := by kernel_rfl,
  m19 := by kernel_rfl }
/-- the operations' names -/
def namesL : List (List UInt8) := [[], [115, 101, 108, 102], [110, 105, 108], [116, 114, 117, 101], [102, 97, 108, 115, 101], [99, 111, 110, 116, 101, 120, 116], [108, 105, 116], [116, 101, 109, 112], [105, 118, 97, 114], [103, 108, 111, 98, 97, 108], [116, 111, 116, 101, 109, 112], [116, 111, 105, 118, 97, 114], [112, 111, 112], [100, 117, 112], [115, 101, 110, 100], [115, 117, 112, 101, 114], [106, 117, 109, 112], [105, 102, 110, 111, 116], [98, 108, 111, 99, 107], [101, 110, 100], [114, 101, 116, 117, 114, 110]]
def strV (l : List UInt8) : Value := .string ⟨l.toArray⟩
/-- the tables lie as the program's text lays them -/
structure TabsB (w : World) : Prop where
  names : ∃ e fr, w.heap[0]? = some (.cells (namesL.map strV).toArray e fr)
  pow : ∃ e fr, w.heap[1]? = some (.cells (Lib.pow10Tab.map (Value.int .u64)).toArray e fr)
theorem TabsB.below {w w' : World} (h : TabsB w) (hb : Below w.heap.size w w') : TabsB w' := by
  obtain ⟨⟨e1, f1, h1⟩, ⟨e2, f2, h2⟩⟩ := h
  exact ⟨⟨e1, f1, (hb.block _ (Array.getElem?_eq_some_iff.1 h1).1).trans h1⟩, ⟨e2, f2, (hb.block _ (Array.getElem?_eq_some_iff.1 h2).1).trans h2⟩⟩
theorem TabsB.name {w : World} (h : TabsB w) {q : Nat} (hq : q < 21) : w.cell? ⟨0, q, none⟩ = some (strV (namesL.getD q [])) := by
  obtain ⟨e, fr, h1⟩ := h.names
  unfold World.cell?
  rw [h1]
  show (namesL.map strV).toArray[q]? = _
  have hl : q < namesL.length := hq
  rw [List.getElem?_toArray, List.getElem?_map, List.getElem?_eq_getElem hl, List.getD_eq_getElem?_getD, List.getElem?_eq_getElem hl]
  rfl
theorem itoa_any {w : World} (h : TabsB w) (n : Int) (h0 : -9223372036854775808 ≤ n) (h1 : n ≤ 9223372036854775807) : Calls Tryd.prog 31 #[.int .i64 n] w fun e w' => e = .returned (.string ⟨(Lib.itoa n).toArray⟩) ∧ Below w.heap.size w w' := by
  obtain ⟨e, fr, hp⟩ := h.pow
  have hm := itoaLays.m17
  have hg : (itoaRen.g 17) = 1 := rfl
  rw [hg] at hm
  refine (Any.strconv_Itoa itoaLays n h0 h1 w (by unfold Lib.TabIs World.var?; rw [hm, Option.bind_some, hp])).mono ?_
  rintro e w' ⟨rfl, k, os, rfl⟩
  refine ⟨rfl, rfl, rfl, rfl, ?_, fun j hj => ?_⟩
  · simp
  · rw [Sort.heap_grow_old _ _ (by simpa using hj)]
    rfl
/-! ### lines -/
def nameV (op : Int) : List UInt8 := if 1 ≤ op ∧ op ≤ 20 then namesL.getD op.toNat [] else []
def opdV (n : Int) (u : Bool) : List UInt8 := if u then 32 :: Lib.itoa n else []
def lineV (i : Ins) : List UInt8 := nameV i.op ++ opdV i.a (decide (0 < usesV i.op)) ++ opdV i.b (decide (1 < usesV i.op)) ++ [10]
def textV (C : Nat → Ins) (k : Nat) : List UInt8 := (List.range k).flatMap (fun i => lineV (C i))
theorem text_succ (C : Nat → Ins) (k : Nat) : textV C (k + 1) = textV C k ++ lineV (C k) := by unfold textV; rw [List.range_succ, List.flatMap_append]; simp
def InIns (i : Ins) : Prop := (-9223372036854775808 ≤ i.op ∧ i.op ≤ 9223372036854775807) ∧ (-9223372036854775808 ≤ i.a ∧ i.a ≤ 9223372036854775807) ∧ (-9223372036854775808 ≤ i.b ∧ i.b ≤ 9223372036854775807)
theorem name_len (op : Int) : (nameV op).length ≤ 7 := by
  unfold nameV
  split
  · rename_i h
    obtain ⟨q, hq⟩ : ∃ q : Nat, op = q := ⟨op.toNat, by omega⟩
    subst hq
    have hq : q < 21 := by omega
    have : ∀ p : Fin 21, (namesL.getD p.val []).length ≤ 7 := by decide
    exact this ⟨q, hq⟩
  · simp
theorem opd_len {n : Int} (h : -9223372036854775808 ≤ n ∧ n ≤ 9223372036854775807) (u : Bool) : (opdV n u).length ≤ 22 := by
  unfold opdV
  split
  · have := Lib.itoa_length_le n h.1 h.2
    simp; omega
  · simp
theorem line_len {i : Ins} (h : InIns i) : (lineV i).length ≤ 52 := by
  unfold lineV
  have h1 := name_len i.op
  have h2 := opd_len h.2.1 (decide (0 < usesV i.op))
  have h3 := opd_len h.2.2 (decide (1 < usesV i.op))
  simp only [List.length_append, List.length_singleton]
  omega
theorem text_len {C : Nat → Ins} {n : Nat} (h : ∀ i, i < n → InIns (C i)) : ∀ k, k ≤ n → (textV C k).length ≤ 52 * k
  | 0, _ => by simp [textV]
  | k + 1, hk => by
    have h1 := text_len h k (by omega)
    have h2 := line_len (h k (by omega))
    rw [text_succ, List.length_append]; omega
theorem str_app (a b : List UInt8) : (⟨a.toArray⟩ : ByteArray) ++ ⟨b.toArray⟩ = ⟨(a ++ b).toArray⟩ := by
  apply ByteArray.ext
  simp [ByteArray.data_append]
theorem str_size (a : List UInt8) : (⟨a.toArray⟩ : ByteArray).size = a.length := by simp [ByteArray.size]
/-- a sum of short strings -/
theorem str_add (a b : List UInt8) (h : a.length + b.length ≤ 1000000000) (w : World) : (Op.stringOp .add ⟨a.toArray⟩ ⟨b.toArray⟩).run Tryd.prog w = .ok (.string ⟨(a ++ b).toArray⟩) w := by
  rw [run_string_add_sum w _ _ (by rw [str_size, str_size]; omega), str_app]
set_option maxRecDepth 100000 in
set_option maxHeartbeats 16000000 in
theorem text_any {w : World} {p : Option Addr} {n c : Nat} {C : Nat → Ins} (hC : IsCode w p n C) (hT : TabsB w) (hn : n ≤ 100000) (hI : ∀ i, i < n → InIns (C i)) : Calls Tryd.prog 22 #[.slice p n c] w fun e w' => e = .returned (strV (textV C n)) ∧ Below w.heap.size w w' := by
  have HC := Lib.hid hC
  have HT := Lib.hid hT
  have HI := Lib.hid hI
  clear hC hT hI
  go_enter Tryd.func22, Tryd.ntmps22
  go_wp2_with fail
  go_loopw [3, 10] (fun v i wr => ∃ k : Nat, k ≤ n ∧ i = .int .i64 k ∧ v = .string ⟨(textV C k).toArray⟩ ∧ Below w.heap.size w wr) (fun _ i _ => n - (intOf i).toNat)
  case atStart => exact ⟨0, Nat.zero_le _, rfl, rfl, Below.refl _ _⟩
  case round =>
    obtain ⟨k, hk, rfl, hv, hbw⟩ := hrel
    have hlen := text_len HI.out k hk
    obtain ⟨tx, htx⟩ : ∃ tx, textV C k = tx := ⟨_, rfl⟩
    have HTX := Lib.hid htx
    rw [htx] at hv hlen
    subst hv
    have HBW := Lib.hid hbw
    by_cases hlt : k < n
    · have d1 : decide (k < n) = true := decide_eq_true hlt
      obtain ⟨bb, off, rfl, hlt0, c0, c1, c2⟩ := HC.out.at_ hbw hlt
      have hin := HI.out k hlt
      obtain ⟨ii, hii⟩ : ∃ ii, C k = ii := ⟨_, rfl⟩
      have HII := Lib.hid hii
      rw [hii] at c0 c1 c2 hin
      have HNX : Hid (textV C (k + 1) = tx ++ lineV ii) := Lib.hid (by rw [text_succ, htx, hii])
      obtain ⟨op, a, b⟩ := ii
      have HIA : Hid (-9223372036854775808 ≤ a ∧ a ≤ 9223372036854775807) := Lib.hid hin.2.1
      have HIB : Hid (-9223372036854775808 ≤ b ∧ b ≤ 9223372036854775807) := Lib.hid hin.2.2
      dsimp only at c0 c1 c2
      have g0 : (0 : Int) ≤ (k : Int) := by omega
      have g1 : (k : Int) < (n : Int) := by omega
      have HBA : Hid (Below w.heap.size w (wr.alloc (.cells #[.int .i64 op, .int .i64 a, .int .i64 b] 31))) := Lib.hid (hbw.alloc hbw.size _)
      clear hii hbw htx hin
      by_cases hr : op < 1 ∨ 20 < op
      · have hu := uses_zero hr
        have HU := Lib.hid hu
        have HLV : Hid (lineV ⟨op, a, b⟩ = [10]) := Lib.hid (by unfold lineV nameV; rw [hu, if_neg (show ¬ (1 ≤ op ∧ op ≤ 20) by omega)]; simp [opdV])
        obtain ⟨t1, ht1⟩ : ∃ t, tx = t := ⟨_, rfl⟩
        have HT1 := Lib.hid ht1
        rw [ht1] at hlen ⊢
        clear hu
        rcases hr with hr | hr
        · have q0 : decide ((1 : Int) ≤ op) = false := decide_eq_false (by omega)
          clear hr
          have n1 := str_add t1 [10] (by simp; omega)
          go_wp2_with (first | (go_at_call 28; (with_reducible refine (uses_any _ _).mono ?_); rw [HU.out]; rintro e w2 ⟨rfl, hw2⟩; replace hw2 := hw2.symm; subst hw2))
          go_roundw
          case rel =>
            refine ⟨k + 1, by omega, by go_num, ?_, HBA.out⟩
            have HE : textV C (k + 1) = t1 ++ [10] := by rw [HNX.out, HLV.out, ← HT1.out] <;> simp
            rw [HE]
          case measure => simp [intOf]; omega
        · have q0 : decide ((1 : Int) ≤ op) = true := decide_eq_true (by omega)
          have q1 : decide (op ≤ (20 : Int)) = false := decide_eq_false (by omega)
          clear hr
          have n1 := str_add t1 [10] (by simp; omega)
          go_wp2_with (first | (go_at_call 28; (with_reducible refine (uses_any _ _).mono ?_); rw [HU.out]; rintro e w2 ⟨rfl, hw2⟩; replace hw2 := hw2.symm; subst hw2))
          go_roundw
          case rel =>
            refine ⟨k + 1, by omega, by go_num, ?_, HBA.out⟩
            have HE : textV C (k + 1) = t1 ++ [10] := by rw [HNX.out, HLV.out, ← HT1.out] <;> simp
            rw [HE]
          case measure => simp [intOf]; omega
      · obtain ⟨q, rfl⟩ : ∃ q : Nat, op = q := ⟨op.toNat, by omega⟩
        obtain ⟨nm, hnm⟩ : ∃ nm, namesL.getD q [] = nm := ⟨_, rfl⟩
        have HNM : Hid (nameV (q : Int) = nm) := Lib.hid (by unfold nameV; rw [if_pos (by omega), Int.toNat_natCast]; exact hnm)
        have hnl : nm.length ≤ 7 := by have := name_len (q : Int); rw [HNM.out] at this; exact this
        have cn : (wr.alloc (.cells #[.int .i64 (q : Int), .int .i64 a, .int .i64 b] 31)).cell? ⟨0, q, none⟩ = some (.string ⟨nm.toArray⟩) := alloc_keep (by have := (HT.out.below HBW.out).name (q := q) (by omega); rw [hnm] at this; exact this)
        have s1 := str_add tx nm (by omega)
        clear hnm
        have q0 : decide ((1 : Int) ≤ (q : Int)) = true := decide_eq_true (by omega)
        have q1 : decide ((q : Int) ≤ 20) = true := decide_eq_true (by omega)
        have q2 : (0 : Int) ≤ (q : Int) := by omega
        have q3 : (q : Int) < 21 := by omega
        clear hr
        go_upto_region 7 with fail
        obtain ⟨t1, ht1⟩ : ∃ t, tx ++ nm = t := ⟨_, rfl⟩
        have HT1 := Lib.hid ht1
        have hl1 : t1.length ≤ 52 * k + 7 := by rw [← ht1, List.length_append]; omega
        rw [ht1]
        clear ht1 s1 cn c0 c1 c2
        obtain ⟨ia, hia⟩ : ∃ ia, Lib.itoa a = ia := ⟨_, rfl⟩
        obtain ⟨ib, hib⟩ : ∃ ib, Lib.itoa b = ib := ⟨_, rfl⟩
        have hla : ia.length ≤ 21 := by rw [← hia]; exact Lib.itoa_length_le a HIA.out.1 HIA.out.2
        have hlb : ib.length ≤ 21 := by rw [← hib]; exact Lib.itoa_length_le b HIB.out.1 HIB.out.2
        have HIT := Lib.hid hia
        have HJT := Lib.hid hib
        have hu3 : usesV (q : Int) = 0 ∨ usesV (q : Int) = 1 ∨ usesV (q : Int) = 2 := by
          unfold usesV
          split
          · exact .inr (.inr rfl)
          · split
            · exact .inr (.inl rfl)
            · exact .inl rfl
        clear hia hib
        rcases hu3 with hu | hu | hu
        · have HU := Lib.hid hu
          have HLV : Hid (lineV ⟨(q : Int), a, b⟩ = nm ++ [10]) := Lib.hid (by unfold lineV; rw [hu, HNM.out]; simp [opdV])
          clear hu
          have n1 := str_add t1 [10] (by simp; omega)
          go_wp2_with (first | (go_at_call 28; (with_reducible refine (uses_any _ _).mono ?_); rw [HU.out]; rintro e w2 ⟨rfl, hw2⟩; replace hw2 := hw2.symm; subst hw2))
          go_roundw
          case rel =>
            refine ⟨k + 1, by omega, by go_num, ?_, HBA.out⟩
            have HE : textV C (k + 1) = t1 ++ [10] := by rw [HNX.out, HLV.out, ← HT1.out] <;> simp
            rw [HE]
          case measure => simp [intOf]; omega
        · have HU := Lib.hid hu
          have HLV : Hid (lineV ⟨(q : Int), a, b⟩ = nm ++ (32 :: ia) ++ [10]) := Lib.hid (by unfold lineV; rw [hu, HNM.out]; simp [opdV, HIT.out])
          clear hu
          have a1 := str_add [32] ia (by simp; omega)
          have a2 := str_add t1 (32 :: ia) (by simp; omega)
          obtain ⟨t2, ht2⟩ : ∃ t, t1 ++ 32 :: ia = t := ⟨_, rfl⟩
          have HT2 := Lib.hid ht2
          have hl2 : t2.length ≤ 52 * k + 30 := by rw [← ht2]; simp; omega
          rw [ht2] at a2
          clear ht2
          have n1 := str_add t2 [10] (by simp; omega)
          go_wp2_with (first | (go_at_call 28; (with_reducible refine (uses_any _ _).mono ?_); rw [HU.out]; rintro e w2 ⟨rfl, hw2⟩; replace hw2 := hw2.symm; subst hw2) | (go_at_call_of 31 (Value.int .i64 a); (with_reducible refine (itoa_any (HT.out.below HBA.out) a HIA.out.1 HIA.out.2).mono ?_); rw [HIT.out]; rintro e w2 ⟨rfl, hb2⟩; have e2 : w2.cell? ⟨wr.heap.size, 2, none⟩ = some (.int .i64 b) := ((hb2.cell (p := ⟨wr.heap.size, 2, none⟩) (by simp)).trans (by simp [go_sem])); have HBN : Hid (Below w.heap.size w w2) := Lib.hid (HBA.out.trans (hb2.mono HBA.out.size)); clear HBA hb2; have HBA := HBN; clear HBN))
          go_roundw
          case rel =>
            refine ⟨k + 1, by omega, by go_num, ?_, HBA.out⟩
            have HE : textV C (k + 1) = t2 ++ [10] := by rw [HNX.out, HLV.out, ← HT2.out, ← HT1.out] <;> simp
            rw [HE]
          case measure => simp [intOf]; omega
        · have HU := Lib.hid hu
          have HLV : Hid (lineV ⟨(q : Int), a, b⟩ = nm ++ (32 :: ia) ++ (32 :: ib) ++ [10]) := Lib.hid (by unfold lineV; rw [hu, HNM.out]; simp [opdV, HIT.out, HJT.out])
          clear hu
          have a1 := str_add [32] ia (by simp; omega)
          have a2 := str_add t1 (32 :: ia) (by simp; omega)
          obtain ⟨t2, ht2⟩ : ∃ t, t1 ++ 32 :: ia = t := ⟨_, rfl⟩
          have HT2 := Lib.hid ht2
          have hl2 : t2.length ≤ 52 * k + 30 := by rw [← ht2]; simp; omega
          rw [ht2] at a2
          clear ht2
          have b1 := str_add [32] ib (by simp; omega)
          have b2 := str_add t2 (32 :: ib) (by simp; omega)
          obtain ⟨t3, ht3⟩ : ∃ t, t2 ++ 32 :: ib = t := ⟨_, rfl⟩
          have HT3 := Lib.hid ht3
          have hl3 : t3.length ≤ 52 * k + 60 := by rw [← ht3]; simp; omega
          rw [ht3] at b2
          clear ht3
          have n1 := str_add t3 [10] (by simp; omega)
          go_wp2_with (first | (go_at_call 28; (with_reducible refine (uses_any _ _).mono ?_); rw [HU.out]; rintro e w2 ⟨rfl, hw2⟩; replace hw2 := hw2.symm; subst hw2) | (go_at_call_of 31 (Value.int .i64 a); (with_reducible refine (itoa_any (HT.out.below HBA.out) a HIA.out.1 HIA.out.2).mono ?_); rw [HIT.out]; rintro e w2 ⟨rfl, hb2⟩; have e2 : w2.cell? ⟨wr.heap.size, 2, none⟩ = some (.int .i64 b) := ((hb2.cell (p := ⟨wr.heap.size, 2, none⟩) (by simp)).trans (by simp [go_sem])); have HBN : Hid (Below w.heap.size w w2) := Lib.hid (HBA.out.trans (hb2.mono HBA.out.size)); clear HBA hb2; have HBA := HBN; clear HBN) | (go_at_call_of 31 (Value.int .i64 b); (with_reducible refine (itoa_any (HT.out.below HBA.out) b HIB.out.1 HIB.out.2).mono ?_); rw [HJT.out]; rintro e w2 ⟨rfl, hb2⟩; have HBN : Hid (Below w.heap.size w w2) := Lib.hid (HBA.out.trans (hb2.mono HBA.out.size)); clear HBA hb2; have HBA := HBN; clear HBN))
          go_roundw
          case rel =>
            refine ⟨k + 1, by omega, by go_num, ?_, HBA.out⟩
            have HE : textV C (k + 1) = t3 ++ [10] := by rw [HNX.out, HLV.out, ← HT3.out, ← HT2.out, ← HT1.out] <;> simp
            rw [HE]
          case measure => simp [intOf]; omega
    · have hkn : k = n := by omega
      have d1 : decide (k < n) = false := decide_eq_false hlt
      clear hlt
      subst hkn
      go_wp2_with fail
      go_ret
      exact ⟨by rw [HTX.out]; rfl, HBW.out⟩
end Go.Proofs.YtclndbiljhbbkaaDoor
