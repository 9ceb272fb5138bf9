/- Chapter 03: the closure that sees a word. -/
import Derived.Test.YthjjanjmiinpbaaMPlain
import Derived.Test.YthjjanjmiinpbaaSH
import Derived.Test.YthjjanjmiinpbaaHE2
import Derived.Test.YthjjanjmiinpbaaHK4
import Derived.Deep.RegionLaw
namespace Go.Proofs.Ythjjanjmiinpbaa
open Go.ChangeShapes Go.WideShapes Go.ChangeAt Go.RowKit Go.Deep Go.Joins Go.Maps
set_option linter.unusedVariables false
set_option linter.unusedSimpArgs false
/-- what Reached holds on its way -/
structure SeeW (W : World) (b0 g0 s mb sb wb gm n : Nat) (seen : Int → Bool) (waits : List Int) : Prop where
  c0 : W.cell? ⟨mb, 0, none⟩ = some (.pointer (some ⟨s, 0, none⟩))
  c1 : W.heap[sb]? = some (.cells #[.map (some gm)] 61 (0, 0))
  c2 : ∃ v, W.heap[wb]? = some (.cells #[v] 23 (0, 0)) ∧ W.ownsRow g0 3 1 v waits.length (waits.map (.int .i64))
  mp : SeenMap W gm n seen
  lo : b0 ≤ mb ∧ b0 ≤ sb ∧ b0 ≤ wb ∧ b0 ≤ gm
  hi : mb < g0 ∧ sb < g0 ∧ wb < g0 ∧ gm < g0
  ne : wb ≠ mb ∧ wb ≠ sb ∧ gm ≠ mb ∧ gm ≠ sb ∧ gm ≠ wb
  le : g0 ≤ W.heap.size
theorem SeeW.same {W W' : World} {b0 g0 s mb sb wb gm n : Nat} {seen : Int → Bool} {waits : List Int} (h : SeeW W b0 g0 s mb sb wb gm n seen waits) (hb : Below W.heap.size W W') : SeeW W' b0 g0 s mb sb wb gm n seen waits := by
  obtain ⟨v, h2, h3⟩ := h.c2
  have hh := h.hi
  have hl := h.le
  refine ⟨(hb.cell (cell_lt h.c0)).trans h.c0, (hb.block _ (by omega)).trans h.c1, ⟨v, (hb.block _ (by omega)).trans h2, ownsRow_same h3 hb.size (fun k hk => hb.block k (World.ownsRow.lt h3 k hk).2)⟩, h.mp.same (hb.block _ (by omega)), h.lo, h.hi, h.ne, Nat.le_trans hl hb.size⟩
theorem see_no {W : World} {s bw bm : Nat} {m : Hp} (P : PM W s bw bm m) {b0 g0 mb sb wb gm n : Nat} {seen : Int → Bool} {waits : List Int} (h : SeeW W b0 g0 s mb sb wb gm n seen waits) (a : Int) (ha : InI a) (hn : (isV m.L a && !seen a) = false) :
    Calls Try.prog 41 #[.int .i64 a, .pointer (some ⟨mb, 0, none⟩), .pointer (some ⟨sb, 0, none⟩), .pointer (some ⟨wb, 0, none⟩)] W fun e W' => e = .returned (.tuple #[]) ∧ ∃ k, W' = W.drewN k := by
  have c0 := h.c0
  have c1 : W.cell? ⟨sb, 0, none⟩ = some (.map (some gm)) := by simp [World.cell?, h.c1]
  have hlook : ∀ d, (Instr.lookup 61 (.map (some gm)) (.int .i64 a) false).run Try.prog (W.drewN d) = .ok (.bool (seen a)) (W.drewN d) := fun d => (h.mp.same (w' := W.drewN d) rfl).look ha
  have HP := Lib.hid P
  cases hv : isV m.L a
  · have HV := Lib.hid hv
    clear P h hn hv
    go_enter Try.func41, Try.ntmps41
    go_wp2_with (go_at_call 19; (with_reducible refine (is_any HP.out a).mono ?_); rw [HV.out]; rintro e w2 ⟨rfl, n2, hw2⟩; have HW2 := Lib.hid hw2; clear hw2)
    go_returns
    exact ⟨rfl, _, HW2.out⟩
  · rw [hv] at hn
    have hs : seen a = true := by simpa using hn
    rw [hs] at hlook
    have HV := Lib.hid hv
    have HLK := Lib.hid hlook
    clear P h hn hv hlook hs
    go_enter Try.func41, Try.ntmps41
    go_wp2_with (go_at_call 19; (with_reducible refine (is_any HP.out a).mono ?_); rw [HV.out]; rintro e w2 ⟨rfl, n2, hw2⟩; have HW2 := Lib.hid hw2; have hlk : (Instr.lookup 61 (.map (some gm)) (.int .i64 a) false).run Try.prog w2 = .ok (.bool true) w2 := (by rw [hw2]; exact HLK.out n2); have d1 : w2.cell? ⟨sb, 0, none⟩ = some (.map (some gm)) := (by rw [hw2]; exact c1); clear hw2)
    go_returns
    exact ⟨rfl, _, HW2.out⟩
theorem SeeW.after {w2 w3 w4 : World} {b0 g0 s mb sb wb gm n n' : Nat} {seen seen' : Int → Bool} {waits waits' : List Int} (h : SeeW w2 b0 g0 s mb sb wb gm n seen waits) {v v2 : Value} {a : Int} (hown : w2.ownsRow g0 3 1 v waits.length (waits.map (.int .i64))) (hwb : w2.heap[wb]? = some (.cells #[v] 23 (0, 0))) (hg3 : w2.grownBy w3 (some gm)) (hm3 : SeenMap w3 gm n' seen') (hg4 : (w3.alloc (.cells #[.int .i64 a] 3)).grownBy w4 v.ownBlock) (hown4 : w4.ownsRow g0 3 1 v2 waits'.length (waits'.map (.int .i64))) :
    SeeW (w4.setCell ⟨wb, 0, none⟩ v2) b0 g0 s mb sb wb gm n' seen' waits' ∧ Below b0 w2 (w4.setCell ⟨wb, 0, none⟩ v2) := by
  have hh := h.hi
  have hl := h.le
  have hne := h.ne
  have hlo := h.lo
  have s3 := hg3.size
  have s4 := hg4.size
  rw [World.size_alloc] at s4
  have k4 : ∀ k, k < g0 → w4.heap[k]? = w3.heap[k]? := fun k hk => (hg4.block k (by rw [World.size_alloc]; omega) (fun e => by have := (World.ownsRow.lt hown k e.symm).1; omega)).trans (Below.heap_alloc _ _ _ (by omega))
  have k2 : ∀ k, k < g0 → k ≠ gm → w4.heap[k]? = w2.heap[k]? := fun k hk hn => (k4 k hk).trans (hg3.block k (by omega) (fun e => hn (Option.some.inj e)))
  have kk : ∀ k, k ≠ wb → (w4.setCell ⟨wb, 0, none⟩ v2).heap[k]? = w4.heap[k]? := fun k hk => Below.heap_setCell _ _ _ _ hk
  have hwb4 : w4.heap[wb]? = some (.cells #[v] 23 (0, 0)) := (k2 wb hh.2.2.1 (fun e => hne.2.2.2.2 e.symm)).trans hwb
  refine ⟨⟨?_, ?_, ⟨v2, ?_, ?_⟩, ?_, hlo, hh, hne, by simp; omega⟩, ?_⟩
  · have := (kk mb (fun e => hne.1 e.symm)).trans (k2 mb hh.1 (fun e => hne.2.2.1 e.symm))
    have c0 := h.c0
    unfold World.cell? at c0 ⊢
    rw [this]; exact c0
  · exact ((kk sb (fun e => hne.2.1 e.symm)).trans (k2 sb hh.2.1 (fun e => hne.2.2.2.1 e.symm))).trans h.c1
  · have := heap_setCell_same w4 wb 0 #[v] 23 v2 hwb4
    simpa using this
  · exact ownsRow_same hown4 (by simp) (fun k hk => kk k (fun e => by have := (World.ownsRow.lt hown4 k hk).1; omega))
  · exact hm3.same ((kk gm (fun e => hne.2.2.2.2 e)).trans (k4 gm hh.2.2.2))
  · exact ((((Below.refl _ _).grown hg3 (by omega) (fun k e => by cases e; exact hlo.2.2.2)).alloc (by omega) _).grown hg4 (by simp; omega) (fun k e => by have := (World.ownsRow.lt hown k e).1; omega)).setCell hlo.2.2.1 _
set_option maxRecDepth 100000 in
set_option maxHeartbeats 16000000 in
theorem see_yes {W : World} {s bw bm : Nat} {m : Hp} (P : PM W s bw bm m) {b0 g0 mb sb wb gm n : Nat} {seen : Int → Bool} {waits : List Int} (h : SeeW W b0 g0 s mb sb wb gm n seen waits) (a : Int) (ha : InI a) (hv : isV m.L a = true) (hs : seen a = false) (hn : n < 1000000) (hwl : waits.length ≤ 1000000) :
    Calls Try.prog 41 #[.int .i64 a, .pointer (some ⟨mb, 0, none⟩), .pointer (some ⟨sb, 0, none⟩), .pointer (some ⟨wb, 0, none⟩)] W fun e W' => e = .returned (.tuple #[]) ∧ SeeW W' b0 g0 s mb sb wb gm (n + 1) (upd seen a) (waits ++ [a]) ∧ Below b0 W W' := by
  obtain ⟨i0, hi, hz0, hz1, hz2⟩ := info_parts infoI
  have c0 := h.c0
  have c1 : W.cell? ⟨sb, 0, none⟩ = some (.map (some gm)) := by simp [World.cell?, h.c1]
  have HP := Lib.hid P
  have HS := Lib.hid h
  have HV := Lib.hid hv
  have HI := Lib.hid ha
  have hlook : ∀ d, (Instr.lookup 61 (.map (some gm)) (.int .i64 a) false).run Try.prog (W.drewN d) = .ok (.bool false) (W.drewN d) := fun d => by have q := (h.mp.same (w' := W.drewN d) rfl).look ha; rw [hs] at q; exact q
  have HLK := Lib.hid hlook
  clear P h hv ha hlook hs
  go_enter Try.func41, Try.ntmps41
  go_upto_region 1 with (go_at_call 19; (with_reducible refine (is_any HP.out a).mono ?_); rw [HV.out]; rintro e w2 ⟨rfl, n2, hw2⟩; have HB2 : Hid (Below W.heap.size W w2) := Lib.hid (by rw [hw2]; exact below_drewN (Below.refl _ _) n2); have hlk : (Instr.lookup 61 (.map (some gm)) (.int .i64 a) false).run Try.prog w2 = .ok (.bool false) w2 := (by rw [hw2]; exact HLK.out n2); have d1 : w2.cell? ⟨sb, 0, none⟩ = some (.map (some gm)) := (by rw [hw2]; exact c1); clear hw2)
  have HS2 := Lib.hid (HS.out.same HB2.out)
  obtain ⟨v, hwb, hown⟩ := HS2.out.c2
  have HWB := Lib.hid hwb
  have HOWN := Lib.hid hown
  clear hwb hown hlk
  go_upto_region 2 with (at_mapUpdate; refine wpList_seen _ rfl _ _ _ rfl HS2.out.mp (by unfold maxLen; omega) HI.out rfl rfl rfl ?_; intro w3 hs3 hg3; have HM3 := Lib.hid hs3; have HG3 := Lib.hid hg3; clear hs3 hg3)
  have HX3 : Hid (w3.heap[wb]? = some (.cells #[v] 23 (0, 0))) := Lib.hid ((HG3.out.block wb (by have := HS2.out.hi; have := HS2.out.le; omega) (fun e => HS2.out.ne.2.2.2.2 (Option.some.inj e).symm)).trans HWB.out)
  have d2 : w3.cell? ⟨wb, 0, none⟩ = some v := by simp [World.cell?, HX3.out]
  have HOWN3 : Hid (w3.ownsRow g0 3 1 v waits.length (waits.map (.int .i64))) := Lib.hid (ownsRow_same HOWN.out HG3.out.size (fun k hk => HG3.out.block k (World.ownsRow.lt HOWN.out k hk).2 (fun e => by have := (World.ownsRow.lt HOWN.out k hk).1; have := HS2.out.hi; cases e; omega)))
  have HLE : Hid (g0 ≤ w3.heap.size) := Lib.hid (Nat.le_trans HS2.out.le HG3.out.size)
  clear d1
  go_wp2_with (at_builtin; refine wpList_append_own _ rfl _ _ 23 rfl g0 3 i0 (.int .i64 0) 1 8 Try.underlying23 hi hz0 hz1 hz2 rfl (by decide) _ _ _ rfl (HOWN3.out.alloc _) ⟨w3.heap.size, 0, none⟩ 1 1 [.int .i64 a] rfl rfl (cells_newN _ _ _ _ (by simp)) (by simp [Value.oneCell']) (by unfold maxLen; omega) (by omega) (by have := HLE.out; simp only [World.size_alloc]; omega) ?_; intro v2 w4 hown4 hg4 _; have hi4 : Ints w4 g0 v2 (waits ++ [a]) := (by unfold Ints; rw [List.length_append, List.map_append]; exact hown4); obtain ⟨A2, c2, rfl, _⟩ := hi4.nums; have HI4 := Lib.hid hi4; have HG4 := Lib.hid hg4; have HWB4 : Hid (w4.heap[wb]? = some (.cells #[v] 23 (0, 0))) := Lib.hid ((hg4.block wb (by have := HS2.out.hi; have := HLE.out; rw [World.size_alloc]; omega) (fun e => by have := (World.ownsRow.lt HOWN3.out wb e.symm).1; have := HS2.out.hi; omega)).trans ((Below.heap_alloc _ _ _ (by have := HS2.out.hi; have := HLE.out; omega)).trans HX3.out)); have e1 : w4.cell? ⟨wb, 0, none⟩ = some v := (by simp [World.cell?, HWB4.out]); have e2 : w4.frozen? ⟨wb, 0, none⟩ = false := (by simp [World.frozen?, HWB4.out]); clear hi4 hown4 hg4)
  go_returns
  obtain ⟨r1, r2⟩ := SeeW.after HS2.out HOWN.out HWB.out HG3.out HM3.out HG4.out HI4.out
  rw [show (waits ++ [a]).length = waits.length + 1 by simp] at r1 r2
  exact ⟨rfl, r1, (HB2.out.mono (Nat.le_trans HS2.out.lo.1 (by have := HS.out.hi; have := HS.out.le; omega))).trans r2⟩
end Go.Proofs.Ythjjanjmiinpbaa
/- Chapter 03: any that may not be; the closure that sees a word. -/
namespace Go.Proofs.Ythjjanjmiinpbaa
open Go.ChangeShapes Go.WideShapes Go.ChangeAt Go.RowKit Go.Deep Go.Joins Go.Maps
set_option linter.unusedVariables false
set_option linter.unusedSimpArgs false
/-- a closure that tells p, and only reads -/
def Tells (f : Nat) (caps : List Value) (p : Int → Bool) (w : World) : Prop := ∀ (d : Nat) (a : Int), Calls Try.prog f (Value.int .i64 a :: caps).toArray (w.drewN d) fun e w' => e = .returned (.bool (p a)) ∧ ∃ n, w' = (w.drewN d).drewN n
theorem any_take_succ {l : List Int} {p : Int → Bool} {k : Nat} (hk : k < l.length) (h : p l[k] = false) (ha : (l.take k).any p = false) : (l.take (k + 1)).any p = false := by
  rw [List.take_succ_eq_append_getElem hk, List.any_append, ha]; simp [h]
set_option maxRecDepth 100000 in
set_option maxHeartbeats 16000000 in
theorem may1_tells {w : World} {s bw bm : Nat} {m : Hp} (h : PM w s bw bm m) (mb : Nat) (hmb : w.cell? ⟨mb, 0, none⟩ = some (.pointer (some ⟨s, 0, none⟩))) : Tells 39 [.pointer (some ⟨mb, 0, none⟩)] (fun a => !mayV m.L a) w := fun d a => by
  have hm := may_any (h.drewN d) a
  have hc : (w.drewN d).cell? ⟨mb, 0, none⟩ = some (.pointer (some ⟨s, 0, none⟩)) := hmb
  obtain ⟨w1, hw1⟩ : ∃ w1, w.drewN d = w1 := ⟨_, rfl⟩
  rw [hw1] at hm hc ⊢
  show Calls Try.prog 39 #[.int .i64 a, .pointer (some ⟨mb, 0, none⟩)] w1 _
  obtain ⟨b, hb⟩ : ∃ b, mayV m.L a = b := ⟨_, rfl⟩
  rw [hb] at hm
  have HMM := Lib.hid hm
  have HB : Hid ((!mayV m.L a) = !b) := Lib.hid (by rw [hb])
  clear hm hb h hw1 hmb
  go_enter Try.func39, Try.ntmps39
  go_wp2_with (go_at_call 40; (with_reducible refine HMM.out.mono ?_); rintro e w6 ⟨rfl, n6, rfl⟩)
  go_ret
  exact ⟨ret_bool HB.out.symm, _, rfl⟩
set_option maxRecDepth 100000 in
set_option maxHeartbeats 16000000 in
theorem index_may1 {w : World} {mb : Nat} {p : Int → Bool} (ht : Tells 39 [.pointer (some ⟨mb, 0, none⟩)] p w) {A : Option Addr} {l : List Int} {n c : Nat} (hl : Nums w A l) (hn : l.length = n) (hll : n ≤ 1000000000) : Calls Try.prog 62 #[.slice A n c, .func (.func 39) #[] #[.pointer (some ⟨mb, 0, none⟩)]] w fun e w' => (∃ r : Int, e = .returned (.int .i64 r) ∧ decide (0 ≤ r) = l.any p) ∧ ∃ n, w' = w.drewN n := by
  have HT := Lib.hid ht
  have HL := Lib.hid hl
  have HN := Lib.hid hn
  clear ht hl hn
  go_enter Try.func62, Try.ntmps62
  go_wp2_with fail
  go_loopw [8] (fun i wr => ∃ k : Nat, k ≤ n ∧ i = .int .i64 k ∧ (l.take k).any p = false ∧ ∃ d, wr = w.drewN d) (fun i _ => n - (intOf i).toNat)
  case atStart => exact ⟨0, Nat.zero_le _, rfl, rfl, 0, rfl⟩
  case round =>
    obtain ⟨k, hk, rfl, hall, d, rfl⟩ := hrel
    have HALL := Lib.hid hall
    clear hall
    by_cases hlt : k < n
    · have d1 : decide (k < n) = true := decide_eq_true hlt
      have hkl : k < l.length := by rw [HN.out]; exact hlt
      obtain ⟨g, off, rfl, hgl, hc⟩ := HL.out k hkl
      obtain ⟨a, ha⟩ : ∃ a, l[k] = a := ⟨_, rfl⟩
      have HA := Lib.hid ha
      rw [ha] at hc
      have hod : Calls Try.prog 39 #[.int .i64 a, .pointer (some ⟨mb, 0, none⟩)] (w.drewN d) fun e w' => e = .returned (.bool (p a)) ∧ ∃ n, w' = (w.drewN d).drewN n := HT.out d a
      have g0 : (0 : Int) ≤ (k : Int) := by omega
      have g1 : (k : Int) < (n : Int) := by omega
      clear ha
      cases hv : p a
      · have HOD := Lib.hid hod
        have HV := Lib.hid hv
        clear hod hv
        go_wp2_with (go_at_call 39; (with_reducible refine HOD.out.mono ?_); rw [HV.out]; rintro e w1 ⟨rfl, n1, rfl⟩)
        go_roundw
        case rel => exact ⟨k + 1, by omega, by go_num, any_take_succ hkl (by rw [HA.out]; exact HV.out) HALL.out, _, rfl⟩
        case measure => simp [intOf]; omega
      · have HOD := Lib.hid hod
        have HV := Lib.hid hv
        clear hod hv
        go_wp2_with (go_at_call 39; (with_reducible refine HOD.out.mono ?_); rw [HV.out]; rintro e w1 ⟨rfl, n1, rfl⟩)
        go_ret
        refine ⟨⟨_, rfl, ?_⟩, _, rfl⟩
        have hf : l.any p = true := List.any_eq_true.2 ⟨a, by rw [← HA.out]; exact List.getElem_mem hkl, HV.out⟩
        rw [hf]
        exact decide_eq_true (by omega)
    · have hkn : k = n := by omega
      have d1 : decide (k < n) = false := decide_eq_false hlt
      clear hlt
      subst hkn
      go_wp2_with fail
      go_ret
      refine ⟨⟨_, rfl, ?_⟩, _, rfl⟩
      have := HALL.out
      rw [← HN.out, List.take_length] at this
      rw [this]; rfl
theorem contains_may1 {w : World} {mb : Nat} {p : Int → Bool} (ht : Tells 39 [.pointer (some ⟨mb, 0, none⟩)] p w) {A : Option Addr} {l : List Int} {n c : Nat} (hl : Nums w A l) (hn : l.length = n) (hll : n ≤ 1000000000) : Calls Try.prog 38 #[.slice A n c, .func (.func 39) #[] #[.pointer (some ⟨mb, 0, none⟩)]] w fun e w' => e = .returned (.bool (l.any p)) ∧ ∃ n, w' = w.drewN n := by
  have hx := index_may1 (c := c) ht hl hn hll
  obtain ⟨b, hb⟩ : ∃ b, l.any p = b := ⟨_, rfl⟩
  have HX := Lib.hid hx
  have HB := Lib.hid hb
  rw [hb]
  clear hx hb ht hl hn
  go_enter Try.func38, Try.ntmps38
  go_wp2_with (go_at_call 62; (with_reducible refine HX.out.mono ?_); rintro e w1 ⟨⟨r, rfl, hr⟩, n1, rfl⟩; rw [HB.out] at hr; have HR := Lib.hid hr; clear hr)
  go_ret
  exact ⟨ret_bool HR.out, _, rfl⟩
/-- what Reached holds on its way, and how far it is -/
def SeeD (W : World) (L : List Ob) (rs pend : List Int) (b0 g0 s mb sb wb gm μ : Nat) : Prop := ∃ n seen waits, SeeW W b0 g0 s mb sb wb gm n seen waits ∧ DF L rs pend seen waits ∧ n + unseen L seen ≤ L.length ∧ 2 * unseen L seen + waits.length ≤ μ
theorem SeeD.same {W W' : World} {L : List Ob} {rs pend : List Int} {b0 g0 s mb sb wb gm μ : Nat} (h : SeeD W L rs pend b0 g0 s mb sb wb gm μ) (hb : Below W.heap.size W W') : SeeD W' L rs pend b0 g0 s mb sb wb gm μ := by
  obtain ⟨n, seen, waits, h1, h2, h3⟩ := h
  exact ⟨n, seen, waits, h1.same hb, h2, h3⟩
theorem SeeD.c0 {W : World} {L : List Ob} {rs pend : List Int} {b0 g0 s mb sb wb gm μ : Nat} (h : SeeD W L rs pend b0 g0 s mb sb wb gm μ) : W.cell? ⟨mb, 0, none⟩ = some (.pointer (some ⟨s, 0, none⟩)) := by
  obtain ⟨n, seen, waits, h1, _⟩ := h
  exact h1.c0
theorem see_any {W : World} {s bw bm : Nat} {m : Hp} (P : PM W s bw bm m) {rs pend : List Int} {b0 g0 mb sb wb gm μ : Nat} {a : Int} (h : SeeD W m.L rs (a :: pend) b0 g0 s mb sb wb gm μ) (ha : InI a) :
    Calls Try.prog 41 #[.int .i64 a, .pointer (some ⟨mb, 0, none⟩), .pointer (some ⟨sb, 0, none⟩), .pointer (some ⟨wb, 0, none⟩)] W fun e W' => e = .returned (.tuple #[]) ∧ SeeD W' m.L rs pend b0 g0 s mb sb wb gm μ ∧ Below b0 W W' := by
  obtain ⟨n, seen, waits, h1, h2, h3, h4⟩ := h
  have hle : n ≤ m.L.length := by omega
  have hbd := len_bd P.good
  have hwl := h2.len
  cases hc : (isV m.L a && !seen a)
  · refine (see_no P h1 a ha hc).mono ?_
    rintro e W' ⟨rfl, k, rfl⟩
    exact ⟨rfl, ⟨n, seen, waits, h1.same (below_drewN (Below.refl _ _) k), h2.skip hc, h3, h4⟩, below_drewN (Below.refl _ _) k⟩
  · rw [Bool.and_eq_true] at hc
    have hs : seen a = false := by simpa using hc.2
    refine (see_yes P h1 a ha hc.1 hs (by omega) (by omega)).mono ?_
    rintro e W' ⟨rfl, q1, q2⟩
    have hu := unseen_see hc.1 hs
    exact ⟨rfl, ⟨n + 1, upd seen a, waits ++ [a], q1, h2.see hc.1 hs, by omega, by rw [List.length_append, List.length_singleton]; omega⟩, q2⟩
end Go.Proofs.Ythjjanjmiinpbaa
