/- Chapter 06: a number. -/
import Derived.Test.YtdcibeagljeioaaW4
namespace Go.Proofs.Ytdcibeagljeioaa
open Go.ChangeShapes Go.WideShapes Go.ChangeAt Go.RowKit
set_option linter.unusedVariables false
set_option linter.unusedSimpArgs false
theorem At.lt {w : World} {b : Nat} {s : ByteArray} {i : Nat} (h : At w b s i) : b < w.heap.size := cell_lt h.c0
theorem At.alloc {w : World} {b : Nat} {s : ByteArray} {i : Nat} (h : At w b s i) (o : Obj) : At (w.alloc o) b s i := by
  have hl := h.lt
  exact ⟨by rw [World.cell?_alloc_old _ _ _ (Nat.ne_of_lt hl)]; exact h.c0, by rw [World.cell?_alloc_old _ _ _ (Nat.ne_of_lt hl)]; exact h.c1, by rw [World.frozen?_alloc_old _ _ _ (Nat.ne_of_lt hl)]; exact h.f1⟩
theorem Went.alloc {w w' : World} {b : Nat} {s : ByteArray} {i : Nat} (h : Went w w' b s i) (o : Obj) : Went w (w'.alloc o) b s i := ⟨h.at_.alloc o, h.grown.trans (World.grownBy_alloc _ _ _)⟩
def NumPost (w : World) (b : Nat) (s : ByteArray) (i : Nat) (e : Ending) (w' : World) : Prop :=
  (numV (s.data.toList.drop i) 0 = none ∧ e = .returned (.tuple #[.int .i64 0, .int .i64 2]) ∧ ∃ k, k ≤ s.size ∧ Went w w' b s k) ∨
  ∃ v, numV (s.data.toList.drop i) 0 = some v ∧ e = .returned (.tuple #[.int .i64 v, .int .i64 0]) ∧ Went w w' b s (i + digLen (s.data.toList.drop i))
theorem dig_bd (s : ByteArray) (i : Nat) (hi : i ≤ s.size) : i + digLen (s.data.toList.drop i) ≤ s.size := by
  have := digLen_le (s.data.toList.drop i)
  simp at this
  have : s.data.size = s.size := rfl
  omega
theorem numV_step {c : UInt8} {r : Bs} {v : Int} (h : digB c = true) : numV (c :: r) v = if v * 10 + ((c.toNat : Int) - 48) > big then none else numV r (v * 10 + ((c.toNat : Int) - 48)) := by
  rw [numV, if_pos h]
theorem tw_at {p : UInt8 → Bool} {l : Bs} {k : Nat} (h : k < (l.takeWhile p).length) : hd p (l.drop k) = true := by
  have := (rl_succ (p := p) (l := l) (m := l.length + 1) (k := k) (by unfold rl; have := (List.takeWhile_prefix (p := p) (l := l)).length_le; omega)).1 (by unfold rl; have := (List.takeWhile_prefix (p := p) (l := l)).length_le; omega)
  exact this.2
theorem tw_end {p : UInt8 → Bool} {l : Bs} : hd p (l.drop (l.takeWhile p).length) = false := by
  cases h : hd p (l.drop (l.takeWhile p).length)
  · rfl
  · have hl := (List.takeWhile_prefix (p := p) (l := l)).length_le
    have := (rl_succ (p := p) (l := l) (m := l.length + 1) (k := (l.takeWhile p).length) (by unfold rl; omega)).2 ⟨by omega, h⟩
    unfold rl at this; omega
set_option maxHeartbeats 4000000 in
theorem num_any {w : World} {b : Nat} {s : ByteArray} {i : Nat} (h : At w b s i) (hs : s.size ≤ 100000) (hi : i ≤ s.size) :
    Calls Try.prog 28 #[.pointer (some ⟨b, 0, none⟩)] w (NumPost w b s i) := by
  have hb := dig_bd s i hi
  have R := run_dig h hs hi s.size hs
  rw [rl_all] at R
  change Calls _ _ _ _ (fun e w' => e = .returned (.string (s.extract i (i + digLen (s.data.toList.drop i)))) ∧ At w' b s (i + digLen (s.data.toList.drop i)) ∧ w.grownBy w' (some b)) at R
  have hend : numV (s.data.toList.drop (i + digLen (s.data.toList.drop i))) = fun v => some v := by
    funext v
    have := tw_end (p := digB) (l := s.data.toList.drop i)
    rw [List.drop_drop] at this
    change hd digB (s.data.toList.drop (i + digLen (s.data.toList.drop i))) = false at this
    cases hl : s.data.toList.drop (i + digLen (s.data.toList.drop i)) with
    | nil => rfl
    | cons c r => rw [hl] at this; simp [hd] at this; simp [numV, this]
  have hdg : ∀ k, k < digLen (s.data.toList.drop i) → hd digB (s.data.toList.drop (i + k)) = true := fun k hk => by
    have := tw_at (p := digB) (l := s.data.toList.drop i) (k := k) hk
    rwa [List.drop_drop] at this
  obtain ⟨n, hn⟩ : ∃ n, digLen (s.data.toList.drop i) = n := ⟨_, rfl⟩
  have HN := Lib.hid hn
  rw [hn] at R hb hend hdg
  clear hn
  have hz := size_ext s i n hb
  have hx := ext_list s i n
  obtain ⟨t, ht⟩ : ∃ t, s.extract i (i + n) = t := ⟨_, rfl⟩
  rw [ht] at R hz hx
  clear ht
  have HX := Lib.hid hx
  have HZ := Lib.hid hz
  have HE := Lib.hid hend
  have HD := Lib.hid hdg
  clear hx hz hend hdg
  obtain ⟨c0, c1, f1⟩ := h
  go_enter Try.func28, Try.ntmps28
  go_wp2_with (go_at_call 15; (with_reducible refine R.mono ?_); rintro e w1 ⟨rfl, hA, hG⟩; clear c0 c1 f1)
  go_loopw [4] (fun x wr => ∃ (k : Nat) (v : Int), k ≤ n ∧ x = .int .i64 v ∧ wr = w1.iter t k ∧ 0 ≤ v ∧ v ≤ big ∧ numV (s.data.toList.drop i) 0 = numV (s.data.toList.drop (i + k)) v) (fun _ wr => n - wr.iterPos w1.heap.size)
  case atStart => exact ⟨0, 0, by omega, rfl, rfl, by omega, by unfold big; omega, rfl⟩
  case round =>
    obtain ⟨k, v, hk, rfl, rfl, hv0, hv1, hnv⟩ := hrel
    have HV := Lib.hid hnv
    clear hnv
    unfold big at hv1
    by_cases hlt : k < n
    · have hkt : k < t.size := by have := HZ.out; omega
      have hks : i + k < s.size := by omega
      have hce : t[k]'hkt = s[i + k]'hks := by
        have h1 : t.data.toList[k]? = some (t[k]'hkt) := by rw [List.getElem?_eq_getElem (by simpa using hkt)]; rfl
        rw [HX.out, List.getElem?_take_of_lt hlt, List.getElem?_drop, List.getElem?_eq_getElem (by simpa using hks)] at h1
        exact (Option.some.inj h1).symm
      have hdc := HD.out k hlt
      rw [hd_drop hks] at hdc
      obtain ⟨c, hc⟩ : ∃ c, s[i + k]'hks = c := ⟨_, rfl⟩
      have hcons : s.data.toList.drop (i + k) = c :: s.data.toList.drop (i + k + 1) := by rw [List.drop_eq_getElem_cons (by simpa using hks), ← hc]; rfl
      rw [hc] at hdc hce
      have hde := dig_eq c
      rw [hdc] at hde
      have hde' := hde.symm
      simp only [Bool.and_eq_true, decide_eq_true_eq] at hde'
      obtain ⟨b1, b2⟩ := hde'
      have hst := numV_step (r := s.data.toList.drop (i + k + 1)) (v := v) hdc
      rw [← hcons] at hst
      have HS := Lib.hid hst
      have hnx : ∀ ty, (Instr.next (.pointer (some ⟨w1.heap.size, 0, none⟩)) true ty).run Try.prog (w1.iter t k) = .ok (.tuple #[.bool true, .int .i64 k, .int .i32 c.toNat]) (w1.iter t (k + 1)) := fun ty => by
        have := run_next_ascii (P := Try.prog) w1 t k ty hkt (by rw [hce]; omega)
        rw [hce] at this; exact this
      clear hst hcons hde hdc hce hc
      by_cases hbig : 115292150460684697 < v
      · have d1 : decide (115292150460684697 < v) = true := decide_eq_true hbig
        go_wp2
        go_ret2
        left
        refine ⟨?_, rfl, i + n, hb, ⟨hA, hG⟩ |> fun z : Went w w1 b s (i + n) => z.alloc _⟩
        rw [HV.out, HS.out, if_pos (by unfold big; omega)]
      · have d1 : decide (115292150460684697 < v) = false := decide_eq_false hbig
        by_cases hov : 1152921504606846976 < v * 10 + ((c.toNat : Int) - 48)
        · have d2 : decide (1152921504606846976 < v * 10 + ((c.toNat : Int) - 48)) = true := decide_eq_true hov
          go_wp2
          go_ret2
          left
          refine ⟨?_, rfl, i + n, hb, ⟨hA, hG⟩ |> fun z : Went w w1 b s (i + n) => z.alloc _⟩
          rw [HV.out, HS.out, if_pos (by unfold big; omega)]
        · have d2 : decide (1152921504606846976 < v * 10 + ((c.toNat : Int) - 48)) = false := decide_eq_false hov
          go_wp2
          go_roundw
          case rel =>
            refine ⟨k + 1, v * 10 + ((c.toNat : Int) - 48), by omega, rfl, rfl, by omega, by unfold big; omega, ?_⟩
            rw [HV.out, HS.out, if_neg (by unfold big; omega)]
            rfl
          case measure => simp; omega
    · have hkn : k = n := by omega
      have hnx : ∀ ty, (Instr.next (.pointer (some ⟨w1.heap.size, 0, none⟩)) true ty).run Try.prog (w1.iter t k) = .ok (.tuple #[.bool false]) (w1.iter t k) := fun ty => run_next_end (P := Try.prog) w1 t k ty (by have := HZ.out; omega)
      have HK := Lib.hid hkn
      clear hkn
      go_wp2
      go_ret2
      right
      refine ⟨v, ?_, rfl, ?_⟩
      · rw [HV.out, HK.out, HE.out]
      · rw [HN.out]; exact (⟨hA, hG⟩ : Went w w1 b s (i + n)).alloc _
end Go.Proofs.Ytdcibeagljeioaa
