/- Chapter 10: what the walk of a node does; a receiver, a message. -/
import Derived.Test.YtnojndgmgkgnpaaCK
import Derived.Test.YtnojndgmgkgnpaaCGrow
namespace Go.Proofs.Ytnojndgmgkgnpaa
open Go.ChangeShapes Go.WideShapes Go.ChangeAt Go.RowKit Go.Deep Go.Joins Go.Maps
set_option linter.unusedVariables false
set_option linter.unusedSimpArgs false
/-- what the walk of a node's code does, for nodes of size at most f -/
def VSpec (f : Nat) : Prop := ∀ (x : NodT), x.size ≤ f → ∀ {w0 w : World} {P : Nat → Prop} {cb : Nat} {m : MK} {s : CSt} {q : NS}, CX w0 P w cb m s → IsNd w0 (fun _ => True) x q → s.code.length + 8 * x.size ≤ 1000000 → s.lits.length + x.size ≤ 100000 →
 Calls Try.prog 44 #[.pointer (some ⟨cb, 0, none⟩), ndV x q] w fun e w' => e = .returned (.tuple #[]) ∧ CT w0 P w w' cb m (valP f x s)
theorem VSpec.at_ {f : Nat} (hv : VSpec f) {x : NodT} (hx : x.size ≤ f) {w0 ws w1 w : World} {P : Nat → Prop} {cb : Nat} {m : MK} {s : CSt} {q : NS} (h : CT w0 P ws w1 cb m s) (hb : Below w1.heap.size w1 w) (hn : IsNd w0 (fun _ => True) x q) (hf : s.code.length + 8 * x.size ≤ 1000000) (hl : s.lits.length + x.size ≤ 100000) :
  Calls Try.prog 44 #[.pointer (some ⟨cb, 0, none⟩), ndV x q] w fun e w' => e = .returned (.tuple #[]) ∧ CT w0 P ws w' cb m (valP f x s) := by
 have h2 := h.below hb
 refine (hv x hx h2.1 hn hf hl).mono ?_
 rintro e w' ⟨he, hc⟩
 exact ⟨he, h2.go hc⟩
/-- a row of nodes -/
def Rows (w : World) (p : Option Addr) (l : List NodT) : Prop := ∀ i (h : i < l.length), ∃ b off q', p = some ⟨b, off, none⟩ ∧ b < w.heap.size ∧ Cells6 w b (off + i * 6) l[i] q' ∧ IsNd w (fun _ => True) l[i] q'
theorem IsNd.rows {w : World} {x : NodT} {q : NS} (h : IsNd w (fun _ => True) x q) : Rows w q.pk x.kids := fun i hi => by
 obtain ⟨b, off, q', h1, h2, _, h3, h4⟩ := h.kid hi
 exact ⟨b, off, q', h1, h2, h3, h4⟩
/-- a receiver's rows, and the ones behind -/
theorem cells_six {w : World} {b : Nat} {x : NodT} {q : NS} (h : w.heap[b]? = some (.cells #[.int .i64 x.kind, .string x.text, .int .i64 x.num, .slice q.pn x.names.length q.cn, .slice q.pt x.temps.length q.ct, .slice q.pk x.kids.length q.ck] 25 (0, 0))) : Cells6 w b 0 x q :=
 ⟨by simp [World.cell?, h], by simp [World.cell?, h], by simp [World.cell?, h], by simp [World.cell?, h], by simp [World.cell?, h], by simp [World.cell?, h]⟩
set_option maxRecDepth 100000 in
set_option maxHeartbeats 16000000 in
theorem receiver_any {f : Nat} (hv : VSpec f) {w0 w : World} {P : Nat → Prop} {cb : Nat} {m : MK} {s : CSt} (h : CX w0 P w cb m s) {x : NodT} {q : NS} (hn : IsNd w0 (fun _ => True) x q) (hx : x.size ≤ f) (hf : s.code.length + 8 * x.size ≤ 1000000) (hl : s.lits.length + x.size ≤ 100000) :
  Calls Try.prog 74 #[.pointer (some ⟨cb, 0, none⟩), ndV x q] w fun e w' => e = .returned (.int .i64 (recvP (valP f) x s).1) ∧ CT w0 P w w' cb m (recvP (valP f) x s).2 := by
 have hsu := super_any hn.ok
 have hva : ∀ {w1 W : World}, CT w0 P w w1 cb m s → Below w1.heap.size w1 W → Calls Try.prog 44 #[.pointer (some ⟨cb, 0, none⟩), ndV x q] W fun e w' => e = .returned (.tuple #[]) ∧ CT w0 P w w' cb m (valP f x s) := fun hc hb => hv.at_ hx hc hb hn hf hl
 have HF : Hid (s.code.length ≤ 1000000) := Lib.hid (by omega)
 have HH := Lib.hid h
 unfold ndV at hsu hva ⊢
 cases hs : superN x with
 | true =>
  rw [hs] at hsu
  rw [show recvP (valP f) x s = (15, emitP s 1 0 0) from by unfold recvP; rw [if_pos hs]]
  have HSU := Lib.hid hsu
  clear hsu hva hn hx hf hl h hs hv
  go_enter Try.func74, Try.ntmps74
  go_wp2_with (first | (go_at_call 88; (with_reducible refine (HSU.out _).mono ?_); rintro e w2 ⟨rfl, hb2⟩; have HX2 := Lib.hid ((HH.out.ct.below (show Below w.heap.size w _ from bel)).below hb2); have hc6 := (cells_six (heap_alloc_new w (.cells #[.int .i64 x.kind, .string x.text, .int .i64 x.num, .slice q.pn x.names.length q.cn, .slice q.pt x.temps.length q.ct, .slice q.pk x.kids.length q.ck] 25))).same (hb2.block w.heap.size (by simp)); have c0 := hc6.c0; have c1 := hc6.c1; have c2 := hc6.c2; have c3 := hc6.c3; have c4 := hc6.c4; have c5 := hc6.c5; clear hc6 hb2) | (go_at_call 45; (with_reducible refine (emit_at HX2.out bel 1 0 0 HF.out).mono ?_); rintro e w7 ⟨rfl, hx3⟩; have HY := Lib.hid hx3; clear hx3))
  go_ret
  exact ⟨rfl, HY.out⟩
 | false =>
  rw [hs] at hsu
  rw [show recvP (valP f) x s = (14, valP f x s) from by unfold recvP; rw [if_neg (by rw [hs]; decide)]]
  have HSU := Lib.hid hsu
  have HVA : Hid (∀ {w1 W : World}, CT w0 P w w1 cb m s → Below w1.heap.size w1 W → _) := Lib.hid hva
  clear hsu hva hn hx hf hl h hs hv
  go_enter Try.func74, Try.ntmps74
  go_wp2_with (first | (go_at_call 88; (with_reducible refine (HSU.out _).mono ?_); rintro e w2 ⟨rfl, hb2⟩; have HX2 := Lib.hid ((HH.out.ct.below (show Below w.heap.size w _ from bel)).below hb2); have hc6 := (cells_six (heap_alloc_new w (.cells #[.int .i64 x.kind, .string x.text, .int .i64 x.num, .slice q.pn x.names.length q.cn, .slice q.pt x.temps.length q.ct, .slice q.pk x.kids.length q.ck] 25))).same (hb2.block w.heap.size (by simp)); have c0 := hc6.c0; have c1 := hc6.c1; have c2 := hc6.c2; have c3 := hc6.c3; have c4 := hc6.c4; have c5 := hc6.c5; clear hc6 hb2) | (go_at_call 44; (with_reducible refine (HVA.out HX2.out bel).mono ?_); rintro e w7 ⟨rfl, hx3⟩; have HY := Lib.hid hx3; clear hx3))
  go_ret
  exact ⟨rfl, HY.out⟩
theorem sizes_drop_eq (l : List NodT) (k : Nat) (h : k < l.length) : NodT.sizes (l.drop k) = (l[k]).size + NodT.sizes (l.drop (k + 1)) := by
 rw [List.drop_eq_getElem_cons h, NodT.sizes]
theorem Rows.drop {w : World} {b off : Nat} {l : List NodT} (h : Rows w (some ⟨b, off, none⟩) l) (j : Nat) : Rows w (some ⟨b, off + j * 6, none⟩) (l.drop j) := fun i hi => by
 rw [List.length_drop] at hi
 obtain ⟨b', off', q', e, h1, h2, h3⟩ := h (j + i) (by omega)
 cases e
 rw [List.getElem_drop]
 exact ⟨b, off + j * 6, q', rfl, h1, by rw [show off + j * 6 + i * 6 = off + (j + i) * 6 by omega]; exact h2, h3⟩
set_option maxRecDepth 100000 in
set_option maxHeartbeats 16000000 in
theorem message_any {f : Nat} (hv : VSpec f) {w0 w : World} {P : Nat → Prop} {cb : Nat} {m : MK} {s : CSt} (h : CX w0 P w cb m s) {p : Option Addr} {n c0 : Nat} {l : List NodT} (hr : Rows w0 p l) (hn : l.length = n) (hle : n ≤ 9223372036854775807) (op : Int) (t : ByteArray) (ht : t.size ≤ big63) (hx : NodT.sizes l ≤ f) (hf : s.code.length + 8 * NodT.sizes l + 1 ≤ 1000000) (hl : s.lits.length + NodT.sizes l + 1 ≤ 100000) :
  Calls Try.prog 73 #[.pointer (some ⟨cb, 0, none⟩), .int .i64 op, .string t, .slice p n c0] w fun e w' => e = .returned (.tuple #[]) ∧ CT w0 P w w' cb m (messP (valP f) op t l s) := by
 have HV := Lib.hid hv
 have HR := Lib.hid hr
 have HN := Lib.hid hn
 have HT := Lib.hid ht
 have H0 := Lib.hid h
 have HSZ := Lib.hid hx
 have HRM : Hid (s.code.length + 8 * NodT.sizes l + 1 ≤ 1000000 ∧ s.lits.length + NodT.sizes l + 1 ≤ 100000) := Lib.hid ⟨hf, hl⟩
 clear hv hr hn ht h hx hf hl
 go_enter Try.func73, Try.ntmps73
 go_wp2_with fail
 go_loopw [12] (fun i wr => ∃ (k : Nat) (sk : CSt), i = .int .i64 k ∧ k ≤ n ∧ CT w0 P w wr cb m sk ∧ (argsP (valP f) l s = argsP (valP f) (l.drop k) sk) ∧ sk.code.length + 8 * NodT.sizes (l.drop k) + 1 ≤ 1000000 ∧ sk.lits.length + NodT.sizes (l.drop k) + 1 ≤ 100000) (fun i _ => n - (intOf i).toNat)
 case atStart => exact ⟨0, s, rfl, Nat.zero_le _, H0.out.ct, rfl, HRM.out⟩
 case round =>
  obtain ⟨k, sk, rfl, hk, hct, hde, hrc, hrl⟩ := hrel
  have HX := Lib.hid hct
  have HD := Lib.hid hde
  clear hct hde H0
  by_cases hlt : k < n
  ·have d1 : decide (k < n) = true := decide_eq_true hlt
   have d2 : decide ((k : Int) < (n : Int)) = true := decide_eq_true (by omega)
   have hkl : k < l.length := by rw [HN.out]; exact hlt
   obtain ⟨b, off, q', rfl, hbl, hc6, hkd⟩ := HR.out k hkl
   have hsz := sizes_drop_eq l k hkl
   have hst := HX.out.1.stat
   have hc6w := hc6.same (hst.block b hbl)
   have hsk : (l[k]).size ≤ f := Nat.le_trans (sizes_drop l k hkl) HSZ.out
   have hdr : l.drop k = l[k] :: l.drop (k + 1) := List.drop_eq_getElem_cons hkl
   obtain ⟨kd, hkx⟩ : ∃ kd, l[k] = kd := ⟨_, rfl⟩
   rw [hkx] at hc6w hkd hsz hsk hdr
   have hgr := valP_gr f kd sk hsk
   have hva : ∀ (W : World), Below wr.heap.size wr W → Calls Try.prog 44 #[.pointer (some ⟨cb, 0, none⟩), ndV kd q'] W fun e w' => e = .returned (.tuple #[]) ∧ CT w0 P w w' cb m (valP f kd sk) := fun W hb => HV.out.at_ hsk HX.out hb hkd (by omega) (by omega)
   unfold ndV at hva
   have HVA := Lib.hid hva
   have HDR := Lib.hid hdr
   have HG : Hid ((valP f kd sk).code.length + 8 * NodT.sizes (l.drop (k + 1)) + 1 ≤ 1000000 ∧ (valP f kd sk).lits.length + NodT.sizes (l.drop (k + 1)) + 1 ≤ 100000) := Lib.hid (by
    have h1 := hgr.code
    have h2 := hgr.lits
    have h3 := kd.size_pos
    exact ⟨by omega, by omega⟩)
   have c0 := hc6w.c0
   have c1 := hc6w.c1
   have c2 := hc6w.c2
   have c3 := hc6w.c3
   have c4 := hc6w.c4
   have c5 := hc6w.c5
   have g0 : (0 : Int) ≤ (k : Int) := by omega
   have g1 : (k : Int) < (n : Int) := by omega
   have hbw : b < wr.heap.size := Nat.lt_of_lt_of_le hbl hst.size
   clear hva hdr hgr hc6 hc6w hkd hsz hsk hst hkx hrc hrl
   go_wp2_with (first | (go_at_call 44; (with_reducible refine (HVA.out _ bel).mono ?_); rintro e w5 ⟨rfl, hx3⟩; have HY := Lib.hid hx3; clear hx3))
   go_roundw
   case rel => exact ⟨k + 1, _, by go_num, hlt, HY.out, by rw [HD.out, HDR.out]; rfl, HG.out⟩
   case measure => simp [intOf]; omega
  ·have hkn : k = n := by omega
   have d1 : decide (k < n) = false := decide_eq_false hlt
   have d2 : decide ((k : Int) < (n : Int)) = false := decide_eq_false (by omega)
   clear hlt
   subst hkn
   have hd0 : argsP (valP f) l s = sk := by rw [HD.out, ← HN.out, List.drop_length]; rfl
   have HMS : Hid (messP (valP f) op t l s = emitP (symP sk t).2 op (symP sk t).1 k) := Lib.hid (by unfold messP; rw [hd0, HN.out])
   have HL : Hid (sk.lits.length ≤ 100000) := Lib.hid (by omega)
   have HF5 : Hid ((symP sk t).2.code.length ≤ 1000000) := Lib.hid (by rw [sym_code]; omega)
   obtain ⟨g, hg⟩ : ∃ g, (symP sk t).1 = g := ⟨_, rfl⟩
   have HSY := Lib.hid hg
   rw [hg] at HMS
   clear hd0 hg hrc hrl
   go_wp2_with (first | (go_at_call 70; (with_reducible refine (symbol_at HX.out bel t HT.out HL.out).mono ?_); rw [HSY.out]; rintro e w5 ⟨rfl, hx3⟩; have HX5 := Lib.hid hx3; clear hx3) | (go_at_call 45; (with_reducible refine (emit_at HX5.out bel op (g : Int) (k : Int) HF5.out).mono ?_); rintro e w7 ⟨rfl, hx3⟩; have HY := Lib.hid hx3; clear hx3))
   go_returns
   rw [HMS.out]
   exact ⟨rfl, HY.out⟩
end Go.Proofs.Ytnojndgmgkgnpaa
