/- Chapter 10: a send. -/
import Derived.Test.YtnojndgmgkgnpaaCQ
namespace Go.Proofs.Ytnojndgmgkgnpaa
open Go.ChangeShapes Go.WideShapes Go.ChangeAt Go.RowKit Go.Deep Go.Joins Go.Maps
set_option linter.unusedVariables false
set_option linter.unusedSimpArgs false
def brO (f : Nat) (x : NodT) (s : CSt) : Option (Arm × Arm) → CSt
 | some (y, n) => branchP (valP f) y n x.kids s
 | none => s
def loO (f : Nat) (s : CSt) : Option (Bool × NodT × NodT) → CSt
 | some (wh, a, b) => loopP (valP f) wh a b s
 | none => s
def sendO (f : Nat) (x : NodT) (s : CSt) (op : Int) (args : List NodT) (s1 : CSt) : Option (Arm × Arm) → Option (Bool × NodT × NodT) → CSt
 | some (y, n), _ => branchP (valP f) y n x.kids s
 | none, some (wh, a, b) => loopP (valP f) wh a b s
 | none, none => messP (valP f) op x.text args s1
set_option maxRecDepth 100000 in
set_option maxHeartbeats 16000000 in
theorem send_any {f : Nat} (hv : VSpec f) {w0 w : World} {P : Nat → Prop} {cb : Nat} {m : MK} {s : CSt} (h : CX w0 P w cb m s) {x : NodT} {q : NS} (hn : IsNd w0 (fun _ => True) x q) (hx : x.size ≤ f + 1) (hf : s.code.length + 8 * x.size ≤ 1000000) (hl : s.lits.length + x.size ≤ 100000) :
  Calls Try.prog 59 #[.pointer (some ⟨cb, 0, none⟩), ndV x q] w fun e w' => e = .returned (.tuple #[]) ∧ CT w0 P w w' cb m (sendP (valP f) x s) := by
 have HH := Lib.hid h
 have HN := Lib.hid hn
 have HV := Lib.hid hv
 have HBD : Hid (x.size ≤ f + 1 ∧ s.code.length + 8 * x.size ≤ 1000000 ∧ s.lits.length + x.size ≤ 100000) := Lib.hid ⟨hx, hf, hl⟩
 cases hks : x.kids with
 | nil =>
  have HST : Hid (sendP (valP f) x s = failP s eB 1) := Lib.hid (by unfold sendP; rw [hks])
  unfold ndV
  rw [hks]
  clear h hn hv hx hf hl hks
  go_enter Try.func59, Try.ntmps59
  go_wp2_with (first | (go_at_call 54; (with_reducible refine (fail_any (HH.out.below bel) eB (by decide) 1).mono ?_); rintro e w2 ⟨rfl, hx3⟩; have HX2 := Lib.hid hx3; clear hx3))
  go_returns
  rw [HST.out]
  have hb : Below w.heap.size w (w.alloc (.cells #[.int .i64 x.kind, .string x.text, .int .i64 x.num, .slice q.pn x.names.length q.cn, .slice q.pt x.temps.length q.ct, .slice q.pk 0 q.ck] 25)) := (Below.refl _ _).alloc (Nat.le_refl _) _
  exact ⟨rfl, (HH.out.ct.below hb).go HX2.out⟩
 | cons kd args =>
  have hbr0 : ∀ {P' : Nat → Prop} {ws w1 W : World}, CT w0 P' ws w1 cb m s → Below w1.heap.size w1 W → Calls Try.prog 71 #[.pointer (some ⟨cb, 0, none⟩), ndV x q] W fun e w' => e = .returned (.bool (isBr x).isSome) ∧ CT w0 P' ws w' cb m (brSt f x s) := fun hc hb => by
   have h2 := hc.below hb
   refine (branch_any hv h2.1 hn hx hf hl (by rw [hks]; simp)).mono ?_
   rintro e w' ⟨he, hc⟩
   exact ⟨he, h2.go hc⟩
  have hlo0 : ∀ {P' : Nat → Prop} {ws w1 W : World}, CT w0 P' ws w1 cb m s → Below w1.heap.size w1 W → Calls Try.prog 72 #[.pointer (some ⟨cb, 0, none⟩), ndV x q] W fun e w' => e = .returned (.bool (isLoop x).isSome) ∧ CT w0 P' ws w' cb m (loSt f x s) := fun hc hb => by
   have h2 := hc.below hb
   refine (loop_any hv h2.1 hn hx hf hl).mono ?_
   rintro e w' ⟨he, hc⟩
   exact ⟨he, h2.go hc⟩
  obtain ⟨nk, hnk⟩ : ∃ nk, x.kids.length = nk := ⟨_, rfl⟩
  have HNK := Lib.hid hnk
  have hnk2 : nk = args.length + 1 := by rw [← hnk, hks]; rfl
  have hokl := hn.ok.klen
  have hle : nk ≤ 9223372036854775807 := by unfold maxLen at hokl; omega
  have hsz : x.size = 1 + (kd.size + NodT.sizes args) := by rw [x.size_kids, hks, NodT.sizes]
  obtain ⟨b, off, q', hpk, hbl, _, hc0, hn0⟩ := hn.kid (i := 0) (by rw [hks]; simp)
  rw [show x.kids[0]'(by rw [hks]; simp) = kd from by simp [hks]] at hc0 hn0
  rw [Nat.zero_mul, Nat.add_zero] at hc0
  obtain ⟨ps1, cs1, hsl, hrs⟩ := slice_one (c := q.ck) hn.rows hnk (by omega) (by omega)
  rw [show x.kids.drop 1 = args from by rw [hks]; rfl] at hrs
  obtain ⟨op, hop⟩ : ∃ op, (recvP (valP f) kd s).1 = op := ⟨_, rfl⟩
  obtain ⟨s1, hs1⟩ : ∃ s1, (recvP (valP f) kd s).2 = s1 := ⟨_, rfl⟩
  have hgr := recvP_gr (valP_gr f) (x := kd) (by omega) s
  rw [hs1] at hgr
  have hkp := kd.size_pos
  have hrc : ∀ {P' : Nat → Prop} {ws w1 W : World}, CT w0 P' ws w1 cb m s → Below w1.heap.size w1 W → Calls Try.prog 74 #[.pointer (some ⟨cb, 0, none⟩), ndV kd q'] W fun e w' => e = .returned (.int .i64 op) ∧ CT w0 P' ws w' cb m s1 := fun hc hb => by
   have h2 := hc.below hb
   refine (receiver_any hv h2.1 hn0 (by omega) (by omega) (by omega)).mono ?_
   rw [hop, hs1]
   rintro e w' ⟨he, hc⟩
   exact ⟨he, h2.go hc⟩
  have hmc : ∀ {P' : Nat → Prop} {ws w1 W : World}, CT w0 P' ws w1 cb m s1 → Below w1.heap.size w1 W → Calls Try.prog 73 #[.pointer (some ⟨cb, 0, none⟩), .int .i64 op, .string x.text, .slice ps1 (nk - 1) cs1] W fun e w' => e = .returned (.tuple #[]) ∧ CT w0 P' ws w' cb m (messP (valP f) op x.text args s1) := fun hc hb => by
   have h2 := hc.below hb
   refine (message_any hv h2.1 hrs (by omega) (by omega) op x.text hn.ok.text (by omega) (by have := hgr.code; omega) (by have := hgr.lits; omega)).mono ?_
   rintro e w' ⟨he, hc⟩
   exact ⟨he, h2.go hc⟩
  obtain ⟨obr, hobr⟩ : ∃ o, isBr x = o := ⟨_, rfl⟩
  obtain ⟨olo, holo⟩ : ∃ o, isLoop x = o := ⟨_, rfl⟩
  have HST : Hid (sendP (valP f) x s = sendO f x s op args s1 obr olo) := Lib.hid (by
   unfold sendP
   rw [hks]
   dsimp only
   rw [hop, hs1, ← hobr, ← holo]
   cases isBr x with
   | some yn => obtain ⟨y, n⟩ := yn; show branchP (valP f) y n (kd :: args) s = branchP (valP f) y n x.kids s; rw [hks]
   | none =>
    cases isLoop x with
    | some wab => rfl
    | none => rfl)
  have HBS : Hid (brSt f x s = brO f x s obr) := Lib.hid (by rw [← hobr]; rfl)
  have HLS : Hid (loSt f x s = loO f s olo) := Lib.hid (by rw [← holo]; rfl)
  rw [hobr, HBS.out] at hbr0
  rw [holo, HLS.out] at hlo0
  unfold ndV at hbr0 hlo0 hrc ⊢
  rw [hnk, hpk] at hbr0 hlo0 ⊢
  rw [hpk] at hsl
  have hbe : Below w.heap.size w (w.alloc (.cells #[.int .i64 x.kind, .string x.text, .int .i64 x.num, .slice q.pn x.names.length q.cn, .slice q.pt x.temps.length q.ct, .slice (some ⟨b, off, none⟩) nk q.ck] 25)) := (Below.refl _ _).alloc (Nat.le_refl _) _
  have HX0 : Hid (CT w0 (fun k => P k ∨ (w.heap.size ≤ k ∧ k < (w.alloc (.cells #[.int .i64 x.kind, .string x.text, .int .i64 x.num, .slice q.pn x.names.length q.cn, .slice q.pt x.temps.length q.ct, .slice (some ⟨b, off, none⟩) nk q.ck] 25)).heap.size)) (w.alloc (.cells #[.int .i64 x.kind, .string x.text, .int .i64 x.num, .slice q.pn x.names.length q.cn, .slice q.pt x.temps.length q.ct, .slice (some ⟨b, off, none⟩) nk q.ck] 25)) (w.alloc (.cells #[.int .i64 x.kind, .string x.text, .int .i64 x.num, .slice q.pn x.names.length q.cn, .slice q.pt x.temps.length q.ct, .slice (some ⟨b, off, none⟩) nk q.ck] 25)) cb m s) := Lib.hid (HH.out.keep hbe).ct
  have HXB : Hid ((w.alloc (.cells #[.int .i64 x.kind, .string x.text, .int .i64 x.num, .slice q.pn x.names.length q.cn, .slice q.pt x.temps.length q.ct, .slice (some ⟨b, off, none⟩) nk q.ck] 25)).heap[w.heap.size]? = some (.cells #[.int .i64 x.kind, .string x.text, .int .i64 x.num, .slice q.pn x.names.length q.cn, .slice q.pt x.temps.length q.ct, .slice (some ⟨b, off, none⟩) nk q.ck] 25 (0, 0))) := Lib.hid (heap_alloc_new w _)
  have HBX := Lib.hid (lt_of_block HXB.out)
  have HTS : Hid (Turns (outP P) w (w.alloc (.cells #[.int .i64 x.kind, .string x.text, .int .i64 x.num, .slice q.pn x.names.length q.cn, .slice q.pt x.temps.length q.ct, .slice (some ⟨b, off, none⟩) nk q.ck] 25))) := Lib.hid (Turns.of_below hbe)
  obtain ⟨Pk, hPk⟩ : ∃ Pk : Nat → Prop, (fun k => P k ∨ (w.heap.size ≤ k ∧ k < (w.alloc (.cells #[.int .i64 x.kind, .string x.text, .int .i64 x.num, .slice q.pn x.names.length q.cn, .slice q.pt x.temps.length q.ct, .slice (some ⟨b, off, none⟩) nk q.ck] 25)).heap.size)) = Pk := ⟨_, rfl⟩
  rw [hPk] at HX0
  have HX := HX0
  have HPX : Hid (Pk w.heap.size) := Lib.hid (by rw [← hPk]; exact .inr ⟨Nat.le_refl _, HBX.out⟩)
  have HSUB : Hid (∀ k, P k → Pk k) := Lib.hid (fun k z => by rw [← hPk]; exact .inl z)
  have HK0 := Lib.hid hc0
  have HBL := Lib.hid hbl
  have HBRC : Hid (∀ {ws w1 W : World}, CT w0 Pk ws w1 cb m s → Below w1.heap.size w1 W → Calls Try.prog 71 #[.pointer (some ⟨cb, 0, none⟩), .agg #[.int .i64 x.kind, .string x.text, .int .i64 x.num, .slice q.pn x.names.length q.cn, .slice q.pt x.temps.length q.ct, .slice (some ⟨b, off, none⟩) nk q.ck]] W fun e w' => e = .returned (.bool obr.isSome) ∧ CT w0 Pk ws w' cb m (brO f x s obr)) := Lib.hid hbr0
  have HLOC : Hid (∀ {ws w1 W : World}, CT w0 Pk ws w1 cb m s → Below w1.heap.size w1 W → Calls Try.prog 72 #[.pointer (some ⟨cb, 0, none⟩), .agg #[.int .i64 x.kind, .string x.text, .int .i64 x.num, .slice q.pn x.names.length q.cn, .slice q.pt x.temps.length q.ct, .slice (some ⟨b, off, none⟩) nk q.ck]] W fun e w' => e = .returned (.bool olo.isSome) ∧ CT w0 Pk ws w' cb m (loO f s olo)) := Lib.hid hlo0
  have HRC : Hid (∀ {ws w1 W : World}, CT w0 Pk ws w1 cb m s → Below w1.heap.size w1 W → Calls Try.prog 74 #[.pointer (some ⟨cb, 0, none⟩), .agg #[.int .i64 kd.kind, .string kd.text, .int .i64 kd.num, .slice q'.pn kd.names.length q'.cn, .slice q'.pt kd.temps.length q'.ct, .slice q'.pk kd.kids.length q'.ck]] W fun e w' => e = .returned (.int .i64 op) ∧ CT w0 Pk ws w' cb m (s1)) := Lib.hid hrc
  have HMC : Hid (∀ {ws w1 W : World}, CT w0 Pk ws w1 cb m s1 → Below w1.heap.size w1 W → Calls Try.prog 73 #[.pointer (some ⟨cb, 0, none⟩), .int .i64 op, .string x.text, .slice ps1 (nk - 1) cs1] W fun e w' => e = .returned (.tuple #[]) ∧ CT w0 Pk ws w' cb m (messP (valP f) op x.text args s1)) := Lib.hid hmc
  have g1 : (0 : Int) < (nk : Int) := by omega
  have g2 : 0 < nk := by omega
  have z1 : (nk == 0) = false := by simp; omega
  have z2 : ((nk : Int) == 0) = false := by simp; omega
  have z3 : ¬ ((nk : Int) = 0) := by omega
  clear h hn hv hx hf hl hks hbr0 hlo0 hnk hnk2 hokl hsz hpk hbl hc0 hn0 hrs hop hs1 hgr hkp hrc hmc hobr holo hbe hPk HX0
  cases obr with
  | some yn =>
   obtain ⟨y, n⟩ := yn
   go_enter Try.func59, Try.ntmps59
   go_wp2_with (first | (go_at_call 71; (with_reducible refine (HBRC.out HX.out bel).mono ?_); rintro e w2 ⟨rfl, hx3⟩; have HX2 := Lib.hid hx3; have xb9 := (hx3.2.block w.heap.size HBX.out (fun z => z HPX.out)).trans HXB.out; obtain ⟨e0, e1, e2, e3, e4, e5⟩ := cc6 xb9; clear xb9; clear hx3))
   go_returns
   rw [HST.out]
   exact ⟨rfl, CT.deep HTS.out HX2.out HSUB.out HH.out.low⟩
  | none =>
   cases olo with
   | some wab =>
    obtain ⟨wh, ka, kb9⟩ := wab
    go_enter Try.func59, Try.ntmps59
    go_wp2_with (first | (go_at_call 71; (with_reducible refine (HBRC.out HX.out bel).mono ?_); rintro e w2 ⟨rfl, hx3⟩; have HX2 := Lib.hid hx3; have xb9 := (hx3.2.block w.heap.size HBX.out (fun z => z HPX.out)).trans HXB.out; obtain ⟨e0, e1, e2, e3, e4, e5⟩ := cc6 xb9; clear xb9; clear hx3) | (go_at_call 72; (with_reducible refine (HLOC.out HX2.out bel).mono ?_); rintro e w3 ⟨rfl, hx3⟩; have HX3 := Lib.hid hx3; have xb9 := (hx3.2.block w.heap.size HBX.out (fun z => z HPX.out)).trans HXB.out; obtain ⟨e0, e1, e2, e3, e4, e5⟩ := cc6 xb9; clear xb9; have hk0 := HK0.out.same (hx3.1.stat.block b HBL.out); have d0 := hk0.c0; have d1 := hk0.c1; have d2 := hk0.c2; have d3 := hk0.c3; have d4 := hk0.c4; have d5 := hk0.c5; have hb9 : b < w3.heap.size := Nat.lt_of_lt_of_le HBL.out hx3.1.stat.size; clear hk0; clear hx3))
    go_returns
    rw [HST.out]
    exact ⟨rfl, CT.deep HTS.out HX3.out HSUB.out HH.out.low⟩
   | none =>
    go_enter Try.func59, Try.ntmps59
    go_upto_region 4 with (first | (go_at_call 71; (with_reducible refine (HBRC.out HX.out bel).mono ?_); rintro e w2 ⟨rfl, hx3⟩; have HX2 := Lib.hid hx3; have xb9 := (hx3.2.block w.heap.size HBX.out (fun z => z HPX.out)).trans HXB.out; obtain ⟨e0, e1, e2, e3, e4, e5⟩ := cc6 xb9; clear xb9; clear hx3) | (go_at_call 72; (with_reducible refine (HLOC.out HX2.out bel).mono ?_); rintro e w3 ⟨rfl, hx3⟩; have HX3 := Lib.hid hx3; have xb9 := (hx3.2.block w.heap.size HBX.out (fun z => z HPX.out)).trans HXB.out; obtain ⟨e0, e1, e2, e3, e4, e5⟩ := cc6 xb9; clear xb9; have hk0 := HK0.out.same (hx3.1.stat.block b HBL.out); have d0 := hk0.c0; have d1 := hk0.c1; have d2 := hk0.c2; have d3 := hk0.c3; have d4 := hk0.c4; have d5 := hk0.c5; have hb9 : b < w3.heap.size := Nat.lt_of_lt_of_le HBL.out hx3.1.stat.size; clear hk0; clear hx3))
    go_region_held3 (fun w' => w'.cell? ⟨w.heap.size, 1, none⟩ = some (.string x.text) ∧ w'.cell? ⟨w.heap.size, 5, none⟩ = some (.slice (some ⟨b, off, none⟩) nk q.ck) ∧ w'.cell? ⟨b, off, none⟩ = some (.int .i64 kd.kind) ∧ w'.cell? ⟨b, off + 1, none⟩ = some (.string kd.text) ∧ w'.cell? ⟨b, off + 2, none⟩ = some (.int .i64 kd.num) ∧ w'.cell? ⟨b, off + 3, none⟩ = some (.slice q'.pn kd.names.length q'.cn) ∧ w'.cell? ⟨b, off + 4, none⟩ = some (.slice q'.pt kd.temps.length q'.ct) ∧ w'.cell? ⟨b, off + 5, none⟩ = some (.slice q'.pk kd.kids.length q'.ck)) (first | assumption | (simp [go_sem]; done) | (simp [go_sem, *]; done)) (first | (go_at_call 74; (with_reducible refine (HRC.out HX3.out bel).mono ?_); rintro e w4 ⟨rfl, hx3⟩; have HX4 := Lib.hid hx3; have xb9 := (hx3.2.block w.heap.size HBX.out (fun z => z HPX.out)).trans HXB.out; obtain ⟨e0, e1, e2, e3, e4, e5⟩ := cc6 xb9; clear xb9; have hk0 := HK0.out.same (hx3.1.stat.block b HBL.out); have d0 := hk0.c0; have d1 := hk0.c1; have d2 := hk0.c2; have d3 := hk0.c3; have d4 := hk0.c4; have d5 := hk0.c5; have hb9 : b < w4.heap.size := Nat.lt_of_lt_of_le HBL.out hx3.1.stat.size; clear hk0; clear hx3) | (go_at_call 73; (with_reducible refine (HMC.out HX4.out bel).mono ?_); rintro e w5 ⟨rfl, hx3⟩; have HX5 := Lib.hid hx3; have xb9 := (hx3.2.block w.heap.size HBX.out (fun z => z HPX.out)).trans HXB.out; obtain ⟨e0, e1, e2, e3, e4, e5⟩ := cc6 xb9; clear xb9; have hk0 := HK0.out.same (hx3.1.stat.block b HBL.out); have d0 := hk0.c0; have d1 := hk0.c1; have d2 := hk0.c2; have d3 := hk0.c3; have d4 := hk0.c4; have d5 := hk0.c5; have hb9 : b < w5.heap.size := Nat.lt_of_lt_of_le HBL.out hx3.1.stat.size; clear hk0; clear hx3))
    all_goals
     go_returns
     rw [HST.out]
     exact ⟨rfl, CT.deep HTS.out HX5.out HSUB.out HH.out.low⟩
end Go.Proofs.Ytnojndgmgkgnpaa
