/- Chapter 10: names are declared. -/
import Derived.Test.YtnojndgmgkgnpaaCC
namespace Go.Proofs.Ytnojndgmgkgnpaa
open Go.ChangeShapes Go.WideShapes Go.ChangeAt Go.RowKit Go.Deep Go.Joins Go.Maps
set_option linter.unusedVariables false
set_option linter.unusedSimpArgs false
theorem infoK : (Try.prog.info? 75).map (fun i => (i.zero, i.size, i.bytes)) = some (some (.agg #[.string eB, .bool false, .bool false, .int .i64 0]), 4, 32) := by kernel_rfl
/-- a name more: what stands when it is appended, and when the row is stored -/
structure Named (w0 : World) (P : Nat → Prop) (w w' : World) (cb : Nat) (m : MK) (s : CSt) (lv cv nv : Value) (D : Nat → Prop) (ps : List LP) (nv' : Value) (k : Nm) : Prop where
 box : w'.heap[cb]? = some (.cells (boxC m s lv cv nv) 73 (0, 0))
 cy : CY w0 P (w'.setCell ⟨cb, 6, none⟩ nv') cb m { s with names := s.names ++ [k] } lv cv nv' D ps
 ts : Turns (outP P) w (w'.setCell ⟨cb, 6, none⟩ nv')
 sl : ∃ A n c, nv' = .slice A n c
theorem CY.named {w0 w : World} {P : Nat → Prop} {cb : Nat} {m : MK} {s : CSt} {lv cv nv : Value} {D : Nat → Prop} {ps : List LP} {w' : World} {nv' : Value} (h : CY w0 P w cb m s lv cv nv D ps) (k : Nm) (hk : k.name.size ≤ big63 ∧ 0 ≤ k.at_ ∧ k.at_ ≤ 1000) (hown : w'.ownsRow 0 75 4 nv' (s.names.length + 1) (s.names.flatMap nmC ++ nmC k)) {o : Option Nat} (hg : w.grownBy w' o) (ho : ∀ j, o = some j → nv.ownBlock = some j ∧ ¬ P j ∧ j ≠ cb) (hat : ∀ j, nv'.ownBlock = some j → o = some j ∨ w.heap.size ≤ j) :
  Named w0 P w w' cb m s lv cv nv D ps nv' k := by
 have ht : Turns (fun j => o = some j) w w' := ⟨hg.os, hg.tape, hg.output, hg.size, fun k hk hs => hg.block k hk (fun e => hs e.symm)⟩
 have hcb := lt_of_block h.box
 have hcb' : ¬ o = some cb := fun e => (ho cb e).2.2 rfl
 have hbx : w'.heap[cb]? = some (.cells (boxC m s lv cv nv) 73 (0, 0)) := (ht.block cb hcb hcb').trans h.box
 have ht2 : Turns (fun k => k = cb) w' (w'.setCell ⟨cb, 6, none⟩ nv') := (Turns.refl _ _).setCell _ _ (.inl rfl)
 have ht3 : Turns (fun k => o = some k ∨ k = cb) w (w'.setCell ⟨cb, 6, none⟩ nv') := (ht.mono (fun _ _ z => .inl z)).setCell _ _ (.inl (.inr rfl))
 have hnty : ∀ j, o = some j → ∃ cur, w.heap[j]? = some (.cells cur 75 (0, 0)) := fun j hj => h.names.type (ho j hj).1
 have hown' : ∀ j, nv'.ownBlock = some j → ¬ P j ∧ j ≠ cb := fun j hj => by
  rcases hat j hj with q | q
  ·exact (ho j q).2
  ·exact ⟨fun z => by have := h.lim _ z; omega, by omega⟩
 have hlv : ∀ k, lv.ownBlock = some k → ¬ (o = some k ∨ k = cb) := fun k hk q => by
  obtain ⟨cur, hc⟩ := own_type h.lits.own hk
  rcases q with e | e
  ·obtain ⟨cur2, hc2⟩ := hnty k e; rw [hc] at hc2; simp at hc2
  ·rw [e, h.box] at hc; simp at hc
 have hcv : ∀ k, cv.ownBlock = some k → ¬ (o = some k ∨ k = cb) := fun k hk q => by
  obtain ⟨cur, hc⟩ := own_type h.code hk
  rcases q with e | e
  ·obtain ⟨cur2, hc2⟩ := hnty k e; rw [hc] at hc2; simp at hc2
  ·rw [e, h.box] at hc; simp at hc
 have hD : ∀ k, D k → ¬ (o = some k ∨ k = cb) := fun k hk q => by
  obtain ⟨cur, hc⟩ := h.dty k hk
  rcases q with e | e
  ·obtain ⟨cur2, hc2⟩ := hnty k e; rw [hc] at hc2; simp at hc2
  ·rw [e, h.box] at hc; simp at hc
 refine ⟨hbx, ⟨?_, ?_, h.lps, ?_, ?_, ?_, h.cbP, h.lvP, h.cvP, fun k hk => ⟨Nat.lt_of_lt_of_le (h.dlt k hk).1 ht3.size, (h.dlt k hk).2⟩, fun k hk => ?_, ?_, h.low, fun k hk => Nat.lt_of_lt_of_le (h.lim k hk) ht3.size, h.enm⟩, ?_, ?_⟩
 ·rw [heap_setCell_same w' cb 6 _ _ _ hbx]; rfl
 ·exact h.lits.same ht3.size (fun k hk => ht3.block k (World.ownsRow.lt h.lits.own k hk).2 (hlv k hk)) (fun b hb hl => ht3.block b hl (hD b hb)) (fun _ z => z)
 ·exact ownsRow_same h.code ht3.size (fun k hk => ht3.block k (World.ownsRow.lt h.code k hk).2 (hcv k hk))
 ·have e : (s.names ++ [k]).flatMap nmC = s.names.flatMap nmC ++ nmC k := by simp
  refine .inl ⟨?_, hown'⟩
  show World.ownsRow _ 0 75 4 nv' (s.names ++ [k]).length ((s.names ++ [k]).flatMap nmC)
  rw [e, List.length_append]
  exact ownsRow_same hown ht2.size (fun j hj => ht2.block j (World.ownsRow.lt hown j hj).2 (hown' j hj).2)
 ·intro x hx
  rcases List.mem_append.1 hx with q | q
  ·exact h.nok x q
  ·rw [List.mem_singleton.1 q]; exact hk
 ·obtain ⟨cur, hc⟩ := h.dty k hk
  exact ⟨cur, (ht3.block k (lt_of_block hc) (hD k hk)).trans hc⟩
 ·refine h.stat.trans (ht3.below (fun k q => ?_) h.stat.size)
  rcases Nat.lt_or_ge k w0.heap.size with z | z
  ·exact q.elim (fun e => absurd (h.low k z) (ho k e).2.1) (fun e => absurd (e ▸ h.low k z) h.cbP)
  ·exact z
 ·exact ht3.mono (fun k _ q => q.elim (fun e => (ho k e).2.1) (fun e => by rw [e]; exact h.cbP))
 ·obtain ⟨A, c, e, _⟩ := own_slice hown
  exact ⟨A, _, c, e⟩
/-- the append of a name, as one step -/
theorem step_name {ops : Array Oper} {o : Oper} {a : Act} {K : Act → World → Prop} {Q : Exit → Act → World → Prop} {E : Prop} (hgd : o.guard = none) (sl x : Operand)
  (hop : o.op = .call { callee := .builtin .append, args := #[sl, x], argTypes := #[71, 71] }) {w0 w : World} {P : Nat → Prop} {cb : Nat} {m : MK} {s : CSt} {lv cv nv : Value} {D : Nat → Prop} {ps : List LP} (h : CY w0 P w cb m s lv cv nv D ps) (hs : a.eval sl = nv) {G : Nat} (hx : a.eval x = .slice (some ⟨G, 0, none⟩) 1 1) (k : Nm)
  (hk : k.name.size ≤ big63 ∧ 0 ≤ k.at_ ∧ k.at_ ≤ 1000) (hG : w.heap[G]? = some (.cells #[.string k.name, .bool (decide (k.kind = 1)), .bool (decide (k.kind = 3)), .int .i64 k.at_] 75 (0, 0))) (hle : s.names.length ≤ 100000)
  (hK : ∀ nv' w', Named w0 P w w' cb m s lv cv nv D ps nv' k → K (a.put o.dst nv') w') : if Region.wanted o (yielded ops a.tmps) = true then Oper.wp Try.prog o a w K Q else E := by
 obtain ⟨i0, hi, hz0, hz1, hz2⟩ := info_parts infoK
 have hone : ∀ u ∈ nmC k, u.oneCell' = true := fun u hu => by
  unfold nmC at hu
  simp only [List.mem_cons, List.not_mem_nil, or_false] at hu
  rcases hu with rfl | rfl | rfl | rfl <;> rfl
 rcases h.names with ⟨ho, hW⟩ | ⟨A, hv, hn, hA⟩
 ·rw [if_pos (by simp [Region.wanted, hgd])]
  obtain ⟨v', w', hr, h2, h3, _, h5⟩ := run_append_own_at (P := Try.prog) w 0 71 o.type 75 i0 (.agg #[.string eB, .bool false, .bool false, .int .i64 0]) 4 32 Try.underlying71 hi hz0 hz1 hz2 rfl (by decide) nv s.names.length _ ho ⟨G, 0, none⟩ 1 1 (nmC k) rfl (cells_block hG) hone (by unfold maxLen; omega) (by omega) (Nat.zero_le _)
  unfold Oper.wp execOp
  simp only [hop, resolve, invoke, builtin, Sem.run_bind, Sem.run_pure, Result.andThen_ok, List.map_toArray, List.map_cons, List.map_nil, hs, hx, hr]
  refine hK _ _ (h.named k hk h2 h3 (fun j hj => ⟨hj, hW j hj⟩) (fun j hj => ?_))
  rcases h5 with q | q
  ·exact .inl (by rw [← q]; exact hj)
  ·rw [q] at hj; cases hj; exact .inr (Nat.le_refl _)
 ·refine step_append_grows hgd sl x 71 hop 75 i0 (.agg #[.string eB, .bool false, .bool false, .int .i64 0]) 4 32 Try.underlying71 hi hz0 hz1 hz2 rfl (by decide) A s.names.length s.names.length (s.names.flatMap nmC) (by rw [hs, hv]) (fun e => by rw [hn e]; exact ⟨rfl, rfl⟩) (by rw [flat_len nmC_len]) (fun b e j u hj => ?_) ⟨G, 0, none⟩ 1 1 (nmC k) hx rfl (cells_block hG) hone (by omega) (by unfold maxLen; omega) (by omega) ?_
  ·obtain ⟨e1, e2, _, e4⟩ := hA b e
   obtain ⟨bb, bo, bs⟩ := b
   simp only at e1 e2
   subst e1
   subst e2
   rw [add_plain, Nat.zero_add]
   exact e4 j u hj
  ·intro v' w' h2 h3
   refine hK _ _ (h.named k hk (ownsRow_mono h2 (Nat.zero_le _)) h3 (fun j hj => by cases hj) (fun j hj => .inr (World.ownsRow.lt h2 j hj).1))
theorem decl_step {fixed : Bool} {l : List ByteArray} {k : Nat} (hk : k < l.length) (s : CSt) : declP fixed (l.drop k) s = if (badD s l[k]).err ≠ 0 then badD s l[k] else declP fixed (l.drop (k + 1)) (addP (badD s l[k]) l[k] fixed) := by
 rw [List.drop_eq_getElem_cons hk]; rfl
theorem badD_keep (s : CSt) (n : ByteArray) : (badD s n).names = s.names ∧ (badD s n).temps = s.temps ∧ (badD s n).lits = s.lits ∧ (badD s n).code = s.code := by
 have hf : ∀ (s : CSt) (n : ByteArray) (x : Int), (failP s n x).names = s.names ∧ (failP s n x).temps = s.temps ∧ (failP s n x).lits = s.lits ∧ (failP s n x).code = s.code := fun s n x => by
  unfold failP; split <;> exact ⟨rfl, rfl, rfl, rfl⟩
 unfold badD
 simp only
 have h16 := hf s n 16
 by_cases h1 : ((findN s.names n).isSome || ownN n) = true
 ·rw [if_pos h1]
  by_cases h2 : (failP s n 16).temps = 24
  ·rw [if_pos h2]
   have h18 := hf (failP s n 16) n 18
   exact ⟨h18.1.trans h16.1, h18.2.1.trans h16.2.1, h18.2.2.1.trans h16.2.2.1, h18.2.2.2.trans h16.2.2.2⟩
  ·rw [if_neg h2]; exact h16
 ·rw [if_neg h1]
  by_cases h2 : s.temps = 24
  ·rw [if_pos h2]; exact hf s n 18
  ·rw [if_neg h2]; exact ⟨rfl, rfl, rfl, rfl⟩
theorem badD_full {s : CSt} {n : ByteArray} (h : (badD s n).err = 0) : s.temps ≠ 24 := by
 intro h24
 have hx : ∀ (s : CSt) (n : ByteArray) (x : Int), x ≠ 0 → (failP s n x).err ≠ 0 := fun s n x hx => by
  unfold failP; split <;> assumption
 have ht : ∀ (s : CSt) (n : ByteArray) (x : Int), (failP s n x).temps = s.temps := fun s n x => by unfold failP; split <;> rfl
 unfold badD at h
 simp only at h
 by_cases h1 : ((findN s.names n).isSome || ownN n) = true
 ·rw [if_pos h1, if_pos (by rw [ht]; exact h24)] at h
  exact hx _ _ _ (by decide) h
 ·rw [if_neg h1, if_pos h24] at h
  exact hx _ _ _ (by decide) h
set_option maxRecDepth 100000 in
set_option maxHeartbeats 16000000 in
theorem decl_true {w0 w : World} {P : Nat → Prop} {cb : Nat} {m : MK} {s : CSt} (h : CX w0 P w cb m s) {D : Nat → Prop} {p : Option Addr} {n c0 : Nat} {l : List ByteArray} (hs : Strs w0 D p l) (hn : l.length = n) (hle : n ≤ 9223372036854775807) : Calls Try.prog 43 #[.pointer (some ⟨cb, 0, none⟩), .slice p n c0, .bool true] w fun e w' => e = .returned (.tuple #[]) ∧ CT w0 P w w' cb m (declP true l s) := by
 have HS := Lib.hid hs
 have HN := Lib.hid hn
 have H0 := Lib.hid h
 clear hs hn h
 go_enter Try.func43, Try.ntmps43
 go_wp2_with fail
 go_loopw [12] (fun i wr => ∃ (k : Nat) (sk : CSt), i = .int .i64 k ∧ k ≤ n ∧ CT w0 P w wr cb m sk ∧ declP true l s = declP true (l.drop k) sk) (fun i _ => n - (intOf i).toNat)
 case atStart => exact ⟨0, s, rfl, Nat.zero_le _, H0.out.ct, rfl⟩
 case round =>
  obtain ⟨k, sk, rfl, hk, hct, hde⟩ := hrel
  have HX := Lib.hid hct
  have HD := Lib.hid hde
  clear hct hde H0
  by_cases hlt : k < n
  ·have d1 : decide (k < n) = true := decide_eq_true hlt
   have d2 : decide ((k : Int) < (n : Int)) = true := decide_eq_true (by omega)
   have hkl : k < l.length := by rw [HN.out]; exact hlt
   obtain ⟨b, off, rfl, hbl, _, hc, hsz⟩ := HS.out k hkl
   have hst := HX.out.1.stat
   obtain ⟨nm, hnm⟩ : ∃ nm, l[k] = nm := ⟨_, rfl⟩
   rw [hnm] at hc hsz
   have HSZ := Lib.hid hsz
   have hds := decl_step (fixed := true) hkl sk
   rw [hnm, ← HD.out] at hds
   have HDS := Lib.hid hds
   have c1 : wr.cell? ⟨b, off + k, none⟩ = some (.string nm) := (hst.cell (p := ⟨b, off + k, none⟩) hbl).trans hc
   have g0 : (0 : Int) ≤ (k : Int) := by omega
   have g1 : (k : Int) < (n : Int) := by omega
   clear hnm hsz hc hst hds
   rename World => wo
   obtain ⟨s1, hs1⟩ : ∃ s1, (if (findN sk.names nm).isSome || ownN nm then failP sk nm 16 else sk) = s1 := ⟨_, rfl⟩
   have HS1 := Lib.hid hs1
   have HS1N : Hid (s1.temps = sk.temps) := Lib.hid (by rw [← hs1]; split; unfold failP; split <;> rfl; rfl)
   clear hs1
   obtain ⟨isS, his⟩ : ∃ b, (findN sk.names nm).isSome = b := ⟨_, rfl⟩
   have HIS := Lib.hid his
   go_upto_region 3 with fail
   go_cut [9] (fun v wx => v = .bool isS ∧ Below wo.heap.size wo wx)
   case first =>
    cases hfn : findN sk.names nm with
    | some kx =>
     have HFN := Lib.hid hfn
     have HE : Hid (isS = true) := Lib.hid (by rw [← his, hfn]; rfl)
     clear hfn his
     go_wp2_with (first | (go_at_call 52; (with_reducible refine (find_any HX.out.1 nm HSZ.out).mono ?_); rw [HFN.out]; rintro e w1 ⟨rfl, hb1⟩; unfold fndV; unfold kV; have hb1s := hb1.size; have HB1 := Lib.hid hb1; clear hb1))
     go_meet
     exact ⟨by rw [HE.out], (by { have hB1 := HB1.out; (repeat' first | (with_reducible first | exact bl0 _ _ | assumption | apply bl1 | apply bl2 | apply bl3 | apply bl4) | go_size) })⟩
    | none =>
     have HFN := Lib.hid hfn
     have HE : Hid (isS = false) := Lib.hid (by rw [← his, hfn]; rfl)
     clear hfn his
     go_wp2_with (first | (go_at_call 52; (with_reducible refine (find_any HX.out.1 nm HSZ.out).mono ?_); rw [HFN.out]; rintro e w1 ⟨rfl, hb1⟩; unfold fndV;  have hb1s := hb1.size; have HB1 := Lib.hid hb1; clear hb1))
     go_meet
     exact ⟨by rw [HE.out], (by { have hB1 := HB1.out; (repeat' first | (with_reducible first | exact bl0 _ _ | assumption | apply bl1 | apply bl2 | apply bl3 | apply bl4) | go_size) })⟩
   case rest =>
   obtain ⟨rfl, hb1⟩ := hcut
   have HX1 := Lib.hid (HX.out.below hb1)
   clear hb1 HX his
   have HX := Lib.hid HX1.out
   clear HX1
   obtain ⟨tb, htb⟩ : ∃ b, (isS || ownN nm) = b := ⟨_, rfl⟩
   have HTB := Lib.hid htb
   rename World => wc0
   go_upto_region 4 with fail
   go_cut [26] (fun v wx => v = .bool tb ∧ wx = wc0)
   case first =>
    cases isS with
    | true =>
     have HE : Hid (tb = true) := Lib.hid htb.symm
     clear htb
     go_wp2_with fail
     go_meet
     exact ⟨by rw [HE.out], rfl⟩
    | false =>
     have HOW : Hid (ownN nm = tb) := Lib.hid htb
     clear htb
     go_wp2_with (first | (go_at_call 53; (with_reducible refine (own_any nm HSZ.out _).mono ?_); rw [HOW.out]; rintro e w2 ⟨rfl, hw2⟩; replace hw2 := hw2.symm; subst hw2))
     go_meet
     exact ⟨by simp, rfl⟩
   case rest =>
   obtain ⟨rfl, hwc⟩ := hcut
   replace hwc := hwc.symm
   subst hwc
   clear htb
   go_upto_if 26 with fail
   go_cut [] (fun wx => CT w0 P w wx cb m s1)
   case first =>
    cases tb with
    | true =>
     have HE : Hid (s1 = failP sk nm 16) := Lib.hid (by rw [← HS1.out, HIS.out, HTB.out]; rfl)
     go_wp2_with (first | (go_at_call 54; (with_reducible refine (fail_any HX.out.1 nm HSZ.out 16).mono ?_); rintro e w3 ⟨rfl, hx3⟩; have HX3 := Lib.hid (HX.out.go hx3); clear hx3))
     go_meet
     rw [HE.out]
     exact HX3.out
    | false =>
     have HE : Hid (s1 = sk) := Lib.hid (by rw [← HS1.out, HIS.out, HTB.out]; rfl)
     go_wp2_with fail
     go_meet
     rw [HE.out]
     exact HX.out
   case rest =>
    clear HX
    have HX := Lib.hid hcut
    clear hcut
    have hbd : badD sk nm = (if s1.temps = 24 then failP s1 nm 18 else s1) := by rw [← HS1.out]; rfl
    obtain ⟨s2, hs2⟩ : ∃ s2, badD sk nm = s2 := ⟨_, rfl⟩
    rw [hs2] at hbd
    have HBD := Lib.hid hbd
    have HS2 := Lib.hid hs2
    clear hbd hs2
    obtain ⟨lv, cv, nv, D1, ps, hy, hfw⟩ := HX.out.1
    have k2 : wc.cell? ⟨cb, 2, none⟩ = some (.int .i64 (s1.temps : Int)) := by rw [hy.cell]; rfl
    clear hy
    rename World => wc1
    go_upto_if 35 with fail
    go_cut [] (fun wx => CT w0 P w wx cb m s2)
    case first =>
     by_cases h24 : s1.temps = 24
     ·have HE : Hid (s2 = failP s1 nm 18) := Lib.hid (by rw [HBD.out, if_pos h24])
      have e2 : ((s1.temps : Int) == 24) = true := by rw [h24]; rfl
      have e3 : decide ((s1.temps : Int) = 24) = true := decide_eq_true (by omega)
      clear h24
      go_wp2_with (first | (go_at_call 54; (with_reducible refine (fail_any HX.out.1 nm HSZ.out 18).mono ?_); rintro e w3 ⟨rfl, hx3⟩; have HX3 := Lib.hid (HX.out.go hx3); clear hx3))
      go_meet
      rw [HE.out]
      exact HX3.out
     ·have HE : Hid (s2 = s1) := Lib.hid (by rw [HBD.out, if_neg h24])
      have e1 : (s1.temps == 24) = false := by simpa using h24
      have e2 : ((s1.temps : Int) == 24) = false := by simp; omega
      have e3 : decide ((s1.temps : Int) = 24) = false := decide_eq_false (by omega)
      clear h24
      go_wp2_with fail
      go_meet
      rw [HE.out]
      exact HX.out
    case rest =>
     clear HX k2 hfw
     have HX := Lib.hid hcut
     clear hcut
     obtain ⟨lv, cv, nv, D1, ps, hy, hfw⟩ := HX.out.1
     have k8 : wc.cell? ⟨cb, 8, none⟩ = some (.int .i64 s2.err) := by rw [hy.cell]; rfl
     by_cases he : s2.err = 0
     ·have HE0 := Lib.hid he
      rw [he] at k8
      obtain ⟨A, c, hnv, hcl⟩ := hy.names.slice
      subst hnv
      have HKEEP := Lib.hid (badD_keep sk nm)
      obtain ⟨n6, hn6⟩ : ∃ n6, s2.names.length = n6 := ⟨_, rfl⟩
      rw [hn6] at hfw hcl
      have HN6 := Lib.hid hn6
      have k6 : wc.cell? ⟨cb, 6, none⟩ = some (.slice A n6 c) := by rw [hy.cell, ← hn6]; rfl
      have k2 : wc.cell? ⟨cb, 2, none⟩ = some (.int .i64 (s2.temps : Int)) := by rw [hy.cell]; rfl
      have f6 := hy.free 6
      have f2 := hy.free 2
      have HY : Hid (CY w0 P wc cb m s2 lv cv (.slice A n6 c) D1 ps) := Lib.hid (by rw [← hn6]; exact hy)
      have ht24 : s2.temps ≠ 24 := by
       have h1 := badD_full (s := sk) (n := nm) (by rw [HS2.out]; exact he)
       rw [← HKEEP.out.2.1, HS2.out] at h1
       exact h1
      have HFEW : Hid (s2.temps ≤ 23 ∧ n6 ≤ 8 + s2.temps) := Lib.hid (by omega)
      have HKK : Hid (nm.size ≤ big63 ∧ (0 : Int) ≤ (s2.temps : Int) ∧ (s2.temps : Int) ≤ 1000) := Lib.hid ⟨HSZ.out, by omega, by omega⟩
      clear hy he hn6
      go_upto_region 9 with fail
      have HYA : Hid (CY w0 P (wc.drew.alloc (.cells #[.string nm, .bool false, .bool true, .int .i64 (s2.temps : Int)] 75)) cb m s2 lv cv (.slice A n6 c) D1 ps) := Lib.hid (HY.out.below ((Below.drew (Below.refl _ _)).alloc (Nat.le_refl _) _) (fun _ z => z) (fun _ z => .inl z))
      have HGK : Hid ((wc.drew.alloc (.cells #[.string nm, .bool false, .bool true, .int .i64 (s2.temps : Int)] 75)).heap[wc.heap.size]? = some (.cells #[.string nm, .bool false, .bool true, .int .i64 (s2.temps : Int)] 75 (0, 0))) := Lib.hid (heap_alloc_new wc.drew _)
      have k6a : (wc.alloc (.cells #[.string nm, .bool false, .bool true, .int .i64 (s2.temps : Int)] 75)).cell? ⟨cb, 6, none⟩ = some (.slice A n6 c) := Lib.cell?_alloc_marked _ k6
      have k2a : (wc.alloc (.cells #[.string nm, .bool false, .bool true, .int .i64 (s2.temps : Int)] 75)).cell? ⟨cb, 2, none⟩ = some (.int .i64 (s2.temps : Int)) := Lib.cell?_alloc_marked _ k2
      go_region_law (first | (refine step_name rfl _ _ rfl HYA.out (by simp [Act.eval, Act.put]) (G := wc.heap.size) (by simp [Act.eval, Act.put]) ⟨nm, 3, (s2.temps : Int)⟩ HKK.out HGK.out (by have := HFEW.out; have := HN6.out; omega) ?_; intro nv5 w5 hna; obtain ⟨A5, n5, c5, hnv5⟩ := hna.sl; subst hnv5; have HNA := Lib.hid hna; have s5 : w5.cell? ⟨cb, 6, none⟩ = some (.slice A n6 c) := (by simp [World.cell?, hna.box, boxC]); have sf5 : w5.frozen? ⟨cb, 6, none⟩ = false := (by simp [World.frozen?, hna.box]); clear hna))
      all_goals
       have k2n : (w5.setCell ⟨cb, 6, none⟩ (.slice A5 n5 c5)).cell? ⟨cb, 2, none⟩ = some (.int .i64 (s2.temps : Int)) := by rw [HNA.out.cy.cell]; rfl
       have f2n := HNA.out.cy.free 2
       go_wp2_with fail
       go_roundw
       case rel =>
        refine ⟨k + 1, addP s2 nm true, by go_num, hlt, ⟨⟨lv, cv, _, D1, ps, HNA.out.cy.store (s' := addP s2 nm true) 2 _ (by simp [boxC, addP]) rfl rfl HNA.out.cy.names HNA.out.cy.nok HNA.out.cy.enm, ?_, ?_⟩, ?_⟩, ?_⟩
        ·have := HFEW.out; show s2.temps + 1 ≤ 24; omega
        ·have h1 := HFEW.out; have h2 := HN6.out; show (s2.names ++ [_]).length ≤ 8 + (s2.temps + 1); rw [List.length_append, h2]; simp; omega
        ·refine (HX.out.2.trans ?_).setCell _ _ (.inl HNA.out.cy.cbP)
         exact (Turns.of_below (((Below.refl _ _).alloc (Nat.le_refl _) _).trans (Below.drew (Below.refl _ _)))).trans HNA.out.ts
        ·rw [HDS.out, HS2.out, if_neg (by rw [HE0.out]; decide)]
       case measure => simp [intOf]; omega
     ·have HE0 := Lib.hid he
      have e1 : (s2.err == 0) = false := by simpa using he
      clear hy he
      go_wp2_with fail
      go_returns
      rw [HDS.out, HS2.out, if_pos HE0.out]
      exact ⟨rfl, HX.out⟩
  ·have hkn : k = n := by omega
   have d1 : decide (k < n) = false := decide_eq_false hlt
   have d2 : decide ((k : Int) < (n : Int)) = false := decide_eq_false (by omega)
   clear hlt
   subst hkn
   go_wp2_with fail
   go_returns
   rw [HD.out, ← HN.out, List.drop_length]
   exact ⟨rfl, HX.out⟩
set_option maxRecDepth 100000 in
set_option maxHeartbeats 16000000 in
theorem decl_false {w0 w : World} {P : Nat → Prop} {cb : Nat} {m : MK} {s : CSt} (h : CX w0 P w cb m s) {D : Nat → Prop} {p : Option Addr} {n c0 : Nat} {l : List ByteArray} (hs : Strs w0 D p l) (hn : l.length = n) (hle : n ≤ 9223372036854775807) : Calls Try.prog 43 #[.pointer (some ⟨cb, 0, none⟩), .slice p n c0, .bool false] w fun e w' => e = .returned (.tuple #[]) ∧ CT w0 P w w' cb m (declP false l s) := by
 have HS := Lib.hid hs
 have HN := Lib.hid hn
 have H0 := Lib.hid h
 clear hs hn h
 go_enter Try.func43, Try.ntmps43
 go_wp2_with fail
 go_loopw [12] (fun i wr => ∃ (k : Nat) (sk : CSt), i = .int .i64 k ∧ k ≤ n ∧ CT w0 P w wr cb m sk ∧ declP false l s = declP false (l.drop k) sk) (fun i _ => n - (intOf i).toNat)
 case atStart => exact ⟨0, s, rfl, Nat.zero_le _, H0.out.ct, rfl⟩
 case round =>
  obtain ⟨k, sk, rfl, hk, hct, hde⟩ := hrel
  have HX := Lib.hid hct
  have HD := Lib.hid hde
  clear hct hde H0
  by_cases hlt : k < n
  ·have d1 : decide (k < n) = true := decide_eq_true hlt
   have d2 : decide ((k : Int) < (n : Int)) = true := decide_eq_true (by omega)
   have hkl : k < l.length := by rw [HN.out]; exact hlt
   obtain ⟨b, off, rfl, hbl, _, hc, hsz⟩ := HS.out k hkl
   have hst := HX.out.1.stat
   obtain ⟨nm, hnm⟩ : ∃ nm, l[k] = nm := ⟨_, rfl⟩
   rw [hnm] at hc hsz
   have HSZ := Lib.hid hsz
   have hds := decl_step (fixed := false) hkl sk
   rw [hnm, ← HD.out] at hds
   have HDS := Lib.hid hds
   have c1 : wr.cell? ⟨b, off + k, none⟩ = some (.string nm) := (hst.cell (p := ⟨b, off + k, none⟩) hbl).trans hc
   have g0 : (0 : Int) ≤ (k : Int) := by omega
   have g1 : (k : Int) < (n : Int) := by omega
   clear hnm hsz hc hst hds
   rename World => wo
   obtain ⟨s1, hs1⟩ : ∃ s1, (if (findN sk.names nm).isSome || ownN nm then failP sk nm 16 else sk) = s1 := ⟨_, rfl⟩
   have HS1 := Lib.hid hs1
   have HS1N : Hid (s1.temps = sk.temps) := Lib.hid (by rw [← hs1]; split; unfold failP; split <;> rfl; rfl)
   clear hs1
   obtain ⟨isS, his⟩ : ∃ b, (findN sk.names nm).isSome = b := ⟨_, rfl⟩
   have HIS := Lib.hid his
   go_upto_region 3 with fail
   go_cut [9] (fun v wx => v = .bool isS ∧ Below wo.heap.size wo wx)
   case first =>
    cases hfn : findN sk.names nm with
    | some kx =>
     have HFN := Lib.hid hfn
     have HE : Hid (isS = true) := Lib.hid (by rw [← his, hfn]; rfl)
     clear hfn his
     go_wp2_with (first | (go_at_call 52; (with_reducible refine (find_any HX.out.1 nm HSZ.out).mono ?_); rw [HFN.out]; rintro e w1 ⟨rfl, hb1⟩; unfold fndV; unfold kV; have hb1s := hb1.size; have HB1 := Lib.hid hb1; clear hb1))
     go_meet
     exact ⟨by rw [HE.out], (by { have hB1 := HB1.out; (repeat' first | (with_reducible first | exact bl0 _ _ | assumption | apply bl1 | apply bl2 | apply bl3 | apply bl4) | go_size) })⟩
    | none =>
     have HFN := Lib.hid hfn
     have HE : Hid (isS = false) := Lib.hid (by rw [← his, hfn]; rfl)
     clear hfn his
     go_wp2_with (first | (go_at_call 52; (with_reducible refine (find_any HX.out.1 nm HSZ.out).mono ?_); rw [HFN.out]; rintro e w1 ⟨rfl, hb1⟩; unfold fndV;  have hb1s := hb1.size; have HB1 := Lib.hid hb1; clear hb1))
     go_meet
     exact ⟨by rw [HE.out], (by { have hB1 := HB1.out; (repeat' first | (with_reducible first | exact bl0 _ _ | assumption | apply bl1 | apply bl2 | apply bl3 | apply bl4) | go_size) })⟩
   case rest =>
   obtain ⟨rfl, hb1⟩ := hcut
   have HX1 := Lib.hid (HX.out.below hb1)
   clear hb1 HX his
   have HX := Lib.hid HX1.out
   clear HX1
   obtain ⟨tb, htb⟩ : ∃ b, (isS || ownN nm) = b := ⟨_, rfl⟩
   have HTB := Lib.hid htb
   rename World => wc0
   go_upto_region 4 with fail
   go_cut [26] (fun v wx => v = .bool tb ∧ wx = wc0)
   case first =>
    cases isS with
    | true =>
     have HE : Hid (tb = true) := Lib.hid htb.symm
     clear htb
     go_wp2_with fail
     go_meet
     exact ⟨by rw [HE.out], rfl⟩
    | false =>
     have HOW : Hid (ownN nm = tb) := Lib.hid htb
     clear htb
     go_wp2_with (first | (go_at_call 53; (with_reducible refine (own_any nm HSZ.out _).mono ?_); rw [HOW.out]; rintro e w2 ⟨rfl, hw2⟩; replace hw2 := hw2.symm; subst hw2))
     go_meet
     exact ⟨by simp, rfl⟩
   case rest =>
   obtain ⟨rfl, hwc⟩ := hcut
   replace hwc := hwc.symm
   subst hwc
   clear htb
   go_upto_if 26 with fail
   go_cut [] (fun wx => CT w0 P w wx cb m s1)
   case first =>
    cases tb with
    | true =>
     have HE : Hid (s1 = failP sk nm 16) := Lib.hid (by rw [← HS1.out, HIS.out, HTB.out]; rfl)
     go_wp2_with (first | (go_at_call 54; (with_reducible refine (fail_any HX.out.1 nm HSZ.out 16).mono ?_); rintro e w3 ⟨rfl, hx3⟩; have HX3 := Lib.hid (HX.out.go hx3); clear hx3))
     go_meet
     rw [HE.out]
     exact HX3.out
    | false =>
     have HE : Hid (s1 = sk) := Lib.hid (by rw [← HS1.out, HIS.out, HTB.out]; rfl)
     go_wp2_with fail
     go_meet
     rw [HE.out]
     exact HX.out
   case rest =>
    clear HX
    have HX := Lib.hid hcut
    clear hcut
    have hbd : badD sk nm = (if s1.temps = 24 then failP s1 nm 18 else s1) := by rw [← HS1.out]; rfl
    obtain ⟨s2, hs2⟩ : ∃ s2, badD sk nm = s2 := ⟨_, rfl⟩
    rw [hs2] at hbd
    have HBD := Lib.hid hbd
    have HS2 := Lib.hid hs2
    clear hbd hs2
    obtain ⟨lv, cv, nv, D1, ps, hy, hfw⟩ := HX.out.1
    have k2 : wc.cell? ⟨cb, 2, none⟩ = some (.int .i64 (s1.temps : Int)) := by rw [hy.cell]; rfl
    clear hy
    rename World => wc1
    go_upto_if 35 with fail
    go_cut [] (fun wx => CT w0 P w wx cb m s2)
    case first =>
     by_cases h24 : s1.temps = 24
     ·have HE : Hid (s2 = failP s1 nm 18) := Lib.hid (by rw [HBD.out, if_pos h24])
      have e2 : ((s1.temps : Int) == 24) = true := by rw [h24]; rfl
      have e3 : decide ((s1.temps : Int) = 24) = true := decide_eq_true (by omega)
      clear h24
      go_wp2_with (first | (go_at_call 54; (with_reducible refine (fail_any HX.out.1 nm HSZ.out 18).mono ?_); rintro e w3 ⟨rfl, hx3⟩; have HX3 := Lib.hid (HX.out.go hx3); clear hx3))
      go_meet
      rw [HE.out]
      exact HX3.out
     ·have HE : Hid (s2 = s1) := Lib.hid (by rw [HBD.out, if_neg h24])
      have e1 : (s1.temps == 24) = false := by simpa using h24
      have e2 : ((s1.temps : Int) == 24) = false := by simp; omega
      have e3 : decide ((s1.temps : Int) = 24) = false := decide_eq_false (by omega)
      clear h24
      go_wp2_with fail
      go_meet
      rw [HE.out]
      exact HX.out
    case rest =>
     clear HX k2 hfw
     have HX := Lib.hid hcut
     clear hcut
     obtain ⟨lv, cv, nv, D1, ps, hy, hfw⟩ := HX.out.1
     have k8 : wc.cell? ⟨cb, 8, none⟩ = some (.int .i64 s2.err) := by rw [hy.cell]; rfl
     by_cases he : s2.err = 0
     ·have HE0 := Lib.hid he
      rw [he] at k8
      obtain ⟨A, c, hnv, hcl⟩ := hy.names.slice
      subst hnv
      have HKEEP := Lib.hid (badD_keep sk nm)
      obtain ⟨n6, hn6⟩ : ∃ n6, s2.names.length = n6 := ⟨_, rfl⟩
      rw [hn6] at hfw hcl
      have HN6 := Lib.hid hn6
      have k6 : wc.cell? ⟨cb, 6, none⟩ = some (.slice A n6 c) := by rw [hy.cell, ← hn6]; rfl
      have k2 : wc.cell? ⟨cb, 2, none⟩ = some (.int .i64 (s2.temps : Int)) := by rw [hy.cell]; rfl
      have f6 := hy.free 6
      have f2 := hy.free 2
      have HY : Hid (CY w0 P wc cb m s2 lv cv (.slice A n6 c) D1 ps) := Lib.hid (by rw [← hn6]; exact hy)
      have ht24 : s2.temps ≠ 24 := by
       have h1 := badD_full (s := sk) (n := nm) (by rw [HS2.out]; exact he)
       rw [← HKEEP.out.2.1, HS2.out] at h1
       exact h1
      have HFEW : Hid (s2.temps ≤ 23 ∧ n6 ≤ 8 + s2.temps) := Lib.hid (by omega)
      have HKK : Hid (nm.size ≤ big63 ∧ (0 : Int) ≤ (s2.temps : Int) ∧ (s2.temps : Int) ≤ 1000) := Lib.hid ⟨HSZ.out, by omega, by omega⟩
      clear hy he hn6
      go_upto_region 9 with fail
      have HYA : Hid (CY w0 P (wc.drew.alloc (.cells #[.string nm, .bool false, .bool false, .int .i64 (s2.temps : Int)] 75)) cb m s2 lv cv (.slice A n6 c) D1 ps) := Lib.hid (HY.out.below ((Below.drew (Below.refl _ _)).alloc (Nat.le_refl _) _) (fun _ z => z) (fun _ z => .inl z))
      have HGK : Hid ((wc.drew.alloc (.cells #[.string nm, .bool false, .bool false, .int .i64 (s2.temps : Int)] 75)).heap[wc.heap.size]? = some (.cells #[.string nm, .bool false, .bool false, .int .i64 (s2.temps : Int)] 75 (0, 0))) := Lib.hid (heap_alloc_new wc.drew _)
      have k6a : (wc.alloc (.cells #[.string nm, .bool false, .bool false, .int .i64 (s2.temps : Int)] 75)).cell? ⟨cb, 6, none⟩ = some (.slice A n6 c) := Lib.cell?_alloc_marked _ k6
      have k2a : (wc.alloc (.cells #[.string nm, .bool false, .bool false, .int .i64 (s2.temps : Int)] 75)).cell? ⟨cb, 2, none⟩ = some (.int .i64 (s2.temps : Int)) := Lib.cell?_alloc_marked _ k2
      go_region_law (first | (refine step_name rfl _ _ rfl HYA.out (by simp [Act.eval, Act.put]) (G := wc.heap.size) (by simp [Act.eval, Act.put]) ⟨nm, 2, (s2.temps : Int)⟩ HKK.out HGK.out (by have := HFEW.out; have := HN6.out; omega) ?_; intro nv5 w5 hna; obtain ⟨A5, n5, c5, hnv5⟩ := hna.sl; subst hnv5; have HNA := Lib.hid hna; have s5 : w5.cell? ⟨cb, 6, none⟩ = some (.slice A n6 c) := (by simp [World.cell?, hna.box, boxC]); have sf5 : w5.frozen? ⟨cb, 6, none⟩ = false := (by simp [World.frozen?, hna.box]); clear hna))
      all_goals
       have k2n : (w5.setCell ⟨cb, 6, none⟩ (.slice A5 n5 c5)).cell? ⟨cb, 2, none⟩ = some (.int .i64 (s2.temps : Int)) := by rw [HNA.out.cy.cell]; rfl
       have f2n := HNA.out.cy.free 2
       go_wp2_with fail
       go_roundw
       case rel =>
        refine ⟨k + 1, addP s2 nm false, by go_num, hlt, ⟨⟨lv, cv, _, D1, ps, HNA.out.cy.store (s' := addP s2 nm false) 2 _ (by simp [boxC, addP]) rfl rfl HNA.out.cy.names HNA.out.cy.nok HNA.out.cy.enm, ?_, ?_⟩, ?_⟩, ?_⟩
        ·have := HFEW.out; show s2.temps + 1 ≤ 24; omega
        ·have h1 := HFEW.out; have h2 := HN6.out; show (s2.names ++ [_]).length ≤ 8 + (s2.temps + 1); rw [List.length_append, h2]; simp; omega
        ·refine (HX.out.2.trans ?_).setCell _ _ (.inl HNA.out.cy.cbP)
         exact (Turns.of_below (((Below.refl _ _).alloc (Nat.le_refl _) _).trans (Below.drew (Below.refl _ _)))).trans HNA.out.ts
        ·rw [HDS.out, HS2.out, if_neg (by rw [HE0.out]; decide)]
       case measure => simp [intOf]; omega
     ·have HE0 := Lib.hid he
      have e1 : (s2.err == 0) = false := by simpa using he
      clear hy he
      go_wp2_with fail
      go_returns
      rw [HDS.out, HS2.out, if_pos HE0.out]
      exact ⟨rfl, HX.out⟩
  ·have hkn : k = n := by omega
   have d1 : decide (k < n) = false := decide_eq_false hlt
   have d2 : decide ((k : Int) < (n : Int)) = false := decide_eq_false (by omega)
   clear hlt
   subst hkn
   go_wp2_with fail
   go_returns
   rw [HD.out, ← HN.out, List.drop_length]
   exact ⟨rfl, HX.out⟩
theorem decl_any {w0 w : World} {P : Nat → Prop} {cb : Nat} {m : MK} {s : CSt} (h : CX w0 P w cb m s) {D : Nat → Prop} {p : Option Addr} {n c0 : Nat} {l : List ByteArray} (hs : Strs w0 D p l) (hn : l.length = n) (hle : n ≤ 9223372036854775807) (fixed : Bool) : Calls Try.prog 43 #[.pointer (some ⟨cb, 0, none⟩), .slice p n c0, .bool fixed] w fun e w' => e = .returned (.tuple #[]) ∧ CT w0 P w w' cb m (declP fixed l s) := by
 cases fixed
 ·exact decl_false h hs hn hle
 ·exact decl_true h hs hn hle
theorem decl_at {w0 ws w1 w : World} {P : Nat → Prop} {cb : Nat} {m : MK} {s : CSt} (h : CT w0 P ws w1 cb m s) (hb : Below w1.heap.size w1 w) {D : Nat → Prop} {p : Option Addr} {n c0 : Nat} {l : List ByteArray} (hs : Strs w0 D p l) (hn : l.length = n) (hle : n ≤ 9223372036854775807) (fixed : Bool) : Calls Try.prog 43 #[.pointer (some ⟨cb, 0, none⟩), .slice p n c0, .bool fixed] w fun e w' => e = .returned (.tuple #[]) ∧ CT w0 P ws w' cb m (declP fixed l s) := by
 have h2 := h.below hb
 refine (decl_any h2.1 hs hn hle fixed).mono ?_
 rintro e w' ⟨he, hc⟩
 exact ⟨he, h2.go hc⟩
end Go.Proofs.Ytnojndgmgkgnpaa
