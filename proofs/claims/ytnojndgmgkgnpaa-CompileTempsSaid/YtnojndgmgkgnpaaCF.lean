/- Chapter 10: where a literal stands. -/
import Derived.Test.YtnojndgmgkgnpaaCE
namespace Go.Proofs.Ytnojndgmgkgnpaa
open Go.ChangeShapes Go.WideShapes Go.ChangeAt Go.RowKit Go.Deep Go.Joins Go.Maps
set_option linter.unusedVariables false
set_option linter.unusedSimpArgs false
set_option maxRecDepth 100000 in
set_option maxHeartbeats 16000000 in
theorem lclo_any {w : World} {fb : Nat} {k l : LitT} {qk q : LS} {Dl : Nat → Prop} {fr : Nat × Nat} (hfb : w.heap[fb]? = some (.cells #[.int .i64 l.kind_, .string l.text_, .int .i64 l.num_, .slice q.p l.kids_.length q.c] 40 fr)) (hk : Tells1 w k qk) (hl : IsLt w Dl l q) : Calls Try.prog 67 #[ltV k qk, .pointer (some ⟨fb, 0, none⟩)] w fun e w' => e = .returned (.bool (sameL k l)) ∧ Below w.heap.size w w' := by
 have c0 : w.cell? ⟨fb, 0, none⟩ = some (.int .i64 l.kind_) := by simp [World.cell?, hfb]
 have c1 : w.cell? ⟨fb, 1, none⟩ = some (.string l.text_) := by simp [World.cell?, hfb]
 have c2 : w.cell? ⟨fb, 2, none⟩ = some (.int .i64 l.num_) := by simp [World.cell?, hfb]
 have c3 : w.cell? ⟨fb, 3, none⟩ = some (.slice q.p l.kids_.length q.c) := by simp [World.cell?, hfb]
 have hfl := lt_of_block hfb
 have hW : ∀ W, Below w.heap.size w W → Calls Try.prog 68 #[ltV k qk, ltV l q] W fun e w' => e = .returned (.bool (sameL k l)) ∧ Below w.heap.size w w' := fun W hW => (hk W _ _ _ hW (hl.under hW)).mono (fun e w' ⟨he, hb⟩ => ⟨he, hW.trans (hb.mono hW.size)⟩)
 unfold ltV at hW ⊢
 have HW := Lib.hid hW
 clear hW hfb hk hl
 go_enter Try.func67, Try.ntmps67
 go_wp2_with (go_at_call 68; (with_reducible refine (HW.out _ bel).mono ?_); rintro e w3 ⟨rfl, hb3⟩; have HB3 := Lib.hid hb3; clear hb3)
 go_ret
 exact ⟨rfl, HB3.out⟩
set_option maxRecDepth 100000 in
set_option maxHeartbeats 16000000 in
theorem index_lits {w : World} {D Dl : Nat → Prop} {A : Option Addr} {n c : Nat} {ps : List LP} (hR : LitRow w D (.slice A n c) ps) (hn : ps.length = n) (hle : n ≤ 1000000) {fb : Nat} {l : LitT} {q : LS} {fr : Nat × Nat} (hfb : w.heap[fb]? = some (.cells #[.int .i64 l.kind_, .string l.text_, .int .i64 l.num_, .slice q.p l.kids_.length q.c] 40 fr)) (hl : IsLt w Dl l q) : Calls Try.prog 66 #[.slice A n c, .func (.func 67) #[] #[.pointer (some ⟨fb, 0, none⟩)]] w fun e w' => e = .returned (.int .i64 (idxV ((ps.map Prod.fst).findIdx? (fun k => sameL k l)))) ∧ Below w.heap.size w w' := by
 have HR := Lib.hid hR
 have HN := Lib.hid hn
 have HF := Lib.hid hfb
 have HL := Lib.hid hl
 have HLM : Hid ((ps.map Prod.fst).length = n) := Lib.hid (by rw [List.length_map]; exact hn)
 clear hR hn hfb hl
 go_enter Try.func66, Try.ntmps66
 go_wp2_with fail
 go_loopw [8] (fun i wr => ∃ k : Nat, k ≤ n ∧ i = .int .i64 k ∧ ((ps.map Prod.fst).take k).any (fun k => sameL k l) = false ∧ Below w.heap.size w wr) (fun i _ => n - (intOf i).toNat)
 case atStart => exact ⟨0, Nat.zero_le _, rfl, rfl, Below.refl _ _⟩
 case round =>
  obtain ⟨k, hk, rfl, hall, hbw⟩ := hrel
  have HALL := Lib.hid hall
  have HBW := Lib.hid hbw
  clear hall
  by_cases hlt : k < n
  ·have d1 : decide (k < n) = true := decide_eq_true hlt
   have hkl : k < ps.length := by rw [HN.out]; exact hlt
   have hkm : k < (ps.map Prod.fst).length := by rw [HLM.out]; exact hlt
   obtain ⟨b, c', cur, hv, _, hh, hc⟩ := HR.out.at_ hkl
   simp only [Value.slice.injEq] at hv
   obtain ⟨rfl, hx9, rfl⟩ := hv
   clear hx9
   have hbl := lt_of_block hh
   have hcw := hc.same (hbw.block b hbl)
   obtain ⟨px, hpx⟩ : ∃ px, ps[k] = px := ⟨_, rfl⟩
   have hlk := HR.out.lits px (by rw [← hpx]; exact List.getElem_mem hkl)
   have HPX : Hid ((ps.map Prod.fst)[k] = px.1) := Lib.hid (by rw [List.getElem_map, hpx])
   rw [hpx] at hcw
   obtain ⟨kx, qx⟩ := px
   have c0 := hcw.c0
   have c1 := hcw.c1
   have c2 := hcw.c2
   have c3 := hcw.c3
   simp only at c0 c1 c2 c3
   have hcl := lclo_any ((hbw.block fb (lt_of_block HF.out)).trans HF.out) ((same_any hlk).under hbw) (HL.out.under hbw)
   unfold ltV at hcl
   have g0 : (0 : Int) ≤ (k : Int) := by omega
   have g1 : (k : Int) < (n : Int) := by omega
   simp only at hcl
   obtain ⟨v, hv⟩ : ∃ v, sameL kx l = v := ⟨_, rfl⟩
   rw [hv] at hcl
   have HV := Lib.hid hv
   have HCL := Lib.hid hcl
   clear hpx hv hcl hcw hc hh hbw hlk
   cases v
   ·go_wp2_with (go_at_call 67; (with_reducible refine HCL.out.mono ?_); rintro e w1 ⟨rfl, hb1⟩; have HB1 := Lib.hid hb1; clear hb1)
    go_roundw
    case rel => exact ⟨k + 1, by omega, by go_num, any_take_succ hkm (by rw [HPX.out]; exact HV.out) HALL.out, HBW.out.trans (HB1.out.mono HBW.out.size)⟩
    case measure => simp [intOf]; omega
   ·go_wp2_with (go_at_call 67; (with_reducible refine HCL.out.mono ?_); rintro e w1 ⟨rfl, hb1⟩; have HB1 := Lib.hid hb1; clear hb1)
    go_ret
    exact ⟨by rw [findIdx_some hkm HALL.out (by rw [HPX.out]; exact HV.out)]; rfl, HBW.out.trans (HB1.out.mono HBW.out.size)⟩
  ·have hkn : k = n := by omega
   have d1 : decide (k < n) = false := decide_eq_false hlt
   clear hlt
   subst hkn
   go_wp2_with fail
   go_ret
   refine ⟨?_, HBW.out⟩
   have h9 := HALL.out
   rw [← HLM.out, List.take_length] at h9
   rw [findIdx_none h9]
   rfl
theorem infoL : (Try.prog.info? 40).map (fun i => (i.zero, i.size, i.bytes)) = some (some (.agg #[.int .i64 0, .string eB, .int .i64 0, .slice none 0 0]), 4, 56) := by kernel_rfl
theorem ownsRow_set {w : World} {base n size g cap j : Nat} {e : TypeId} {xs : List Value} (h : w.ownsRow base e size (.slice (some ⟨g, 0, none⟩) n cap) n xs) (v : Value) (hj : j < n * size) : (w.setCell ⟨g, j, none⟩ v).ownsRow base e size (.slice (some ⟨g, 0, none⟩) n cap) n (xs.set j v) := by
 refine ⟨by rw [List.length_set]; exact h.1, ?_⟩
 rcases h.2 with ⟨h1, _⟩ | ⟨g', cap', cur, hv, hg, hh, h1, h2, h3, h4⟩
 ·cases h1
 ·cases hv
  refine .inr ⟨g, cap, cur.set! j v, rfl, hg, heap_setCell_same w g j _ _ _ hh, h1, h2, by simpa using h3, ?_⟩
  rw [Array.set!_eq_setIfInBounds, Array.toList_setIfInBounds, List.take_set, h4]
structure Litted (w0 : World) (P : Nat → Prop) (w w' : World) (cb : Nat) (m : MK) (s : CSt) (lv cv nv : Value) (D : Nat → Prop) (ps : List LP) (lv' : Value) (Dl : Nat → Prop) (p : LP) : Prop where
 box : w'.heap[cb]? = some (.cells (boxC m s lv cv nv) 73 (0, 0))
 cy : CY w0 P (w'.setCell ⟨cb, 4, none⟩ lv') cb m { s with lits := s.lits ++ [p.1] } lv' cv nv (fun k => D k ∨ Dl k) (ps ++ [p])
 ts : Turns (outP P) w (w'.setCell ⟨cb, 4, none⟩ lv')
 sl : ∃ g c, lv' = .slice (some ⟨g, 0, none⟩) (ps.length + 1) c ∧ g ≠ cb
theorem CY.litted {w0 w : World} {P : Nat → Prop} {cb : Nat} {m : MK} {s : CSt} {lv cv nv : Value} {D : Nat → Prop} {ps : List LP} {w' : World} {lv' : Value} (h : CY w0 P w cb m s lv cv nv D ps) (p : LP) {Dl : Nat → Prop} (hp : IsLt w Dl p.1 p.2) (hD : ∀ k, Dl k → lv.ownBlock ≠ some k ∧ ∃ cur, w.heap[k]? = some (.cells cur 40 (0, 0)))
  (hown : w'.ownsRow 0 40 4 lv' (ps.length + 1) (ps.flatMap lpC ++ lpC p)) (hg : w.grownBy w' lv.ownBlock) (hat : lv'.ownBlock = lv.ownBlock ∨ lv'.ownBlock = some w.heap.size) : Litted w0 P w w' cb m s lv cv nv D ps lv' Dl p := by
 obtain ⟨n1, n2⟩ := h.ne
 have ht : Turns (fun k => lv.ownBlock = some k) w w' := ⟨hg.os, hg.tape, hg.output, hg.size, fun k hk hs => hg.block k hk (fun e => hs e.symm)⟩
 have hcb := lt_of_block h.box
 have hbx : w'.heap[cb]? = some (.cells (boxC m s lv cv nv) 73 (0, 0)) := (ht.block cb hcb (fun e => (n1 cb e).1 rfl)).trans h.box
 have ht2 : Turns (fun k => k = cb) w' (w'.setCell ⟨cb, 4, none⟩ lv') := (Turns.refl _ _).setCell _ _ (.inl rfl)
 have ht3 : Turns (fun k => lv.ownBlock = some k ∨ k = cb) w (w'.setCell ⟨cb, 4, none⟩ lv') := (ht.mono (fun _ _ z => .inl z)).setCell _ _ (.inl (.inr rfl))
 have hDcb : ∀ k, Dl k → k ≠ cb := fun k hk e => by
  obtain ⟨cur, hc⟩ := (hD k hk).2
  rw [e, h.box] at hc; simp at hc
 have hDlt : ∀ k, Dl k → k < w.heap.size := fun k hk => lt_of_block (hD k hk).2.choose_spec
 have hlv' : ∀ k, lv'.ownBlock = some k → (¬ P k ∧ ¬ (D k ∨ Dl k)) ∧ k ≠ cb := fun k hk => by
  rcases hat with q | q
  ·rw [q] at hk
   exact ⟨⟨(h.lvP k hk).1, fun z => z.elim (h.lvP k hk).2 (fun y => (hD k y).1 hk)⟩, (n1 k hk).1⟩
  ·rw [q] at hk
   cases hk
   exact ⟨⟨fun z => by have := h.lim _ z; omega, fun z => z.elim (fun y => by have := (h.dlt _ y).1; omega) (fun y => by have := hDlt _ y; omega)⟩, by omega⟩
 have hnD : ∀ k, D k ∨ Dl k → ¬ (lv.ownBlock = some k ∨ k = cb) := fun k hk q => by
  rcases hk with z | z
  ·rcases q with e | e
   ·exact (h.lvP k e).2 z
   ·exact (h.dlt k z).2 e
  ·rcases q with e | e
   ·exact (hD k z).1 e
   ·exact hDcb k z e
 refine ⟨hbx, ⟨?_, ⟨?_, fun x hx => ?_⟩, ?_, ?_, ?_, h.nok, h.cbP, fun k hk => (hlv' k hk).1, h.cvP, fun k hk => ?_, fun k hk => ?_, ?_, h.low, fun k hk => Nat.lt_of_lt_of_le (h.lim k hk) ht3.size, h.enm⟩, ?_, ?_⟩
 ·rw [heap_setCell_same w' cb 4 _ _ _ hbx]; rfl
 ·have e : (ps ++ [p]).flatMap lpC = ps.flatMap lpC ++ lpC p := by simp
  rw [e, List.length_append]
  exact ownsRow_same hown ht2.size (fun k hk => ht2.block k (World.ownsRow.lt hown k hk).2 (hlv' k hk).2)
 ·rcases List.mem_append.1 hx with q | q
  ·exact (h.lits.lits x q).same ht3.size (fun b hb hl => ht3.block b hl (hnD b (.inl hb))) (fun _ z => .inl z)
  ·rw [List.mem_singleton.1 q]
   exact hp.same ht3.size (fun b hb hl => ht3.block b hl (hnD b (.inr hb))) (fun _ z => .inr z)
 ·show (ps ++ [p]).map Prod.fst = s.lits ++ [p.1]
  rw [List.map_append, h.lps]; rfl
 ·exact ownsRow_same h.code ht3.size (fun k hk => ht3.block k (World.ownsRow.lt h.code k hk).2 (fun q => q.elim (fun e => (n1 k e).2 hk) (fun e => (n2 k hk).1 e)))
 ·refine h.names.same ht3.size (fun k hk => ht3.block k (h.names.lt hk) (fun q => ?_)) (fun _ _ z => z)
  obtain ⟨cur, hc⟩ := h.names.type hk
  rcases q with e | e
  ·obtain ⟨cur2, hc2⟩ := own_type h.lits.own e
   rw [hc] at hc2; simp at hc2
  ·rw [e, h.box] at hc; simp at hc
 ·rcases hk with z | z
  ·exact ⟨Nat.lt_of_lt_of_le (h.dlt k z).1 ht3.size, (h.dlt k z).2⟩
  ·exact ⟨Nat.lt_of_lt_of_le (hDlt k z) ht3.size, hDcb k z⟩
 ·have : ∃ cur, w.heap[k]? = some (.cells cur 40 (0, 0)) := hk.elim (fun z => h.dty k z) (fun z => (hD k z).2)
  obtain ⟨cur, hc⟩ := this
  exact ⟨cur, (ht3.block k (lt_of_block hc) (hnD k hk)).trans hc⟩
 ·refine h.stat.trans (ht3.below (fun k q => ?_) h.stat.size)
  rcases Nat.lt_or_ge k w0.heap.size with z | z
  ·exact q.elim (fun e => absurd (h.low k z) (h.lvP k e).1) (fun e => absurd (e ▸ h.low k z) h.cbP)
  ·exact z
 ·exact ht3.mono (fun k _ q => q.elim (fun e => (h.lvP k e).1) (fun e => by rw [e]; exact h.cbP))
 ·rcases hown.2 with ⟨_, h0⟩ | ⟨g, cap, cur, hv, _⟩
  ·omega
  ·exact ⟨g, cap, hv, (hlv' g (by rw [hv]; rfl)).2⟩
end Go.Proofs.Ytnojndgmgkgnpaa
