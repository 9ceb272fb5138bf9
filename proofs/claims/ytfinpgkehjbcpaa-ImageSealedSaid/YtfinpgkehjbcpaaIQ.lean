/- Chapter 05: a memory is filled: its closure, its state. -/
import Derived.Test.YtfinpgkehjbcpaaIO
import Derived.Test.YtfinpgkehjbcpaaIBuild
import Derived.Test.YtfinpgkehjbcpaaHM0
import Derived.Test.YtfinpgkehjbcpaaIN9
import Derived.Test.YtfinpgkehjbcpaaHD0
import Derived.Test.YtfinpgkehjbcpaaIH0
import Derived.Deep.RegionHeld3
namespace Go.Proofs.Ytfinpgkehjbcpaa
open Go.ChangeShapes Go.WideShapes Go.ChangeAt Go.RowKit Go.Deep Go.Joins Go.Maps
set_option linter.unusedVariables false
set_option linter.unusedSimpArgs false
def ptsT (ts : List Tng) : List Int := (List.range ts.length).map (ptT ts)
theorem ptsT_len (ts : List Tng) : (ptsT ts).length = ts.length := by unfold ptsT; simp
theorem ptsT_at {ts : List Tng} {i : Nat} (hi : i < (ptsT ts).length) : (ptsT ts)[i] = ptT ts i := by
  have h : (ptsT ts)[i]? = some (ptT ts i) := by
    show ((List.range ts.length).map (ptT ts))[i]? = _
    rw [List.getElem?_map, List.getElem?_range (by rw [ptsT_len] at hi; exact hi)]; rfl
  rw [List.getElem?_eq_getElem hi] at h
  exact Option.some.inj h
set_option maxRecDepth 100000 in
set_option maxHeartbeats 16000000 in
theorem real_any {w : World} {ab n c : Nat} {PA : Option Addr} {ts : List Tng} (hab : w.cell? ⟨ab, 0, none⟩ = some (.slice PA n c)) (hP : Nums w PA (ptsT ts)) (hn : ts.length = n) (x : Int) (hx : wOk n x) : Calls Try.prog 86 #[.int .i64 x, .pointer (some ⟨ab, 0, none⟩)] w fun e w' => e = .returned (.int .i64 (realI ts x)) ∧ w' = w := by
  obtain ⟨h0, h1, h2, h3⟩ := hx
  obtain ⟨k, rfl⟩ : ∃ k : Nat, x = k := ⟨x.toNat, by omega⟩
  have a1 := and_1 (k : Int)
  by_cases q : k < 3
  · have hv : realI ts (k : Int) = 2 * (k : Int) := by unfold realI; rw [if_pos (by omega)]
    have e1 : decide ((k : Int) < 3) = true := decide_eq_true (by omega)
    have e1' : (k : Int) < 3 := by omega
    have e2 : IntKind.i64.wrap (2 * (k : Int)) = 2 * (k : Int) := IntWalk.i64_in _ ⟨by omega, by omega⟩
    rw [hv]
    clear hv h2 h3 hP a1 hn
    go_enter Try.func86, Try.ntmps86
    go_wp2_with fail
    go_ret
    exact ⟨rfl, rfl⟩
  · have e1 : decide ((k : Int) < 3) = false := decide_eq_false (by omega)
    have e1' : ¬ (k : Int) < 3 := by omega
    by_cases q2 : k % 2 = 1
    · obtain ⟨r, hr⟩ : ∃ r, (k - 3) / 2 = r := ⟨_, rfl⟩
      obtain ⟨uv, huv⟩ : ∃ uv, unfV r = uv := ⟨_, rfl⟩
      obtain ⟨sv, sb, hsv⟩ : ∃ sv sb, smallV uv = (sv, sb) := ⟨_, _, rfl⟩
      have hv : realI ts (k : Int) = sv := by unfold realI; rw [if_neg (by omega), if_pos (by omega), Int.toNat_natCast, hr, huv, hsv]
      have HUV := Lib.hid huv
      have HSV := Lib.hid hsv
      have b1 : bits .and .i64 (k : Int) 1 = 1 := by rw [a1]; omega
      have b3 : ((k : Int) - 3).tdiv 2 = (r : Int) := by rw [Int.tdiv_eq_ediv_of_nonneg (by omega)]; omega
      have hrb : r ≤ 4611686018427387904 := by omega
      rw [hv]
      clear hv hr huv hsv h2 h3 hP a1 q2 hn
      go_enter Try.func86, Try.ntmps86
      go_wp2_with (first | (go_at_call 84; (with_reducible refine (unfolded_any r (by omega) _).mono ?_); rw [HUV.out]; rintro e w2 ⟨rfl, hw2⟩; replace hw2 := hw2.symm; subst hw2) | (go_at_call 83; (with_reducible refine (small_any uv _).mono ?_); rw [HSV.out]; rintro e w2 ⟨rfl, hw2⟩; replace hw2 := hw2.symm; subst hw2))
      go_ret
      exact ⟨rfl, rfl⟩
    · have hlt := h3 (by omega) (by omega)
      obtain ⟨r, hr⟩ : ∃ r, (k - 4) / 2 = r := ⟨_, rfl⟩
      rw [Int.toNat_natCast, hr] at hlt
      have hv : realI ts (k : Int) = ptT ts r := by unfold realI; rw [if_neg (by omega), if_neg (by omega), Int.toNat_natCast, hr]
      have b1 : bits .and .i64 (k : Int) 1 = 0 := by rw [a1]; omega
      have b3 : ((k : Int) - 4).tdiv 2 = (r : Int) := by rw [Int.tdiv_eq_ediv_of_nonneg (by omega)]; omega
      obtain ⟨g, off, rfl, hg, hc⟩ := hP r (by rw [ptsT_len, hn]; exact hlt)
      rw [ptsT_at] at hc
      have g0 : (0 : Int) ≤ (r : Int) := by omega
      have g1 : (r : Int) < (n : Int) := by omega
      have hrb : r ≤ 4611686018427387904 := by omega
      rw [hv]
      clear hv hr h2 h3 hP a1 q2 hn
      go_enter Try.func86, Try.ntmps86
      go_wp2_with fail
      go_ret
      exact ⟨rfl, rfl⟩
/-- one number more -/
theorem wpList_num {w : World} {ops : Array Oper} {rest : List Oper} {o : Oper} {a : Act} {Q : Exit → Act → World → Prop} (hgd : o.guard = none) (s x : Operand)
    (ho : o.op = .call { callee := .builtin .append, args := #[s, x], argTypes := #[23, 23] })
    (base : Nat) (v : Value) (zs : List Int) (hs : a.eval s = v) (hown : Ints w base v zs) {B : Nat} {y : Int}
    (hx : a.eval x = .slice (some ⟨B, 0, none⟩) 1 1) (hc : w.cell? ⟨B, 0, none⟩ = some (.int .i64 y)) (hb : zs.length ≤ 1000000000) (hbase : base ≤ w.heap.size)
    (h : ∀ v' w', Ints w' base v' (zs ++ [y]) → w.grownBy w' v.ownBlock → wpList Try.prog ops Q rest (a.put o.dst v') w') : wpList Try.prog ops Q (o :: rest) a w := by
  obtain ⟨i0, hi, hz0, hz1, hz2⟩ := info_parts infoI
  refine wpList_append_own (P := Try.prog) _ hgd s x 23 ho base 3 i0 (.int .i64 0) 1 8 Try.underlying23 hi hz0 hz1 hz2 rfl (by decide) v zs.length _ hs hown ⟨B, 0, none⟩ 1 1 [.int .i64 y] hx rfl (fun j u hj => ?_) (by simp [Value.oneCell']) (by unfold maxLen; omega) (by omega) hbase ?_
  · cases j with
    | zero => simp at hj; rw [← hj, add_plain]; exact hc
    | succ j => simp at hj
  intro v' w' h2 h3 _
  refine h v' w' ?_ h3
  unfold Ints
  rw [List.length_append, List.map_append]
  exact h2
/-- a memory that is filled: it, the box of its pointers, they -/
structure BS (w0 : World) (s bw bm ab : Nat) (m : Hp) (v : Value) (P : List Int) (wi : World) : Prop where
  pm : PM wi s bw bm m
  bx : wi.heap[ab]? = some (.cells #[v] 23 (0, 0))
  al : Ints wi (ab + 1) v P
  bl : Below w0.heap.size w0 wi
  ne : ∀ j, pset s bw bm j → w0.heap.size ≤ j ∧ j < ab
section
variable {w0 wi w' : World} {s bw bm ab : Nat} {m m' : Hp} {v : Value} {P : List Int}
theorem BS.lt (h : BS w0 s bw bm ab m v P wi) : ab < wi.heap.size := by
  have h1 := h.bx
  rcases Nat.lt_or_ge ab wi.heap.size with q | q
  · exact q
  · rw [Array.getElem?_eq_none q] at h1; cases h1
theorem BS.ge (h : BS w0 s bw bm ab m v P wi) : w0.heap.size ≤ ab := by have := h.ne s (.inl rfl); omega
theorem BS.c (h : BS w0 s bw bm ab m v P wi) : wi.cell? ⟨ab, 0, none⟩ = some v := by simp [World.cell?, h.bx]
theorem BS.free (h : BS w0 s bw bm ab m v P wi) : wi.frozen? ⟨ab, 0, none⟩ = false := by simp [World.frozen?, h.bx]
theorem BS.deed (h : BS w0 s bw bm ab m v P wi) (hp : PM w' s bw bm m') (ht : Turns (pset s bw bm) wi w') : BS w0 s bw bm ab m' v P w' := by
  refine ⟨hp, (ht.block ab h.lt (fun q => by have := h.ne ab q; omega)).trans h.bx, h.al.turnsT ht (fun k hk q => by have := h.ne k q; omega), ?_, h.ne⟩
  exact h.bl.trans (ht.below (fun k q => (h.ne k q).1) h.bl.size)
theorem BS.below (h : BS w0 s bw bm ab m v P wi) (hb : Below wi.heap.size wi w') : BS w0 s bw bm ab m v P w' :=
  ⟨h.pm.below hb, (hb.block ab h.lt).trans h.bx, ownsRow_below h.al hb, h.bl.trans (hb.mono h.bl.size), h.ne⟩
theorem BS.drew (h : BS w0 s bw bm ab m v P wi) : BS w0 s bw bm ab m v P wi.drew := h.below (Below.drew (Below.refl _ _))
theorem BS.alloc1 (h : BS w0 s bw bm ab m v P wi) (o : Obj) : BS w0 s bw bm ab m v P (wi.alloc o) := h.below ((Below.refl _ _).alloc (Nat.le_refl _) o)
theorem BS.push (h : BS w0 s bw bm ab m v P wi) {v' : Value} {P' : List Int} (hi : Ints w' (ab + 1) v' P') (hg : wi.grownBy w' v.ownBlock) : BS w0 s bw bm ab m v' P' (w'.setCell ⟨ab, 0, none⟩ v') ∧ w'.frozen? ⟨ab, 0, none⟩ = false ∧ w'.cell? ⟨ab, 0, none⟩ = some v := by
  have hlt := h.lt
  have hge := h.ge
  have hown : ∀ k, v.ownBlock = some k → ab < k := fun k hk => by have := (World.ownsRow.lt h.al k hk).1; omega
  have ht : Turns (fun k => v.ownBlock = some k) wi w' := ⟨hg.os, hg.tape, hg.output, hg.size, fun k hk hs => hg.block k hk (fun q => hs q.symm)⟩
  have hbx : w'.heap[ab]? = some (.cells #[v] 23 (0, 0)) := (ht.block ab hlt (fun q => by have := hown ab q; omega)).trans h.bx
  have ht2 : Turns (fun k => k = ab) w' (w'.setCell ⟨ab, 0, none⟩ v') := (Turns.refl _ _).setCell _ _ rfl
  refine ⟨⟨(h.pm.turns ht (fun j hj q => by have := hown j q; have := h.ne j hj; omega)).turns ht2 (fun j hj q => by have := h.ne j hj; omega), by rw [heap_setCell_same w' ab 0 _ _ _ hbx]; rfl, hi.turnsT ht2 (fun k hk q => by omega), ?_, h.ne⟩, by simp [World.frozen?, hbx], by simp [World.cell?, hbx]⟩
  exact ((h.bl.trans (ht.below (fun k q => by have := hown k q; omega) h.bl.size))).trans (ht2.below (fun k q => by omega) (Nat.le_trans h.bl.size ht.size))
end
end Go.Proofs.Ytfinpgkehjbcpaa
/- Chapter 05: a memory is filled. -/
namespace Go.Proofs.Ytfinpgkehjbcpaa
open Go.ChangeShapes Go.WideShapes Go.ChangeAt Go.RowKit Go.Deep Go.Joins Go.Maps
set_option linter.unusedVariables false
set_option linter.unusedSimpArgs false
set_option maxRecDepth 100000 in
set_option maxHeartbeats 16000000 in
theorem built_any {w0 w : World} {s bw bm size base n c kr d made : Nat} {A B : Option Addr} {ts' : List (Tng × Value)} {ws : List Int}
    (hP : PM w s bw bm ⟨size, 0, []⟩) (hT : TRow w0 base (.slice A n c) ts') (hn : ts'.length = n) (hn2 : n ≤ 1000000) (hok : ∀ p, p ∈ ts' → TOk n p.1) (hB : Nums w0 B ws) (hk : ws.length = kr) (hk2 : kr ≤ 4000) (hw : ∀ x, x ∈ ws → wOk n x)
    (hbl : Below w0.heap.size w0 w) (hne : ∀ j, pset s bw bm j → w0.heap.size ≤ j) (hsz : 3 + szT (ts'.map Prod.fst) ≤ size) (hmade : n ≤ made ∧ made ≤ 1099511627776) :
    Calls Try.prog 51 #[.pointer (some ⟨s, 0, none⟩), .slice A n c, .slice B kr d, .int .i64 (made : Int)] w fun e w' => ∃ v, e = .returned (.tuple #[.pointer (some ⟨s, 0, none⟩), v, .int .i64 0]) ∧ Ints w' w.heap.size v (ws.map (realI (ts'.map Prod.fst))) ∧ PM w' s bw bm ⟨size, made, bldL (ts'.map Prod.fst)⟩ ∧ Below w0.heap.size w0 w' := by
  obtain ⟨W0, hW0⟩ : ∃ W0, W0 = w.alloc (.cells #[.slice none 0 0] 23) := ⟨_, rfl⟩
  have hB0 : Below w.heap.size w W0 := by rw [hW0]; exact (Below.refl _ _).alloc (Nat.le_refl _) _
  have HB0 : Hid (BS w0 s bw bm w.heap.size (mkH size (ts'.map Prod.fst) 0) (.slice none 0 0) [] W0) := Lib.hid (by
    refine ⟨?_, by rw [hW0]; exact heap_alloc_new w _, Ints.nil0 _ _, hbl.trans (hB0.mono hbl.size), fun j hj => ⟨hne j hj, hP.lt j hj⟩⟩
    have := hP.below hB0
    exact this)
  have HT := Lib.hid hT
  have HN := Lib.hid hn
  have HOK := Lib.hid hok
  have HW := Lib.hid hB
  have HK := Lib.hid hk
  have HWO := Lib.hid hw
  have HSZ := Lib.hid hsz
  have HTL : Hid ((ts'.map Prod.fst).length = n) := Lib.hid (by rw [List.length_map]; exact hn)
  have HSIZE : Hid (size ≤ 131072) := Lib.hid hP.good.hi
  have HSW0 : Hid (w0.heap.size ≤ w.heap.size) := Lib.hid hbl.size
  clear hP hT hn hok hB hk hw hne hsz hB0 hbl
  go_enter Try.func51, Try.ntmps51
  go_upto_region 2 with fail
  rw [← hW0]
  clear hW0
  go_wp2_with fail
  go_loopw [26] (fun i wr => ∃ (k : Nat) (PA : Option Addr) (pc : Nat), k ≤ n ∧ i = .int .i64 k ∧ BS w0 s bw bm w.heap.size (mkH size (ts'.map Prod.fst) k) (.slice PA k pc) ((List.range k).map (ptT (ts'.map Prod.fst))) wr) (fun i _ => n - (intOf i).toNat)
  case atStart => exact ⟨0, none, 0, Nat.zero_le _, rfl, HB0.out⟩
  case round =>
    obtain ⟨k, PA, pc, hk, rfl, hbs⟩ := hrel
    have HB := Lib.hid hbs
    have HKB := Lib.hid hk
    clear hbs HB0
    by_cases hlt : k < n
    · have d1 : decide (k < n) = true := decide_eq_true hlt
      have d2 : decide ((k : Int) < (n : Int)) = true := decide_eq_true (by omega)
      have g0 : (0 : Int) ≤ (k : Int) := by omega
      have g1 : (k : Int) < (n : Int) := by omega
      obtain ⟨g, hA, hbg, hlg, c0, c1, c2, c3⟩ := (HT.out.below HB.out.bl).at_ HN.out k (by rw [HN.out]; exact hlt)
      subst hA
      have hkl : k < ts'.length := by rw [HN.out]; exact hlt
      obtain ⟨p, hp⟩ : ∃ p, ts'[k] = p := ⟨_, rfl⟩
      have hpm : p ∈ ts' := by rw [← hp]; exact List.getElem_mem hkl
      rw [hp] at c0 c1 c2 c3
      obtain ⟨FA, fc, hp2, hpn, hpl, hpb⟩ := (HT.out.below HB.out.bl).2 p hpm
      rw [hp2] at c3
      have hOK := HOK.out p hpm
      obtain ⟨cl, hcl⟩ : ∃ cl, (p.1.cls : Int) = cl := ⟨_, rfl⟩
      obtain ⟨fm, hfm⟩ : ∃ fm, (p.1.fmt : Int) = fm := ⟨_, rfl⟩
      obtain ⟨fl, hfl⟩ : ∃ fl, p.1.F.length = fl := ⟨_, rfl⟩
      have hkt : k < (ts'.map Prod.fst).length := by rw [List.length_map]; exact hkl
      have htk : (ts'.map Prod.fst)[k] = p.1 := by rw [List.getElem_map, hp]
      rw [hcl] at c2
      rw [hfm] at c0
      rw [hfl] at c3 hpl
      obtain ⟨W2, hW2⟩ : ∃ W2, W2 = wr.alloc (.cells #[.int .i64 fm, .int .i64 p.1.hash, .int .i64 cl, .slice FA fl fc] 83) := ⟨_, rfl⟩
      have hB2 : Below wr.heap.size wr W2 := by rw [hW2]; exact (Below.refl _ _).alloc (Nat.le_refl _) _
      have hx2 : W2.heap[wr.heap.size]? = some (.cells #[.int .i64 fm, .int .i64 p.1.hash, .int .i64 cl, .slice FA fl fc] 83 (0, 0)) := by rw [hW2]; exact heap_alloc_new wr _
      have HX2 := Lib.hid hx2
      have t0 : W2.cell? ⟨wr.heap.size, 0, none⟩ = some (.int .i64 fm) := by simp [World.cell?, hx2]
      have t1 : W2.cell? ⟨wr.heap.size, 1, none⟩ = some (.int .i64 p.1.hash) := by simp [World.cell?, hx2]
      have t2 : W2.cell? ⟨wr.heap.size, 2, none⟩ = some (.int .i64 cl) := by simp [World.cell?, hx2]
      have t3 : W2.cell? ⟨wr.heap.size, 3, none⟩ = some (.slice FA fl fc) := by simp [World.cell?, hx2]
      have HB2 := Lib.hid (HB.out.below hB2)
      have HTK := Lib.hid htk
      have HPM := Lib.hid hpm
      have HFL := Lib.hid hfl
      have HFM := Lib.hid hfm
      have HCL := Lib.hid hcl
      have hfl256 : fl ≤ 256 := by rw [← hfl]; exact hOK.len
      have hfm2 : 0 ≤ fm ∧ fm ≤ 2 := by rw [← hfm]; have := hOK.fmt; omega
      have HTO := Lib.hid hOK
      have HRL : Hid (((List.range k).map (ptT (ts'.map Prod.fst)) ++ [ptT (ts'.map Prod.fst) k]).length = k + 1) := Lib.hid (by simp)
      have HMK : Hid (makeV (mkH size (ts'.map Prod.fst) k) 0 fm (fl : Int) = (mkH size (ts'.map Prod.fst) (k + 1), ptT (ts'.map Prod.fst) k, 0)) := Lib.hid (by
        have := make_step (size := size) hkt (by rw [htk]; exact hOK.fmt) (by rw [htk]; exact hOK.len) HSZ.out (by rw [HTL.out]; exact hn2)
        rw [htk, hfm, hfl] at this
        exact this)
      have HI0 : Hid (InI 0) := Lib.hid (show _ ∧ _ by omega)
      have HI1 : Hid (InI fm) := Lib.hid (show _ ∧ _ by omega)
      have HI2 : Hid (InI (fl : Int)) := Lib.hid (show _ ∧ _ by omega)
      clear hp hpm hp2 hpn hpl hpb hOK hcl hfm hfl htk hx2 hB2 hlg hbg hkl HB
      go_upto_region 5 with fail
      rw [← hW2]
      clear hW2 c0 c1 c2 c3
      go_wp2_with (first | (go_at_call 25; (with_reducible refine (make_any HB2.out.pm 0 fm (fl : Int) HI0.out HI1.out HI2.out).mono ?_); rw [HMK.out]; rintro e w5 ⟨rfl, hp5, ht5⟩; have HB5 := Lib.hid (HB2.out.deed hp5 ht5); have k5 := HB5.out.c; have kf5 := HB5.out.free; clear hp5 ht5) | (at_builtin; refine wpList_num rfl _ _ rfl (w.heap.size + 1) _ ((List.range k).map (ptT (ts'.map Prod.fst))) rfl ((HB5.out.alloc1 _).al) (B := w5.heap.size) (y := ptT (ts'.map Prod.fst) k) rfl (by simp [go_sem]) (by have := HKB.out; simp; omega) (by have := HB5.out.lt; simp; omega) ?_; intro v6 w6 hi6 hg6; obtain ⟨A6, c6, rfl, hc6, hn6, ha6, hm6, _⟩ := hi6.nums; rw [HRL.out] at hc6 hi6 ⊢; have HPU := (HB5.out.alloc1 _).push hi6 hg6; have HB6 := Lib.hid HPU.1; have k6 := HPU.2.1; have k7 := HPU.2.2; clear HPU hi6 hg6 hn6 ha6))
      go_roundw
      case rel => exact ⟨k + 1, A6, c6, by omega, by go_num, by rw [List.range_succ, List.map_append]; exact HB6.out⟩
      case measure => simp [intOf]; omega
    · have hkn : k = n := by omega
      have d1 : decide (k < n) = false := decide_eq_false hlt
      have d2 : decide ((k : Int) < (n : Int)) = false := decide_eq_false (by omega)
      have HB1 : Hid (BS w0 s bw bm w.heap.size (bH size (ts'.map Prod.fst) 0) (.slice PA n pc) (ptsT (ts'.map Prod.fst)) wr) := Lib.hid (by
        have := HB.out
        rw [bH_zero, HTL.out]
        unfold ptsT
        rw [HTL.out]
        rw [hkn] at this
        exact this)
      obtain ⟨W1, hW1⟩ : ∃ W1, W1 = wr := ⟨_, rfl⟩
      rw [← hW1] at HB1 ⊢
      clear HB hkn hlt hk HKB hW1 wr
      go_wp2_with fail
      go_loopw [48] (fun i wr => ∃ k : Nat, k ≤ n ∧ i = .int .i64 k ∧ BS w0 s bw bm w.heap.size (bH size (ts'.map Prod.fst) k) (.slice PA n pc) (ptsT (ts'.map Prod.fst)) wr) (fun i _ => n - (intOf i).toNat)
      case atStart => exact ⟨0, Nat.zero_le _, rfl, HB1.out⟩
      case round =>
        rename World => wo
        obtain ⟨k, hk, rfl, hbs⟩ := hrel
        have HB := Lib.hid hbs
        clear hbs HB1
        by_cases hlt : k < n
        · have d1 : decide (k < n) = true := decide_eq_true hlt
          have d2 : decide ((k : Int) < (n : Int)) = true := decide_eq_true (by omega)
          have g0 : (0 : Int) ≤ (k : Int) := by omega
          have g1 : (k : Int) < (n : Int) := by omega
          obtain ⟨g, hA, hbg, hlg, c0, c1, c2, c3⟩ := (HT.out.below HB.out.bl).at_ HN.out k (by rw [HN.out]; exact hlt)
          subst hA
          have hkl : k < ts'.length := by rw [HN.out]; exact hlt
          obtain ⟨p, hp⟩ : ∃ p, ts'[k] = p := ⟨_, rfl⟩
          have hpm : p ∈ ts' := by rw [← hp]; exact List.getElem_mem hkl
          rw [hp] at c0 c1 c2 c3
          obtain ⟨FA, fc, hp2, hpn, hpl, hpb⟩ := (HT.out.below HB.out.bl).2 p hpm
          rw [hp2] at c3
          have hOK := HOK.out p hpm
          obtain ⟨cl, hcl⟩ : ∃ cl, (p.1.cls : Int) = cl := ⟨_, rfl⟩
          obtain ⟨fm, hfm⟩ : ∃ fm, (p.1.fmt : Int) = fm := ⟨_, rfl⟩
          obtain ⟨fl, hfl⟩ : ∃ fl, p.1.F.length = fl := ⟨_, rfl⟩
          have hkt : k < (ts'.map Prod.fst).length := by rw [List.length_map]; exact hkl
          have htk : (ts'.map Prod.fst)[k] = p.1 := by rw [List.getElem_map, hp]
          rw [hcl] at c2
          rw [hfm] at c0
          rw [hfl] at c3 hpl
          obtain ⟨W2, hW2⟩ : ∃ W2, W2 = wo.alloc (.cells #[.int .i64 fm, .int .i64 p.1.hash, .int .i64 cl, .slice FA fl fc] 83) := ⟨_, rfl⟩
          have hB2 : Below wo.heap.size wo W2 := by rw [hW2]; exact (Below.refl _ _).alloc (Nat.le_refl _) _
          have hx2 : W2.heap[wo.heap.size]? = some (.cells #[.int .i64 fm, .int .i64 p.1.hash, .int .i64 cl, .slice FA fl fc] 83 (0, 0)) := by rw [hW2]; exact heap_alloc_new wo _
          have HX2 := Lib.hid hx2
          have t0 : W2.cell? ⟨wo.heap.size, 0, none⟩ = some (.int .i64 fm) := by simp [World.cell?, hx2]
          have t1 : W2.cell? ⟨wo.heap.size, 1, none⟩ = some (.int .i64 p.1.hash) := by simp [World.cell?, hx2]
          have t2 : W2.cell? ⟨wo.heap.size, 2, none⟩ = some (.int .i64 cl) := by simp [World.cell?, hx2]
          have t3 : W2.cell? ⟨wo.heap.size, 3, none⟩ = some (.slice FA fl fc) := by simp [World.cell?, hx2]
          have HB2 := Lib.hid (HB.out.below hB2)
          have HTK := Lib.hid htk
          have HPM := Lib.hid hpm
          have HFL := Lib.hid hfl
          have HFM := Lib.hid hfm
          have HCL := Lib.hid hcl
          have hfl256 : fl ≤ 256 := by rw [← hfl]; exact hOK.len
          have hfm2 : 0 ≤ fm ∧ fm ≤ 2 := by rw [← hfm]; have := hOK.fmt; omega
          have HTO := Lib.hid hOK
          have hpt : ∃ pg, PA = some ⟨pg, 0, none⟩ ∧ w.heap.size + 1 ≤ pg := by
            obtain ⟨A', c', e, _, hnm, hbs', _⟩ := HB.out.al.nums
            cases e
            obtain ⟨b, off, e2, _⟩ := hnm k (by rw [ptsT_len, HTL.out]; exact hlt)
            obtain ⟨q1, q2⟩ := hbs' b off e2
            subst q2
            exact ⟨b, e2, q1⟩
          obtain ⟨pg, hpg, hpge⟩ := hpt
          subst hpg
          have HNUM : Hid (∀ wi m', BS w0 s bw bm w.heap.size m' (.slice (some ⟨pg, 0, none⟩) n pc) (ptsT (ts'.map Prod.fst)) wi → Nums wi (some ⟨pg, 0, none⟩) (ptsT (ts'.map Prod.fst)) ∧ wi.cell? ⟨pg, k, none⟩ = some (.int .i64 (ptT (ts'.map Prod.fst) k))) := Lib.hid (fun wi m' hb => by
            obtain ⟨A', c', e, _, hnm, _⟩ := hb.al.nums
            cases e
            refine ⟨hnm, ?_⟩
            obtain ⟨b, off, e2, _, hc⟩ := hnm k (by rw [ptsT_len, HTL.out]; exact hlt)
            cases e2
            rw [ptsT_at, Nat.zero_add] at hc
            exact hc)
          have HWR : Hid (w.heap.size < wo.heap.size) := Lib.hid HB.out.lt
          have HXL : Hid (wo.heap.size < W2.heap.size) := Lib.hid (by rw [hW2]; simp)
          obtain ⟨o0, ho0⟩ : ∃ o0, o0 = rawO k p.1 := ⟨_, rfl⟩
          have hst0 : bH size (ts'.map Prod.fst) k = stH size (ts'.map Prod.fst) k o0 := by rw [bH_st hkt, htk, ho0]
          obtain ⟨cv, hcv⟩ : ∃ cv, realI (ts'.map Prod.fst) cl = cv := ⟨_, rfl⟩
          have ho0F : o0.F.length = (ts'.map Prod.fst)[k].F.length := by rw [ho0, htk]; simp [rawO, newO]
          have ho0f : o0.fmt = fm := by rw [ho0, ← hfm]; rfl
          have HSC : Hid (setClassV (stH size (ts'.map Prod.fst) k o0) (ptT (ts'.map Prod.fst) k) cv = (stH size (ts'.map Prod.fst) k ⟨cv, fm, o0.hash, o0.F⟩, 0)) := Lib.hid (by
            have hc := real_class (ts := (ts'.map Prod.fst)) (c := p.1.cls) (by rw [HTL.out]; exact hOK.cls) hOK.okc
            rw [hcl, hcv] at hc
            rw [st_class hkt ho0F hc, ho0f])
          have HSH : Hid (setHashV (stH size (ts'.map Prod.fst) k ⟨cv, fm, o0.hash, o0.F⟩) (ptT (ts'.map Prod.fst) k) p.1.hash = (stH size (ts'.map Prod.fst) k ⟨cv, fm, p.1.hash, o0.F⟩, 0)) := Lib.hid (st_hash (o := ⟨cv, fm, o0.hash, o0.F⟩) hkt ho0F hOK.hash)
          obtain ⟨G, hG⟩ : ∃ G, tF (ts'.map Prod.fst) p.1 = G := ⟨_, rfl⟩
          have hGl : G.length = fl := by rw [← hG, tF_len]; exact hfl
          have ho0G : o0.F = partF G 0 := by rw [partF_zero, hGl, ho0, ← hfl]; rfl
          have HEND : Hid (stH size (ts'.map Prod.fst) k ⟨cv, fm, p.1.hash, partF G fl⟩ = bH size (ts'.map Prod.fst) (k + 1)) := Lib.hid (by
            rw [← st_bH hkt, htk]
            unfold tOb
            rw [hcl, hcv, hfm, hG, ← hGl, partF_end])
          have HWC : Hid (wOk n cl) := Lib.hid (by rw [← hcl]; exact hOK.cls)
          have HPI : Hid (InI (ptT (ts'.map Prod.fst) k)) := Lib.hid (by
            have h1 := szT_take_le (ts'.map Prod.fst) k
            have h2 := HSZ.out
            have h3 := HSIZE.out
            unfold ptT; show _ ∧ _; omega)
          have HCVI : Hid (InI cv) := Lib.hid (by
            have hc := real_class (ts := (ts'.map Prod.fst)) (c := p.1.cls) (by rw [HTL.out]; exact hOK.cls) hOK.okc
            rw [hcl, hcv] at hc
            rcases hc with q | ⟨j, hj, q⟩
            · rw [q]; show _ ∧ _; omega
            · rw [q]
              have h1 := szT_take_le (ts'.map Prod.fst) j
              have h2 := HSZ.out
              have h3 := HSIZE.out
              unfold ptT; show _ ∧ _; omega)
          have HHI : Hid (InI p.1.hash) := Lib.hid (by have := hOK.hash; show _ ∧ _; omega)
          have HPUT : Hid (∀ (q : Nat) (x : Int), q < fl → G[q]? = some x → putV (stH size (ts'.map Prod.fst) k ⟨cv, fm, p.1.hash, partF G q⟩) (ptT (ts'.map Prod.fst) k) (q : Int) x = (stH size (ts'.map Prod.fst) k ⟨cv, fm, p.1.hash, partF G (q + 1)⟩, 0)) := Lib.hid (fun q x hq hx => by
            have hql : q < G.length := by omega
            rw [List.getElem?_eq_getElem hql] at hx
            cases hx
            have hlF : (partF G q).length = (ts'.map Prod.fst)[k].F.length := by rw [partF_len G (by omega), hGl, htk, hfl]
            rw [st_put hkt (o := ⟨cv, fm, p.1.hash, partF G q⟩) hlF (by rw [htk, hfl]; exact hq) ?_, ← partF_set hql]
            have hxm : G[q] ∈ tF (ts'.map Prod.fst) p.1 := by rw [hG]; exact List.getElem_mem hql
            unfold badW
            show ((fm == 0 && _) || (fm == 2 && _)) = false
            rcases (show fm = 0 ∨ fm = 1 ∨ fm = 2 by omega) with z | z | z
            · have hz : p.1.fmt = 0 := by omega
              unfold tF at hxm
              rw [if_pos hz] at hxm
              obtain ⟨y, hy, e⟩ := List.mem_map.1 hxm
              rw [z, ← e, real_may (st_len hkt hlF) (by rw [HTL.out]; exact hOK.wrd hz y hy)]
              rfl
            · rw [z]; rfl
            · have hz : p.1.fmt = 2 := by omega
              unfold tF at hxm
              rw [if_neg (by omega)] at hxm
              have := hOK.byt hz _ hxm
              rw [z, decide_eq_false (p := G[q] < 0) (by omega), decide_eq_false (p := 255 < G[q]) (by omega)]
              rfl)
          have HGE : Hid (∀ (q : Nat) (x : Int), p.1.F[q]? = some x → G[q]? = some (if fm = 0 then realI (ts'.map Prod.fst) x else x)) := Lib.hid (fun q x hx => by
            rw [← hG]
            unfold tF
            by_cases z : p.1.fmt = 0
            · rw [if_pos z, if_pos (by omega), List.getElem?_map, hx]; rfl
            · rw [if_neg z, if_neg (by omega), hx])
          have HGI : Hid (∀ (q : Nat) (x : Int), G[q]? = some x → InI x) := Lib.hid (fun q x hx => by
            have hxm : x ∈ tF (ts'.map Prod.fst) p.1 := by rw [hG]; exact List.mem_of_getElem? hx
            unfold tF at hxm
            rcases (show fm = 0 ∨ fm = 1 ∨ fm = 2 by omega) with z | z | z
            · have hz : p.1.fmt = 0 := by omega
              rw [if_pos hz] at hxm
              obtain ⟨y, hy, e⟩ := List.mem_map.1 hxm
              have hw := hOK.wrd hz y hy
              rw [← e]
              rcases real_cases (ts := (ts'.map Prod.fst)) (x := y) (by rw [HTL.out]; exact hw) with ⟨q1, q2⟩ | q1 | ⟨j, hj, q1⟩
              · rw [q1]; show _ ∧ _; omega
              · have := small_odd q1; show _ ∧ _; omega
              · rw [q1]
                have h1 := szT_take_le (ts'.map Prod.fst) j
                have h2 := HSZ.out
                have h3 := HSIZE.out
                unfold ptT; show _ ∧ _; omega
            · have hz : p.1.fmt = 1 := by omega
              rw [if_neg (by omega)] at hxm
              have := of_decide_eq_true (hOK.num hz x hxm)
              show _ ∧ _; omega
            · have hz : p.1.fmt = 2 := by omega
              rw [if_neg (by omega)] at hxm
              have := hOK.byt hz x hxm
              show _ ∧ _; omega)
          have HFW : Hid (fm = 0 → ∀ (q : Nat) (x : Int), p.1.F[q]? = some x → wOk n x) := Lib.hid (fun z q x hx => hOK.wrd (by omega) x (List.mem_of_getElem? hx))
          rw [hst0] at HB2
          have HCV := Lib.hid hcv
          have HG0 := Lib.hid ho0G
          have HGL := Lib.hid hGl
          have HPS := Lib.hid hp2
          have HBD := Lib.hid HB2.out.drew
          have HND := Lib.hid (HNUM.out _ _ HBD.out).1
          have s1 := HB2.out.c
          have s2 := (HNUM.out _ _ HB2.out).2
          have s1d := HBD.out.c
          clear hp hpm hp2 hpn hpl hpb hOK hcl hfm hfl htk hx2 hB2 hlg hbg hkl HB hst0 ho0 hcv ho0F ho0f hG hGl ho0G hpge
          go_upto_region 12 with fail
          rw [← hW2]
          clear hW2 c0 c1 c2 c3
          go_region_held3 (fun w' => w'.cell? ⟨w.heap.size, 0, none⟩ = some (.slice (some ⟨pg, 0, none⟩) n pc) ∧ w'.cell? ⟨pg, k, none⟩ = some (.int .i64 (ptT (ts'.map Prod.fst) k)) ∧ w'.cell? ⟨wo.heap.size, 2, none⟩ = some (.int .i64 cl)) (first | assumption | (exact ⟨s1, s2, s3⟩) | (refine ⟨?_, ?_, ?_⟩ <;> first | assumption | (simp [go_sem, *]; done)) | (simp [go_sem, *]; done)) (first | (go_at_call 86; (with_reducible refine (real_any s1d HND.out HTL.out cl HWC.out).mono ?_); rw [HCV.out]; rintro e w4 ⟨rfl, hw4⟩; replace hw4 := hw4.symm; subst hw4) | (go_at_call 28; (with_reducible refine (setClass_any HBD.out.pm (ptT (ts'.map Prod.fst) k) cv HCVI.out).mono ?_); rw [HSC.out]; rintro e w5 ⟨rfl, hp5, ht5⟩; have HBw5 := Lib.hid (HBD.out.deed hp5 ht5); have HXw5 : Hid (w5.heap[wo.heap.size]? = some (.cells #[.int .i64 fm, .int .i64 p.1.hash, .int .i64 cl, .slice FA fl fc] 83 (0, 0))) := Lib.hid ((ht5.block wo.heap.size (lt_of_block HX2.out) (fun q => by have := HBD.out.ne _ q; have := HWR.out; omega)).trans HX2.out); have s1 := HBw5.out.c; have s2 := (HNUM.out _ _ HBw5.out).2; have s3 : w5.cell? ⟨wo.heap.size, 2, none⟩ = some (.int .i64 cl) := (by simp [World.cell?, HXw5.out]); clear hp5 ht5))
          have HBE := Lib.hid HBw5.out.drew
          have t1 : w5.cell? ⟨wo.heap.size, 1, none⟩ = some (.int .i64 p.1.hash) := by simp [World.cell?, HXw5.out]
          clear HBD HND s1d HB2 t0 t2 t3 s3
          go_upto_region 13 with fail
          go_region_held3 (fun w' => w'.cell? ⟨w.heap.size, 0, none⟩ = some (.slice (some ⟨pg, 0, none⟩) n pc) ∧ w'.cell? ⟨pg, k, none⟩ = some (.int .i64 (ptT (ts'.map Prod.fst) k)) ∧ w'.cell? ⟨wo.heap.size, 1, none⟩ = some (.int .i64 p.1.hash)) (first | assumption | (exact ⟨s1, s2, s3⟩) | (refine ⟨?_, ?_, ?_⟩ <;> first | assumption | (simp [go_sem, *]; done)) | (simp [go_sem, *]; done)) (first | (go_at_call 87; (with_reducible refine (setHash_any HBE.out.pm (ptT (ts'.map Prod.fst) k) p.1.hash HHI.out).mono ?_); rw [HSH.out]; rintro e w6 ⟨rfl, hp5, ht5⟩; have HBw6 := Lib.hid (HBE.out.deed hp5 ht5); have HXw6 : Hid (w6.heap[wo.heap.size]? = some (.cells #[.int .i64 fm, .int .i64 p.1.hash, .int .i64 cl, .slice FA fl fc] 83 (0, 0))) := Lib.hid ((ht5.block wo.heap.size (lt_of_block HXw5.out) (fun q => by have := HBE.out.ne _ q; have := HWR.out; omega)).trans HXw5.out); have s1 := HBw6.out.c; have s2 := (HNUM.out _ _ HBw6.out).2; have s3 : w6.cell? ⟨wo.heap.size, 1, none⟩ = some (.int .i64 p.1.hash) := (by simp [World.cell?, HXw6.out]); clear hp5 ht5))
          clear HBE HBw5 t1 s1 s2 s3
          have t3 : w6.cell? ⟨wo.heap.size, 3, none⟩ = some (.slice FA fl fc) := by simp [World.cell?, HXw6.out]
          rw [HG0.out] at HBw6
          go_wp2_with fail
          go_loopw [74] (fun i wr => ∃ q : Nat, q ≤ fl ∧ i = .int .i64 q ∧ BS w0 s bw bm w.heap.size (stH size (ts'.map Prod.fst) k ⟨cv, fm, p.1.hash, partF G q⟩) (.slice (some ⟨pg, 0, none⟩) n pc) (ptsT (ts'.map Prod.fst)) wr ∧ wr.heap[wo.heap.size]? = some (.cells #[.int .i64 fm, .int .i64 p.1.hash, .int .i64 cl, .slice FA fl fc] 83 (0, 0))) (fun i _ => fl - (intOf i).toNat)
          case atStart => exact ⟨0, Nat.zero_le _, rfl, HBw6.out, HXw6.out⟩
          case round =>
            obtain ⟨q, hq, rfl, hbs, hxx⟩ := hrel
            have HBx := Lib.hid hbs
            have HXx := Lib.hid hxx
            have t0 : wr.cell? ⟨wo.heap.size, 0, none⟩ = some (.int .i64 fm) := by simp [World.cell?, hxx]
            have s1 := hbs.c
            have s2 := (HNUM.out _ _ hbs).2
            have HNx := Lib.hid (HNUM.out _ _ hbs).1
            by_cases hqlt : q < fl
            · have d3 : decide (q < fl) = true := decide_eq_true hqlt
              have d4 : decide ((q : Int) < (fl : Int)) = true := decide_eq_true (by omega)
              have q0 : (0 : Int) ≤ (q : Int) := by omega
              have q1 : (q : Int) < (fl : Int) := by omega
              obtain ⟨FA', fc', e2, hpn, _, hpb⟩ := (HT.out.below hbs.bl).2 p HPM.out
              rw [HPS.out] at e2
              cases e2
              have hqF : q < p.1.F.length := by rw [HFL.out]; exact hqlt
              obtain ⟨bf, of_, hFA, hlf, hcf⟩ := hpn q hqF
              subst hFA
              obtain ⟨x, hx⟩ : ∃ x, p.1.F[q] = x := ⟨_, rfl⟩
              have hx? : p.1.F[q]? = some x := by rw [List.getElem?_eq_getElem hqF, hx]
              rw [hx] at hcf
              have hge := HGE.out q x hx?
              have HQI : Hid (InI (q : Int)) := Lib.hid (show _ ∧ _ by omega)
              by_cases hf0 : fm = 0
              · have e0 : decide (fm = 0) = true := decide_eq_true hf0
                have e0' : (fm == 0) = true := by simpa using hf0
                rw [if_pos hf0] at hge
                have HWX : Hid (wOk n x) := Lib.hid (HFW.out hf0 q x hx?)
                obtain ⟨y, hy⟩ : ∃ y, realI (ts'.map Prod.fst) x = y := ⟨_, rfl⟩
                rw [hy] at hge
                have HY := Lib.hid hy
                have HPQ := Lib.hid (HPUT.out q y hqlt hge)
                have HYI := Lib.hid (HGI.out q y hge)
                clear hbs hxx hpn hpb hlf hx hx? hge hy hf0
                go_wp2_with (first | (go_at_call 86; (with_reducible refine (real_any s1 HNx.out HTL.out x HWX.out).mono ?_); rw [HY.out]; rintro e w4 ⟨rfl, hw4⟩; replace hw4 := hw4.symm; subst hw4) | (go_at_call 30; (with_reducible refine (put_any HBx.out.pm (ptT (ts'.map Prod.fst) k) (q : Int) y HQI.out HYI.out).mono ?_); rw [HPQ.out]; rintro e w7 ⟨rfl, hp7, ht7⟩; have HB7 := Lib.hid (HBx.out.deed hp7 ht7); have HX7 : Hid (w7.heap[wo.heap.size]? = some (.cells #[.int .i64 fm, .int .i64 p.1.hash, .int .i64 cl, .slice (some ⟨bf, of_, none⟩) fl fc] 83 (0, 0))) := Lib.hid ((ht7.block wo.heap.size (lt_of_block HXx.out) (fun z => by have := HBx.out.ne _ z; have := HWR.out; omega)).trans HXx.out); clear hp7 ht7))
                go_roundw
                case rel => exact ⟨q + 1, by omega, by go_num, HB7.out, HX7.out⟩
                case measure => simp [intOf]; omega
              · have e0 : decide (fm = 0) = false := decide_eq_false hf0
                have e0' : (fm == 0) = false := by simpa using hf0
                rw [if_neg hf0] at hge
                have HPQ := Lib.hid (HPUT.out q x hqlt hge)
                have HYI := Lib.hid (HGI.out q x hge)
                clear hbs hxx hpn hpb hlf hx hx? hge
                go_wp2_with (first | (go_at_call 30; (with_reducible refine (put_any HBx.out.pm (ptT (ts'.map Prod.fst) k) (q : Int) x HQI.out HYI.out).mono ?_); rw [HPQ.out]; rintro e w7 ⟨rfl, hp7, ht7⟩; have HB7 := Lib.hid (HBx.out.deed hp7 ht7); have HX7 : Hid (w7.heap[wo.heap.size]? = some (.cells #[.int .i64 fm, .int .i64 p.1.hash, .int .i64 cl, .slice (some ⟨bf, of_, none⟩) fl fc] 83 (0, 0))) := Lib.hid ((ht7.block wo.heap.size (lt_of_block HXx.out) (fun z => by have := HBx.out.ne _ z; have := HWR.out; omega)).trans HXx.out); clear hp7 ht7))
                go_roundw
                case rel => exact ⟨q + 1, by omega, by go_num, HB7.out, HX7.out⟩
                case measure => simp [intOf]; omega
            · have hqn : q = fl := by omega
              have d3 : decide (q < fl) = false := decide_eq_false hqlt
              have d4 : decide ((q : Int) < (fl : Int)) = false := decide_eq_false (by omega)
              rw [hqn, HEND.out] at HBx
              clear hbs hxx hqn
              go_wp2_with fail
              go_roundw
              case rel => exact ⟨k + 1, by omega, by go_num, HBx.out⟩
              case measure => simp [intOf]; omega
        · have hkn : k = n := by omega
          have d1 : decide (k < n) = false := decide_eq_false hlt
          have d2 : decide ((k : Int) < (n : Int)) = false := decide_eq_false (by omega)
          have HB3 : Hid (BS w0 s bw bm w.heap.size ⟨size, n, bldL (ts'.map Prod.fst)⟩ (.slice PA n pc) (ptsT (ts'.map Prod.fst)) wo) := Lib.hid (by
            have h1 := HB.out
            have h2 := bH_end size (ts'.map Prod.fst)
            rw [HTL.out] at h2
            rw [hkn, h2] at h1
            exact h1)
          have HSM : Hid (setMadeV ⟨size, n, bldL (ts'.map Prod.fst)⟩ (made : Int) = (⟨size, made, bldL (ts'.map Prod.fst)⟩, 0)) := Lib.hid (by
            unfold setMadeV
            rw [if_neg (by show ¬ ((made : Int) < (n : Int) ∨ _); omega)]
            rfl)
          have HMI : Hid (InI (made : Int)) := Lib.hid (show _ ∧ _ by omega)
          clear HB hkn hlt hk
          go_wp2_with (first | (go_at_call 88; (with_reducible refine (setMade_any HB3.out.pm (made : Int) HMI.out).mono ?_); rw [HSM.out]; rintro e w8 ⟨rfl, hp8, ht8⟩; have HB8 := Lib.hid (HB3.out.deed hp8 ht8); clear hp8 ht8))
          have HSB : Hid (∀ wi, Below w8.heap.size w8 wi → BS w0 s bw bm w.heap.size ⟨size, made, bldL (ts'.map Prod.fst)⟩ (.slice PA n pc) (ptsT (ts'.map Prod.fst)) wi) := Lib.hid (fun wi hb => HB8.out.below hb)
          have HL8 : Hid (w.heap.size ≤ w8.heap.size) := Lib.hid (by have := HB8.out.lt; omega)
          go_loopw [21, 100] (fun u i wr => ∃ j : Nat, j ≤ kr ∧ i = .int .i64 j ∧ Ints wr w8.heap.size u ((ws.take j).map (realI (ts'.map Prod.fst))) ∧ Below w8.heap.size w8 wr) (fun _ i _ => kr - (intOf i).toNat)
          case atStart => exact ⟨0, Nat.zero_le _, rfl, Ints.nil0 _ _, Below.refl _ _⟩
          case round =>
            obtain ⟨j, hj, rfl, hin, hbw⟩ := hrel
            have HIN := Lib.hid hin
            have HBW := Lib.hid hbw
            have HBJ := Lib.hid (HSB.out _ hbw)
            have s1 := HBJ.out.c
            by_cases hjl : j < kr
            · have d3 : decide (j < kr) = true := decide_eq_true hjl
              have d4 : decide ((j : Int) < (kr : Int)) = true := decide_eq_true (by omega)
              have q0 : (0 : Int) ≤ (j : Int) := by omega
              have q1 : (j : Int) < (kr : Int) := by omega
              have hjw : j < ws.length := by rw [HK.out]; exact hjl
              obtain ⟨bf, of_, hBA, hlf, hcf⟩ := (HW.out.below HBJ.out.bl) j hjw
              subst hBA
              obtain ⟨x, hx⟩ : ∃ x, ws[j] = x := ⟨_, rfl⟩
              rw [hx] at hcf
              have HWX : Hid (wOk n x) := Lib.hid (HWO.out x (by rw [← hx]; exact List.getElem_mem hjw))
              obtain ⟨y, hy⟩ : ∃ y, realI (ts'.map Prod.fst) x = y := ⟨_, rfl⟩
              have HY := Lib.hid hy
              have HNj : Hid (Nums wr PA (ptsT (ts'.map Prod.fst))) := Lib.hid (by obtain ⟨A', c', e, _, hnm, _⟩ := HBJ.out.al.nums; cases e; exact hnm)
              have HML : Hid ((ws.take (j + 1)).map (realI (ts'.map Prod.fst)) = (ws.take j).map (realI (ts'.map Prod.fst)) ++ [y]) := Lib.hid (by rw [take_snoc hjw, List.map_append, hx, ← hy]; rfl)
              clear hin hbw hlf hx hy
              go_wp2_with (first | (go_at_call 86; (with_reducible refine (real_any s1 HNj.out HTL.out x HWX.out).mono ?_); rw [HY.out]; rintro e w4 ⟨rfl, hw4⟩; replace hw4 := hw4.symm; subst hw4) | (at_builtin; refine wpList_num rfl _ _ rfl w8.heap.size _ ((ws.take j).map (realI (ts'.map Prod.fst))) rfl (HIN.out.below1 _) (B := wr.heap.size) (y := y) rfl (by simp [go_sem]) (by simp; omega) (Nat.le_trans HBW.out.size (by simp)) ?_; intro v6 w6 hi6 hg6; have HI6 := Lib.hid hi6; have HB6 : Hid (Below w8.heap.size w8 w6) := Lib.hid (below_grownB (HBW.out.alloc HBW.out.size _) hg6 (fun q hq => (World.ownsRow.lt HIN.out q hq).1) (Nat.le_refl _)); clear hi6 hg6))
              go_roundw
              case rel => exact ⟨j + 1, by omega, by go_num, by rw [HML.out]; exact HI6.out, HB6.out⟩
              case measure => simp [intOf]; omega
            · have hjn : j = kr := by omega
              have d3 : decide (j < kr) = false := decide_eq_false hjl
              have d4 : decide ((j : Int) < (kr : Int)) = false := decide_eq_false (by omega)
              have HE : Hid (ws.take j = ws) := Lib.hid (List.take_of_length_le (by rw [HK.out]; omega))
              clear hin hbw hjn
              go_wp2_with fail
              go_returns
              exact ⟨_, rfl, by rw [← HE.out]; exact HIN.out.base_ HL8.out, HBJ.out.pm, HBJ.out.bl⟩
end Go.Proofs.Ytfinpgkehjbcpaa
