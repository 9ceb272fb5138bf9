/- Chapter 02: an object more: plain words, and the program's memory behind it. -/
import Derived.Test.YtfinpgkehjbcpaaHD0
import Derived.BigRegion
import Derived.Lib.SliceRun
namespace Go.Proofs.Ytfinpgkehjbcpaa
open Go.ChangeShapes Go.WideShapes Go.ChangeAt Go.RowKit Go.Deep Go.Joins Go.Maps
set_option linter.unusedVariables false
set_option linter.unusedSimpArgs false

def newO (c f h : Int) (n : Nat) : Ob := ⟨c, f, h, List.replicate n 0⟩
def badM (m : Hp) (c f n : Int) : Bool := !(decide (c = 0) || isV m.L c) || decide (f < 0) || decide (2 < f) || decide (n < 0) || decide (256 < n)
def fullM (m : Hp) (n : Int) : Bool := decide ((m.size : Int) - (adr m.L m.L.length : Int) < n + 3) || decide (1099511627776 ≤ (m.made : Int))
/-- what Make comes to: the memory, the pointer, the error's number -/
def makeV (m : Hp) (c f n : Int) : Hp × Int × Int := if badM m c f n then (m, 0, 1) else if fullM m n then (m, 0, 4) else ({ m with made := m.made + 1, L := m.L ++ [newO c f ((m.made : Int) + 1) n.toNat] }, ptr m.L m.L.length, 0)
/-- a list, written over from a place on -/
def spl : List Int → Nat → List Int → List Int
  | ys, _, [] => ys
  | ys, o, z :: zs => spl (ys.set o z) (o + 1) zs
theorem spl_mid : ∀ (zs mid pre post : List Int), mid.length = zs.length → spl (pre ++ (mid ++ post)) pre.length zs = pre ++ (zs ++ post)
  | [], mid, pre, post, h => by
    have : mid = [] := List.eq_nil_of_length_eq_zero h
    subst this; rfl
  | z :: zs, [], pre, post, h => by simp at h
  | z :: zs, a :: mid, pre, post, h => by
    have ih := spl_mid zs mid (pre ++ [z]) post (by simpa using h)
    unfold spl
    have e : (pre ++ (a :: mid ++ post)).set pre.length z = (pre ++ [z]) ++ (mid ++ post) := by
      rw [List.set_append_right _ _ (Nat.le_refl _)]; simp
    rw [e]
    have hl : (pre ++ [z]).length = pre.length + 1 := by simp
    rw [hl] at ih
    rw [ih]; simp
theorem spl_len : ∀ (zs ys : List Int) (o : Nat), (spl ys o zs).length = ys.length
  | [], ys, o => rfl
  | z :: zs, ys, o => by unfold spl; rw [spl_len zs]; simp
/-- the words, with one object more -/
theorem words_make {L : List Ob} {ys : List Int} (h : Words L ys) {c f hh : Int} {n : Nat} (hl : 3 + szs L + n + 3 ≤ ys.length) :
    Words (L ++ [newO c f hh n]) (spl (((ys.set (3 + szs L) (4 * (n : Int) + f)).set (3 + szs L + 1) c).set (3 + szs L + 2) hh) (3 + szs L + 3) (List.replicate n 0)) := by
  obtain ⟨rest, rfl⟩ := h
  obtain ⟨pre, hpre⟩ : ∃ pre, [0, 0, 0] ++ encL L = pre := ⟨_, rfl⟩
  have hpl : pre.length = 3 + szs L := by rw [← hpre, List.length_append, encL_len]; simp
  rw [hpre] at hl ⊢
  rw [List.length_append, hpl] at hl
  match rest, hl with
  | r0 :: r1 :: r2 :: r, hl =>
    have hr : n ≤ r.length := by simp only [List.length_cons] at hl; omega
    have e1 : (((pre ++ (r0 :: r1 :: r2 :: r)).set (3 + szs L) (4 * (n : Int) + f)).set (3 + szs L + 1) c).set (3 + szs L + 2) hh = (pre ++ [4 * (n : Int) + f, c, hh]) ++ (r.take n ++ r.drop n) := by
      rw [← hpl, List.set_append_right _ _ (Nat.le_refl _), List.set_append_right _ _ (by omega), List.set_append_right _ _ (by omega)]
      rw [Nat.sub_self, show pre.length + 1 - pre.length = 1 by omega, show pre.length + 2 - pre.length = 2 by omega, List.take_append_drop]
      simp
    rw [e1]
    have hlen : (pre ++ [4 * (n : Int) + f, c, hh]).length = 3 + szs L + 3 := by simp [hpl]
    rw [← hlen, spl_mid _ _ _ _ (by simp; omega)]
    refine ⟨r.drop n, ?_⟩
    rw [encL_app, ← List.append_assoc [0, 0, 0], hpre]
    simp [encL, encO, newO]
  | [], hl => exact absurd hl (by simp; omega)
  | [_], hl => exact absurd hl (by simp; omega)
  | [_, _], hl => exact absurd hl (by simp; omega)
theorem ints_set {w : World} {b o : Nat} {ys : List Int} (h : w.heap[b]? = some (.cells (ys.map (Value.int .i64)).toArray 3 (0, 0))) (x : Int) : (w.setCell ⟨b, o, none⟩ (.int .i64 x)).heap[b]? = some (.cells ((ys.set o x).map (Value.int .i64)).toArray 3 (0, 0)) := by
  rw [heap_setCell_same w b o _ _ _ h, List.map_set]
  simp
theorem ints_setCells : ∀ (zs : List Int) (w : World) (b o : Nat) (ys : List Int), w.heap[b]? = some (.cells (ys.map (Value.int .i64)).toArray 3 (0, 0)) → (w.setCells b o (zs.map (Value.int .i64))).heap[b]? = some (.cells ((spl ys o zs).map (Value.int .i64)).toArray 3 (0, 0))
  | [], w, b, o, ys, h => h
  | z :: zs, w, b, o, ys, h => ints_setCells zs _ b (o + 1) _ (ints_set h z)
theorem setCells_other : ∀ (vs : List Value) (w : World) (b o k : Nat), k ≠ b → (w.setCells b o vs).heap[k]? = w.heap[k]?
  | [], w, b, o, k, h => rfl
  | v :: vs, w, b, o, k, h => (setCells_other vs _ b (o + 1) k h).trans (Below.heap_setCell _ _ _ _ h)

theorem good_make {m : Hp} (h : Good m) {c f n : Int} (hc : InI c) (hb : badM m c f n = false) (hf : fullM m n = false) : Good (makeV m c f n).1 ∧ 3 + szs m.L + n.toNat + 3 ≤ m.size ∧ 0 ≤ n ∧ n ≤ 256 ∧ 0 ≤ f ∧ f ≤ 2 ∧ m.made + 1 ≤ 1099511627776 := by
  unfold badM at hb
  unfold fullM at hf
  simp only [Bool.or_eq_false_iff, Bool.not_eq_false', decide_eq_false_iff_not] at hb hf
  have he := adr_end m.L
  obtain ⟨⟨⟨⟨b1, b2⟩, b3⟩, b4⟩, b5⟩ := hb
  obtain ⟨f1, f2⟩ := hf
  have h1 : 3 + szs m.L + n.toNat + 3 ≤ m.size := by omega
  refine ⟨?_, h1, by omega, by omega, by omega, by omega, by omega⟩
  unfold makeV
  have hb' : badM m c f n = false := by
    unfold badM
    simp only [Bool.or_eq_false_iff, Bool.not_eq_false', decide_eq_false_iff_not]
    exact ⟨⟨⟨⟨b1, b2⟩, b3⟩, b4⟩, b5⟩
  have hf' : fullM m n = false := by
    unfold fullM
    simp only [Bool.or_eq_false_iff, decide_eq_false_iff_not]
    exact ⟨f1, f2⟩
  rw [hb', hf']
  simp only [Bool.false_eq_true, if_false]
  refine ⟨h.lo, h.hi, by show m.made + 1 ≤ _; omega, ?_, fun o ho => ?_, fun o ho => ?_, fun o ho => ?_⟩
  · show 3 + szs (m.L ++ [newO c f ((m.made : Int) + 1) n.toNat]) ≤ m.size
    rw [szs_app]; simp [szs, newO]; omega
  · rcases List.mem_append.1 ho with q | q
    · exact h.fmt o q
    · rw [List.mem_singleton.1 q]; exact ⟨by show 0 ≤ f; omega, by show f ≤ 2; omega⟩
  · rcases List.mem_append.1 ho with q | q
    · exact h.len o q
    · rw [List.mem_singleton.1 q]; simp [newO]; omega
  · rcases List.mem_append.1 ho with q | q
    · exact h.word o q
    · rw [List.mem_singleton.1 q]
      refine ⟨hc, ⟨by show _ ≤ (m.made : Int) + 1; omega, by show (m.made : Int) + 1 ≤ _; omega⟩, fun x hx => ?_⟩
      have : x = 0 := by simpa [newO] using (List.mem_replicate.1 hx).2
      subst this; decide

theorem PM.made {w w' : World} {s bw bm : Nat} {m : Hp} (h : PM w s bw bm m) {c f n : Int} (hc : InI c) (hb : badM m c f n = false) (hf : fullM m n = false) {ys : List Int} (y1 : ys.length = m.size) (y2 : Words m.L ys)
    (hbox : w'.heap[s]? = some (.cells #[.slice (some ⟨bw, 0, none⟩) m.size m.size, .int .i64 ((adr m.L m.L.length : Int) + (n + 3)), .int .i64 ((m.made : Int) + 1), .map (some bm)] 96 (0, 0)))
    (hrow : w'.heap[bw]? = some (.cells ((spl (((ys.set (3 + szs m.L) (4 * (n.toNat : Int) + f)).set (3 + szs m.L + 1) c).set (3 + szs m.L + 2) ((m.made : Int) + 1)) (3 + szs m.L + 3) (List.replicate n.toNat 0)).map (Value.int .i64)).toArray 3 (0, 0)))
    {k : Nat} {g : Int → Bool} (hk : k ≤ m.L.length) (hg : ∀ a, InI a → (g a = true ↔ ∃ i, i < m.L.length ∧ (adr m.L i : Int) = a)) (hmap : BoolMap w' bm (k + 1) (fun a => if a = (adr m.L m.L.length : Int) then true else g a)) :
    PM w' s bw bm (makeV m c f n).1 := by
  obtain ⟨g1, g2, g3, g4, g5, g6, g7⟩ := good_make h.good hc hb hf
  have hv : (makeV m c f n).1 = { m with made := m.made + 1, L := m.L ++ [newO c f ((m.made : Int) + 1) n.toNat] } := by unfold makeV; rw [hb, hf]; rfl
  rw [hv] at g1 ⊢
  have he := adr_end m.L
  have hlen : (m.L ++ [newO c f ((m.made : Int) + 1) n.toNat]).length = m.L.length + 1 := by simp
  have hend : (adr (m.L ++ [newO c f ((m.made : Int) + 1) n.toNat]) (m.L.length + 1) : Int) = (adr m.L m.L.length : Int) + (n + 3) := by
    rw [← hlen, adr_end, szs_app, he]; simp [szs, newO]; omega
  refine ⟨g1, ?_, ⟨_, ?_, words_make y2 (by omega), hrow⟩, k + 1, _, ?_, hmap, fun a ha => ?_⟩
  · rw [hbox]
    show some (Obj.cells #[_, _, .int .i64 ((m.made : Int) + 1), _] _ _) = some (Obj.cells #[_, .int .i64 (adr (m.L ++ [newO c f ((m.made : Int) + 1) n.toNat]) (m.L ++ [newO c f ((m.made : Int) + 1) n.toNat]).length : Int), .int .i64 ((m.made + 1 : Nat) : Int), _] _ _)
    rw [hlen, hend, Int.natCast_add]; rfl
  · rw [spl_len]; simpa using y1
  · rw [hlen]; omega
  · show (if a = (adr m.L m.L.length : Int) then true else g a) = true ↔ ∃ i, i < (m.L ++ [newO c f ((m.made : Int) + 1) n.toNat]).length ∧ (adr (m.L ++ [newO c f ((m.made : Int) + 1) n.toNat]) i : Int) = a
    rw [hlen]
    by_cases e : a = (adr m.L m.L.length : Int)
    · rw [if_pos e]
      exact ⟨fun _ => ⟨m.L.length, by omega, by rw [adr_app _ _ _ (Nat.le_refl _)]; exact e.symm⟩, fun _ => rfl⟩
    · rw [if_neg e, hg a ha]
      constructor
      · rintro ⟨i, hi, h2⟩
        exact ⟨i, by omega, by rw [adr_app _ _ _ (by omega)]; exact h2⟩
      · rintro ⟨i, hi, h2⟩
        rcases Nat.lt_or_ge i m.L.length with q | q
        · exact ⟨i, q, by rw [adr_app _ _ _ (by omega)] at h2; exact h2⟩
        · obtain rfl : i = m.L.length := by omega
          rw [adr_app _ _ _ (Nat.le_refl _)] at h2
          exact absurd h2.symm e
end Go.Proofs.Ytfinpgkehjbcpaa
/- Chapter 02: the contract of the program's Make. -/
namespace Go.Proofs.Ytfinpgkehjbcpaa
open Go.ChangeShapes Go.WideShapes Go.ChangeAt Go.RowKit Go.Deep Go.Joins Go.Maps
set_option linter.unusedVariables false
set_option linter.unusedSimpArgs false

theorem Turns.grown {S : Nat → Prop} {w w' w'' : World} (h : Turns S w w') {b : Nat} (hg : w'.grownBy w'' (some b)) (hb : S b) : Turns S w w'' := ⟨hg.os.trans h.os, hg.tape.trans h.tape, hg.output.trans h.output, Nat.le_trans h.size hg.size, fun k hk hs => (hg.block k (Nat.lt_of_lt_of_le hk h.size) (fun e => hs (by cases e; exact hb))).trans (h.block k hk hs)⟩
theorem Turns.setCells {S : Nat → Prop} : ∀ (vs : List Value) {w w' : World} (h : Turns S w w') (b o : Nat), S b → Turns S w (w'.setCells b o vs)
  | [], w, w', h, b, o, hb => h
  | v :: vs, w, w', h, b, o, hb => Turns.setCells vs (h.setCell ⟨b, o, none⟩ v hb) b (o + 1) hb
theorem clear_none (w : World) (ty : TypeId) (a : Option Addr) (c : Nat) : (Builtin.clear_ #[23] ty #[.slice a 0 c]).run Try.prog w = .ok (.tuple #[]) w := by
  cases a <;> simp [Builtin.clear_, run_underlying Try.underlying23, zeroI, Builtin.zeroCells]
theorem slice_ints (lo nn bw sz : Nat) (h : lo + nn ≤ sz) : ∃ (c5 : Nat) (A5 : Option Addr), ∀ w : World, (Instr.slice 23 (.slice (some ⟨bw, 0, none⟩) sz sz) (some (.int .i64 ((lo : Nat) : Int))) (some (.int .i64 (((lo : Nat) : Int) + (nn : Int)))) none).run Try.prog w = .ok (.slice A5 nn c5) w ∧ (lo < sz → A5 = some ⟨bw, lo, none⟩) := by
  refine ⟨sz - lo, if sz = lo then some ⟨bw, 0, none⟩ else some ⟨bw, lo, none⟩, fun w => ⟨?_, fun hl => by rw [if_neg (by omega)]⟩⟩
  rw [run_slice_lh w 23 _ sz sz Try.underlying23 .i64 .i64 _ _ (by omega) (by omega) (by omega)]
  have hs : (sizeOf (Try.prog.elem 23)).run Try.prog w = .ok 1 w := by kernel_rfl
  rw [hs]
  simp only [Result.andThen, sliced, Int.toNat_natCast]
  rw [show (((lo : Nat) : Int) + (nn : Int)).toNat = lo + nn by omega]
  by_cases e : sz = lo
  · rw [if_pos e, if_pos e, Nat.add_sub_cancel_left]
  · rw [if_neg e, if_neg e, Nat.add_sub_cancel_left]
    simp [Addr.add]; exact fun h => h.symm
theorem or_4 (nn : Nat) (f : Int) (h : nn ≤ 256) (h0 : 0 ≤ f) (h2 : f ≤ 2) : bits .or .i64 ((nn : Int) * 4) f = 4 * (nn : Int) + f := by
  rw [or_nat]
  have e : ((nn : Int) * 4 % 18446744073709551616).toNat ||| (f % 18446744073709551616).toNat = ((nn : Int) * 4 % 18446744073709551616).toNat + (f % 18446744073709551616).toNat := nat_join 2 _ _ (by omega) (by omega)
  rw [e, IntKind.wrap_i64]
  omega

set_option maxRecDepth 1000000 in
set_option maxHeartbeats 16000000 in
theorem make_any {w : World} {s bw bm : Nat} {m : Hp} (h : PM w s bw bm m) (c f n : Int) (hc : InI c) (hff : InI f) (hn : InI n) : Calls Try.prog 25 #[.pointer (some ⟨s, 0, none⟩), .int .i64 c, .int .i64 f, .int .i64 n] w (fun e w' => e = .returned (.tuple #[.int .i64 (makeV m c f n).2.1, .int .i64 (makeV m c f n).2.2]) ∧ PM w' s bw bm (makeV m c f n).1 ∧ Turns (pset s bw bm) w w') := by
  have H := Lib.hid h
  obtain ⟨t, ht⟩ : ∃ t, adr m.L m.L.length = t := ⟨_, rfl⟩
  have HT := Lib.hid ht
  have c2 := h.c2
  cases hcl : (decide (c = 0) || isV m.L c)
  · have HC := Lib.hid hcl
    skip
    have HV : Hid (makeV m c f n = (m, 0, 1)) := by show _ = _; unfold makeV; rw [if_pos (by unfold badM; rw [hcl]; simp [*])]
    rw [HV.out]
    clear h hcl hc hn hff ht
    go_enter Try.func25, Try.ntmps25
    go_wp2_with (first | (go_at_call 62; (with_reducible refine (mayClass_any H.out c).mono ?_); rw [HC.out]; rintro e w1 ⟨rfl, n1, rfl⟩) | (go_at_call 63; (with_reducible refine (room_any (H.out.drewN _)).mono ?_); rw [HT.out]; rintro e w2 ⟨rfl, n2, rfl⟩))
    go_ret2
    exact ⟨rfl, H.out.drewN _, (Turns.refl _ _).drewN _⟩
  have HC := Lib.hid hcl
  by_cases q0 : f < 0
  · have d0 : decide (f < 0) = true := decide_eq_true q0
    skip
    have HV : Hid (makeV m c f n = (m, 0, 1)) := by show _ = _; unfold makeV; rw [if_pos (by unfold badM; rw [hcl]; simp [*])]
    rw [HV.out]
    clear h hcl hc hn hff ht
    go_enter Try.func25, Try.ntmps25
    go_wp2_with (first | (go_at_call 62; (with_reducible refine (mayClass_any H.out c).mono ?_); rw [HC.out]; rintro e w1 ⟨rfl, n1, rfl⟩) | (go_at_call 63; (with_reducible refine (room_any (H.out.drewN _)).mono ?_); rw [HT.out]; rintro e w2 ⟨rfl, n2, rfl⟩))
    go_ret2
    exact ⟨rfl, H.out.drewN _, (Turns.refl _ _).drewN _⟩
  have d0 : decide (f < 0) = false := decide_eq_false q0
  by_cases q1 : 2 < f
  · have d1 : decide (2 < f) = true := decide_eq_true q1
    skip
    have HV : Hid (makeV m c f n = (m, 0, 1)) := by show _ = _; unfold makeV; rw [if_pos (by unfold badM; rw [hcl]; simp [*])]
    rw [HV.out]
    clear h hcl hc hn hff ht
    go_enter Try.func25, Try.ntmps25
    go_wp2_with (first | (go_at_call 62; (with_reducible refine (mayClass_any H.out c).mono ?_); rw [HC.out]; rintro e w1 ⟨rfl, n1, rfl⟩) | (go_at_call 63; (with_reducible refine (room_any (H.out.drewN _)).mono ?_); rw [HT.out]; rintro e w2 ⟨rfl, n2, rfl⟩))
    go_ret2
    exact ⟨rfl, H.out.drewN _, (Turns.refl _ _).drewN _⟩
  have d1 : decide (2 < f) = false := decide_eq_false q1
  by_cases q2 : n < 0
  · have d2 : decide (n < 0) = true := decide_eq_true q2
    skip
    have HV : Hid (makeV m c f n = (m, 0, 1)) := by show _ = _; unfold makeV; rw [if_pos (by unfold badM; rw [hcl]; simp [*])]
    rw [HV.out]
    clear h hcl hc hn hff ht
    go_enter Try.func25, Try.ntmps25
    go_wp2_with (first | (go_at_call 62; (with_reducible refine (mayClass_any H.out c).mono ?_); rw [HC.out]; rintro e w1 ⟨rfl, n1, rfl⟩) | (go_at_call 63; (with_reducible refine (room_any (H.out.drewN _)).mono ?_); rw [HT.out]; rintro e w2 ⟨rfl, n2, rfl⟩))
    go_ret2
    exact ⟨rfl, H.out.drewN _, (Turns.refl _ _).drewN _⟩
  have d2 : decide (n < 0) = false := decide_eq_false q2
  by_cases q3 : 256 < n
  · have d3 : decide (256 < n) = true := decide_eq_true q3
    skip
    have HV : Hid (makeV m c f n = (m, 0, 1)) := by show _ = _; unfold makeV; rw [if_pos (by unfold badM; rw [hcl]; simp [*])]
    rw [HV.out]
    clear h hcl hc hn hff ht
    go_enter Try.func25, Try.ntmps25
    go_wp2_with (first | (go_at_call 62; (with_reducible refine (mayClass_any H.out c).mono ?_); rw [HC.out]; rintro e w1 ⟨rfl, n1, rfl⟩) | (go_at_call 63; (with_reducible refine (room_any (H.out.drewN _)).mono ?_); rw [HT.out]; rintro e w2 ⟨rfl, n2, rfl⟩))
    go_ret2
    exact ⟨rfl, H.out.drewN _, (Turns.refl _ _).drewN _⟩
  have d3 : decide (256 < n) = false := decide_eq_false q3
  have hb : badM m c f n = false := by unfold badM; rw [hcl, d0, d1, d2, d3]; rfl
  have hsz := h.good.hi
  have htb := adr_bd h.good m.L.length
  rw [ht] at htb
  obtain ⟨R, hR⟩ : ∃ R : Int, (m.size : Int) - (t : Int) = R := ⟨_, rfl⟩
  have HR := Lib.hid hR
  have HRM : Hid (∀ k, Calls Try.prog 63 #[.pointer (some ⟨s, 0, none⟩)] (w.drewN k) fun e w' => e = .returned (.int .i64 R) ∧ ∃ n, w' = (w.drewN k).drewN n) := fun k => by have := room_any (h.drewN k); rw [ht, hR] at this; exact this
  by_cases q4 : R < n + 3
  · have d4 : decide (R < n + 3) = true := decide_eq_true q4
    have HV : Hid (makeV m c f n = (m, 0, 4)) := by show _ = _; unfold makeV; rw [hb, if_neg (by simp), if_pos (by unfold fullM; rw [ht, hR, d4]; rfl)]
    rw [HV.out]
    clear h hcl hc hn hff ht hR hb htb
    go_enter Try.func25, Try.ntmps25
    go_wp2_with (first | (go_at_call 62; (with_reducible refine (mayClass_any H.out c).mono ?_); rw [HC.out]; rintro e w1 ⟨rfl, n1, rfl⟩) | (go_at_call 63; (with_reducible refine (HRM.out _).mono ?_); rintro e w2 ⟨rfl, n2, rfl⟩))
    go_ret2
    exact ⟨rfl, H.out.drewN _, (Turns.refl _ _).drewN _⟩
  have d4 : decide (R < n + 3) = false := decide_eq_false q4
  by_cases q5 : 1099511627776 ≤ (m.made : Int)
  · have d5 : decide (1099511627776 ≤ (m.made : Int)) = true := decide_eq_true q5
    have HV : Hid (makeV m c f n = (m, 0, 4)) := by show _ = _; unfold makeV; rw [hb, if_neg (by simp), if_pos (by unfold fullM; rw [d5]; simp)]
    rw [HV.out]
    clear h hcl hc hn hff ht hR hb htb
    go_enter Try.func25, Try.ntmps25
    go_wp2_with (first | (go_at_call 62; (with_reducible refine (mayClass_any H.out c).mono ?_); rw [HC.out]; rintro e w1 ⟨rfl, n1, rfl⟩) | (go_at_call 63; (with_reducible refine (HRM.out _).mono ?_); rintro e w2 ⟨rfl, n2, rfl⟩))
    go_ret2
    exact ⟨rfl, H.out.drewN _, (Turns.refl _ _).drewN _⟩
  have d5 : decide (1099511627776 ≤ (m.made : Int)) = false := decide_eq_false q5
  have hf : fullM m n = false := by unfold fullM; rw [ht, hR, d4, d5]; rfl
  obtain ⟨nn, rfl⟩ : ∃ nn : Nat, n = (nn : Int) := ⟨n.toNat, by omega⟩
  have HBB := Lib.hid hb
  have HC0 := Lib.hid hc
  have HPV : Hid (pointerV (t : Int) = (2 * (t : Int), true)) := by show _ = _; unfold pointerV; rw [if_pos (by omega)]
  obtain ⟨mk, mg, hmkl, hmap, hmg⟩ := h.map
  have HMP0 := Lib.hid hmap
  have HMG := Lib.hid hmg
  have hmkb : mk ≤ 131072 := Nat.le_trans hmkl (by have := szs_len m.L; have := h.good.fits; omega)
  have HFF := Lib.hid hf
  have hfit : t + nn + 3 ≤ m.size := by omega
  have c0 := h.c0
  have c1 := h.c1
  have c3 := h.c3
  rw [ht] at c1
  have fs := h.freeS
  obtain ⟨ys, y1, y2, y3⟩ := h.row
  have HY1 := Lib.hid y1
  have hor := or_4 nn f (by omega) (by omega) (by omega)
  have hbox := h.box
  rw [ht] at hbox
  have Y2 := Lib.hid y2
  have hne := h.ne
  have hnn : nn ≤ 256 := by omega
  have hf0 : 0 ≤ f := by omega
  have hf2 : f ≤ 2 := by omega
  have hmd : m.made < 1099511627776 := by omega
  have HBOX := Lib.hid hbox
  clear h hcl hc hn hff ht hR hb hf y2 hmap hmg hbox
  go_enter Try.func25, Try.ntmps25
  go_upto_region 7 with (first | (go_at_call 62; (with_reducible refine (mayClass_any H.out c).mono ?_); rw [HC.out]; rintro e w1 ⟨rfl, n1, rfl⟩) | (go_at_call 63; (with_reducible refine (HRM.out _).mono ?_); rintro e w2 ⟨rfl, n2, rfl⟩))
  obtain ⟨w3, hw3⟩ : ∃ w3, ((w.drewN (n1 + n2)).setCell ⟨s, 2, none⟩ (.int .i64 ((m.made : Int) + 1))) = w3 := ⟨_, rfl⟩
  rw [hw3]
  obtain ⟨ne1, ne2, ne3⟩ := hne
  have e0 : w3.cell? ⟨s, 0, none⟩ = some (.slice (some ⟨bw, 0, none⟩) m.size m.size) := by rw [← hw3, World.cell?_setCell_other _ _ _ _ (by simp)]; exact c0
  have e1 : w3.cell? ⟨s, 1, none⟩ = some (.int .i64 (t : Int)) := by rw [← hw3, World.cell?_setCell_other _ _ _ _ (by simp)]; exact c1
  have e2 : w3.cell? ⟨s, 2, none⟩ = some (.int .i64 ((m.made : Int) + 1)) := by rw [← hw3]; exact World.cell?_setCell_same _ _ _ c2
  have e3 : w3.cell? ⟨s, 3, none⟩ = some (.map (some bm)) := by rw [← hw3, World.cell?_setCell_other _ _ _ _ (by simp)]; exact c3
  have y4 : w3.heap[bw]? = some (.cells (ys.map (Value.int .i64)).toArray 3 (0, 0)) := by rw [← hw3, Below.heap_setCell _ _ _ _ (fun e => ne1 e.symm)]; exact y3
  have b0 := ints_cell y4 (k := t) (by omega)
  have b1 := ints_cell y4 (k := t + 1) (by omega)
  have b2 := ints_cell y4 (k := t + 2) (by omega)
  have fr0 := ints_free y4 t
  have fr1 := ints_free y4 (t + 1)
  have fr2 := ints_free y4 (t + 2)
  have HW3 := Lib.hid hw3
  have Y4 := Lib.hid y4
  have hw1 : IntKind.i64.wrap ((t : Int) + 1) = (t : Int) + 1 := by rw [IntKind.wrap_i64]; omega
  have hw2 : IntKind.i64.wrap ((t : Int) + 2) = (t : Int) + 2 := by rw [IntKind.wrap_i64]; omega
  have g0 : (0 : Int) ≤ (t : Int) := by omega
  have g1 : (t : Int) < (m.size : Int) := by omega
  have g2 : (0 : Int) ≤ (t : Int) + 1 := by omega
  have g3 : (t : Int) + 1 < (m.size : Int) := by omega
  have g4 : (0 : Int) ≤ (t : Int) + 2 := by omega
  have g5 : (t : Int) + 2 < (m.size : Int) := by omega
  have g6 : ((t : Int) + 1).toNat = t + 1 := by omega
  have g7 : ((t : Int) + 2).toNat = t + 2 := by omega
  clear hw3 y4 y3 c0 c1 c2 c3 fs
  have HS3 : Hid (w3.heap[s]? = some (.cells #[.slice (some ⟨bw, 0, none⟩) m.size m.size, .int .i64 (t : Int), .int .i64 ((m.made : Int) + 1), .map (some bm)] 96 (0, 0))) := by
    show _ = _
    rw [← HW3.out, heap_setCell_same _ s 2 _ _ _ (show (w.drewN (n1 + n2)).heap[s]? = _ from HBOX.out)]; rfl
  have HMP3 : Hid (w3.heap[bm]? = w.heap[bm]?) := by show _ = _; rw [← HW3.out, Below.heap_setCell _ _ _ _ (fun e => ne2 e.symm)]; rfl
  have HT3 : Hid (Turns (pset s bw bm) w w3) := by rw [← HW3.out]; exact ((Turns.refl _ _).drewN _).setCell _ _ (.inl rfl)
  go_region
  obtain ⟨w4, hw4⟩ : ∃ w4, (((w3.setCell ⟨bw, t, none⟩ (.int .i64 (4 * (nn : Int) + f))).setCell ⟨bw, t + 1, none⟩ (.int .i64 c)).setCell ⟨bw, t + 2, none⟩ (.int .i64 ((m.made : Int) + 1))).drew = w4 := ⟨_, rfl⟩
  rw [hw4]
  have R4 : w4.heap[bw]? = some (.cells ((((ys.set t (4 * (nn : Int) + f)).set (t + 1) c).set (t + 2) ((m.made : Int) + 1)).map (Value.int .i64)).toArray 3 (0, 0)) := by rw [← hw4]; exact ints_set (ints_set (ints_set Y4.out _) _) _
  have S4 : w4.heap[s]? = some (.cells #[.slice (some ⟨bw, 0, none⟩) m.size m.size, .int .i64 (t : Int), .int .i64 ((m.made : Int) + 1), .map (some bm)] 96 (0, 0)) := by
    rw [← hw4]
    show (((w3.setCell ⟨bw, t, none⟩ _).setCell ⟨bw, t + 1, none⟩ _).setCell ⟨bw, t + 2, none⟩ _).heap[s]? = _
    rw [Below.heap_setCell _ _ _ _ ne1, Below.heap_setCell _ _ _ _ ne1, Below.heap_setCell _ _ _ _ ne1]; exact HS3.out
  have M4 : w4.heap[bm]? = w.heap[bm]? := by
    rw [← hw4]
    show (((w3.setCell ⟨bw, t, none⟩ _).setCell ⟨bw, t + 1, none⟩ _).setCell ⟨bw, t + 2, none⟩ _).heap[bm]? = _
    rw [Below.heap_setCell _ _ _ _ (fun e => ne3 e.symm), Below.heap_setCell _ _ _ _ (fun e => ne3 e.symm), Below.heap_setCell _ _ _ _ (fun e => ne3 e.symm)]; exact HMP3.out
  have T4 : Turns (pset s bw bm) w w4 := by
    rw [← hw4]
    exact (((HT3.out.setCell ⟨bw, t, none⟩ _ (.inr (.inl rfl))).setCell ⟨bw, t + 1, none⟩ _ (.inr (.inl rfl))).setCell ⟨bw, t + 2, none⟩ _ (.inr (.inl rfl))).drewN 1
  have HMP : Hid (BoolMap w4 bm mk mg) := HMP0.out.same M4
  have HT4 := Lib.hid T4
  have HS4 := Lib.hid S4
  have j0 : w4.cell? ⟨s, 0, none⟩ = some (.slice (some ⟨bw, 0, none⟩) m.size m.size) := by simp [World.cell?, S4]
  have hyl : (((ys.set t (4 * (nn : Int) + f)).set (t + 1) c).set (t + 2) ((m.made : Int) + 1)).length = m.size := by simpa using HY1.out
  clear e0 e1 e2 e3 b0 b1 b2 fr0 fr1 fr2 hw4 S4 T4 M4
  have hsl : ∃ A5 c5 w5, (∀ w' : World, (Instr.slice 23 (.slice (some ⟨bw, 0, none⟩) m.size m.size) (some (.int .i64 ((t : Int) + 3))) (some (.int .i64 ((t : Int) + 3 + (nn : Int)))) none).run Try.prog w' = .ok (.slice A5 nn c5) w') ∧ (∀ ty, (Builtin.clear_ #[23] ty #[.slice A5 nn c5]).run Try.prog w4 = .ok (.tuple #[]) w5) ∧ w5.heap[bw]? = some (.cells ((spl (((ys.set t (4 * (nn : Int) + f)).set (t + 1) c).set (t + 2) ((m.made : Int) + 1)) (t + 3) (List.replicate nn 0)).map (Value.int .i64)).toArray 3 (0, 0)) ∧ (∀ k, k ≠ bw → w5.heap[k]? = w4.heap[k]?) ∧ Turns (pset s bw bm) w w5 := by
    obtain ⟨c5, A5, hsl⟩ := slice_ints (t + 3) nn bw m.size (by omega)
    by_cases hz : nn = 0
    · subst hz
      exact ⟨A5, c5, w4, fun w' => (hsl w').1, fun ty => clear_none w4 ty A5 c5, R4, fun _ _ => rfl, HT4.out⟩
    · have hA : A5 = some ⟨bw, t + 3, none⟩ := (hsl w4).2 (by omega)
      subst hA
      refine ⟨_, c5, w4.setCells bw (t + 3) (List.replicate nn (.int .i64 0)), fun w' => (hsl w').1, fun ty => Lib.run_clear_slice w4 23 3 ty (.int .i64 0) Try.underlying23 zeroI rfl rfl bw (t + 3) nn c5 (by omega) (fun j hj => by rw [ints_cell R4 (by omega)]; rfl) (fun j hj => ints_free R4 _), ?_, fun k hk => setCells_other _ _ _ _ _ hk, Turns.setCells _ HT4.out bw (t + 3) (.inr (.inl rfl))⟩
      have := ints_setCells (List.replicate nn 0) w4 bw (t + 3) _ R4
      rw [List.map_replicate] at this
      exact this
  obtain ⟨A5, c5, w5, hsl, hcl, hr5, ho5, ht5⟩ := hsl
  have HR5 := Lib.hid hr5
  have HT5 := Lib.hid ht5
  have HS5' : Hid (w5.heap[s]? = w4.heap[s]?) := ho5 s ne1
  have HB5' : Hid (w5.heap[bm]? = w4.heap[bm]?) := ho5 bm (fun e => ne3 e.symm)
  clear R4 hr5 ho5 ht5 hfit g0 g1 g2 g3 g4 g5 g6 g7
  have R5 := HR5.out
  have S5 : w5.heap[s]? = some (.cells #[.slice (some ⟨bw, 0, none⟩) m.size m.size, .int .i64 (t : Int), .int .i64 ((m.made : Int) + 1), .map (some bm)] 96 (0, 0)) := by rw [HS5'.out]; exact HS4.out
  have i0 : w5.cell? ⟨s, 0, none⟩ = some (.slice (some ⟨bw, 0, none⟩) m.size m.size) := by simp [World.cell?, S5]
  have i1 : w5.cell? ⟨s, 1, none⟩ = some (.int .i64 (t : Int)) := by simp [World.cell?, S5]
  have i3 : w5.cell? ⟨s, 3, none⟩ = some (.map (some bm)) := by simp [World.cell?, S5]
  have fr5 : w5.frozen? ⟨s, 1, none⟩ = false := by simp [World.frozen?, S5]
  have HS5 := Lib.hid S5
  have S6 : (w5.setCell ⟨s, 1, none⟩ (.int .i64 ((t : Int) + ((nn : Int) + 3)))).heap[s]? = some (.cells #[.slice (some ⟨bw, 0, none⟩) m.size m.size, .int .i64 ((t : Int) + ((nn : Int) + 3)), .int .i64 ((m.made : Int) + 1), .map (some bm)] 96 (0, 0)) := by rw [heap_setCell_same _ s 1 _ _ _ S5]; rfl
  have i6 : (w5.setCell ⟨s, 1, none⟩ (.int .i64 ((t : Int) + ((nn : Int) + 3)))).cell? ⟨s, 3, none⟩ = some (.map (some bm)) := by simp only [World.cell?, S6]; rfl
  have HS6 := Lib.hid S6
  have HM6 : Hid (BoolMap (w5.setCell ⟨s, 1, none⟩ (.int .i64 ((t : Int) + ((nn : Int) + 3)))) bm mk mg) := HMP.out.same (by first | exact Below.heap_setCell _ _ _ _ (fun e => ne2 e.symm) | exact (Below.heap_setCell _ _ _ _ (fun e => ne2 e.symm)).trans HB5'.out)
  clear S5 S6
  go_wp2_with (first | (at_mapUpdate; refine wpList_putBool _ rfl _ _ _ rfl rfl HM6.out (by unfold maxLen; omega) rfl rfl (show InI (t : Int) by unfold InI; omega) ?_; intro w7 hm7 hg7) | (go_at_call 64; (with_reducible refine (pointer_any (t : Int) _).mono ?_); rw [HPV.out]; rintro e w8 ⟨rfl, rfl⟩))
  go_ret2
  have hmk : (makeV m c f (nn : Int)).2 = (ptr m.L m.L.length, 0) := by unfold makeV; rw [HBB.out, HFF.out]; rfl
  have hgt := fun k (hk : k < w5.heap.size) (hne : k ≠ bm) => hg7.block k (by simpa using hk) (by simpa using hne)
  refine ⟨by rw [hmk]; unfold ptr; rw [HT.out]; rfl, H.out.made HC0.out HBB.out HFF.out HY1.out Y2.out ?_ ?_ hmkl HMG.out (by rw [HT.out]; exact hm7), ?_⟩
  · rw [hgt s (lt_of_block HS5.out) ne2, HT.out]; exact HS6.out
  · rw [hgt bw (lt_of_block R5) ne3, Below.heap_setCell _ _ _ _ (fun e => ne1 e.symm), R5, ← adr_end, HT.out, Int.toNat_natCast]
  · exact (HT5.out.setCell ⟨s, 1, none⟩ _ (.inl rfl)).grown hg7 (.inr (.inr rfl))
end Go.Proofs.Ytfinpgkehjbcpaa
