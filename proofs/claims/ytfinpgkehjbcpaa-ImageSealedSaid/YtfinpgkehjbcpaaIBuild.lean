/- Chapter 05, plain: a memory is filled with the things that were read. -/
import Derived.Test.YtfinpgkehjbcpaaIPlain3
import Derived.Test.YtfinpgkehjbcpaaNEW
import Derived.Test.YtfinpgkehjbcpaaHM0
namespace Go.Proofs.Ytfinpgkehjbcpaa
set_option linter.unusedVariables false
set_option linter.unusedSimpArgs false
def szT : List Tng → Nat
  | [] => 0
  | t :: r => t.F.length + 3 + szT r
def ptT (ts : List Tng) (i : Nat) : Int := 2 * ((3 + szT (ts.take i) : Nat) : Int)
/-- a word of a count -/
def realI (ts : List Tng) (c : Int) : Int := if c < 3 then 2 * c else if c % 2 = 1 then (smallV (unfV ((c.toNat - 3) / 2))).1 else ptT ts ((c.toNat - 4) / 2)
def tF (ts : List Tng) (t : Tng) : List Int := if t.fmt = 0 then t.F.map (realI ts) else t.F
def tOb (ts : List Tng) (t : Tng) : Ob := ⟨realI ts t.cls, t.fmt, t.hash, tF ts t⟩
def bldL (ts : List Tng) : List Ob := ts.map (tOb ts)
/-- a count that may be a word where there are so many objects -/
def wOk (n : Nat) (x : Int) : Prop := 0 ≤ x ∧ x ≤ 4611686018427387904 ∧ (3 ≤ x → x % 2 = 1 → (smallV (unfV ((x.toNat - 3) / 2))).2 = true) ∧ (4 ≤ x → x % 2 = 0 → (x.toNat - 4) / 2 < n)
structure TOk (n : Nat) (t : Tng) : Prop where
  fmt : t.fmt ≤ 2
  len : t.F.length ≤ 256
  hash : -1099511627776 ≤ t.hash ∧ t.hash ≤ 1099511627776
  cls : wOk n t.cls
  okc : t.cls = 0 ∨ (4 ≤ t.cls ∧ t.cls % 2 = 0)
  wrd : t.fmt = 0 → ∀ x, x ∈ t.F → wOk n x
  num : t.fmt = 1 → ∀ x, x ∈ t.F → okI x = true
  byt : t.fmt = 2 → ∀ x, x ∈ t.F → 0 ≤ x ∧ x ≤ 255
theorem tF_len (ts : List Tng) (t : Tng) : (tF ts t).length = t.F.length := by unfold tF; split <;> simp
/-- lengths as those of the things -/
def LenT (L : List Ob) (ts : List Tng) : Prop := L.map (fun o => o.F.length) = ts.map (fun t => t.F.length)
theorem szs_T : ∀ {L : List Ob} {ts : List Tng}, LenT L ts → szs L = szT ts
  | [], [], _ => rfl
  | [], _ :: _, h => by simp [LenT] at h
  | _ :: _, [], h => by simp [LenT] at h
  | o :: r, t :: s, h => by
    simp only [LenT, List.map_cons, List.cons.injEq] at h
    simp [szs, szT, h.1, szs_T (L := r) (ts := s) h.2]
theorem LenT.take {L : List Ob} {ts : List Tng} (h : LenT L ts) (i : Nat) : LenT (L.take i) (ts.take i) := by unfold LenT at *; rw [List.map_take, List.map_take, h]
theorem LenT.length {L : List Ob} {ts : List Tng} (h : LenT L ts) : L.length = ts.length := by have := congrArg List.length h; simpa using this
theorem ptr_T {L : List Ob} {ts : List Tng} (h : LenT L ts) (i : Nat) : ptr L i = ptT ts i := by unfold ptr ptT adr; rw [szs_T (h.take i)]
theorem szT_take_le : ∀ (ts : List Tng) (i : Nat), szT (ts.take i) ≤ szT ts
  | [], i => by simp [szT]
  | t :: r, 0 => by simp [szT]
  | t :: r, i + 1 => by have := szT_take_le r i; simp [szT]; omega
theorem szT_app : ∀ (a b : List Tng), szT (a ++ b) = szT a + szT b
  | [], b => by simp [szT]
  | t :: r, b => by simp [szT, szT_app r b]; omega
theorem szT_succ {ts : List Tng} {i : Nat} (hi : i < ts.length) : szT (ts.take (i + 1)) = szT (ts.take i) + (ts[i].F.length + 3) := by
  rw [List.take_succ_eq_append_getElem hi, szT_app]; simp [szT]
def rawO (i : Nat) (t : Tng) : Ob := newO 0 (t.fmt : Int) ((i : Int) + 1) t.F.length
def rawL (ts : List Tng) : List Ob := ts.mapIdx rawO
theorem raw_len (ts : List Tng) : LenT (rawL ts) ts := by
  unfold LenT rawL
  apply List.ext_getElem
  · simp
  · intro i h1 h2; simp [rawO, newO]
theorem raw_length (ts : List Tng) : (rawL ts).length = ts.length := by unfold rawL; simp
theorem raw_at {ts : List Tng} {i : Nat} (hi : i < (rawL ts).length) : (rawL ts)[i] = rawO i (ts[i]'(by rw [raw_length] at hi; exact hi)) := List.getElem_mapIdx
theorem raw_snoc (ts : List Tng) (t : Tng) : rawL (ts ++ [t]) = rawL ts ++ [rawO ts.length t] := by unfold rawL; simp
theorem bld_len (ts : List Tng) : LenT (bldL ts) ts := by unfold LenT bldL; rw [List.map_map]; apply List.map_congr_left; intro t _; exact tF_len ts t
/-- behind k things made -/
def mkH (size : Nat) (ts : List Tng) (k : Nat) : Hp := ⟨size, k, rawL (ts.take k)⟩
theorem make_step {size : Nat} {ts : List Tng} {k : Nat} (hk : k < ts.length) (hf : ts[k].fmt ≤ 2) (hl : ts[k].F.length ≤ 256) (hs : 3 + szT ts ≤ size) (hn : ts.length ≤ 1000000) : makeV (mkH size ts k) 0 (ts[k].fmt : Int) (ts[k].F.length : Int) = (mkH size ts (k + 1), ptT ts k, 0) := by
  have hlen : (rawL (ts.take k)).length = k := by rw [raw_length, List.length_take]; omega
  have hadr : adr (rawL (ts.take k)) (rawL (ts.take k)).length = 3 + szT (ts.take k) := by rw [adr_end, szs_T (raw_len _)]
  have h1 : badM (mkH size ts k) 0 (ts[k].fmt : Int) (ts[k].F.length : Int) = false := by
    unfold badM
    rw [decide_eq_false (p := ((ts[k].fmt : Nat) : Int) < 0) (by omega), decide_eq_false (p := (2 : Int) < ((ts[k].fmt : Nat) : Int)) (by omega), decide_eq_false (p := ((ts[k].F.length : Nat) : Int) < 0) (by omega), decide_eq_false (p := (256 : Int) < ((ts[k].F.length : Nat) : Int)) (by omega)]
    rfl
  have h2 : fullM (mkH size ts k) (ts[k].F.length : Int) = false := by
    unfold fullM
    show (decide ((size : Int) - ((adr (rawL (ts.take k)) (rawL (ts.take k)).length : Nat) : Int) < _) || decide (1099511627776 ≤ (k : Int))) = false
    rw [hadr]
    have := szT_succ hk
    have := szT_take_le ts (k + 1)
    rw [decide_eq_false (by omega), decide_eq_false (by omega)]
    rfl
  unfold makeV
  rw [h1, h2]
  show ((⟨size, k + 1, rawL (ts.take k) ++ [newO 0 (ts[k].fmt : Int) ((k : Int) + 1) ((ts[k].F.length : Nat) : Int).toNat]⟩ : Hp), ptr (rawL (ts.take k)) (rawL (ts.take k)).length, (0 : Int)) = _
  have e1 : rawL (ts.take (k + 1)) = rawL (ts.take k) ++ [rawO k ts[k]] := by
    rw [List.take_succ_eq_append_getElem hk, raw_snoc, List.length_take, Nat.min_eq_left (by omega)]
  have e2 : ptr (rawL (ts.take k)) (rawL (ts.take k)).length = ptT ts k := by
    unfold ptr ptT; rw [hadr]
  rw [e2]
  unfold mkH
  rw [e1, Int.toNat_natCast]
  rfl
/-- behind i things filled, the next under way -/
def stH (size : Nat) (ts : List Tng) (i : Nat) (o : Ob) : Hp := ⟨size, ts.length, (ts.take i).map (tOb ts) ++ o :: (rawL ts).drop (i + 1)⟩
def bH (size : Nat) (ts : List Tng) (i : Nat) : Hp := ⟨size, ts.length, (ts.take i).map (tOb ts) ++ (rawL ts).drop i⟩
theorem bH_zero (size : Nat) (ts : List Tng) : bH size ts 0 = mkH size ts ts.length := by unfold bH mkH; simp
theorem bH_end (size : Nat) (ts : List Tng) : bH size ts ts.length = ⟨size, ts.length, bldL ts⟩ := by
  unfold bH bldL
  rw [List.drop_eq_nil_of_le (by rw [raw_length]; exact Nat.le_refl _)]
  simp
theorem bH_st {size : Nat} {ts : List Tng} {i : Nat} (hi : i < ts.length) : bH size ts i = stH size ts i (rawO i ts[i]) := by
  unfold bH stH
  rw [List.drop_eq_getElem_cons (by rw [raw_length]; exact hi), raw_at]
theorem st_bH {size : Nat} {ts : List Tng} {i : Nat} (hi : i < ts.length) : stH size ts i (tOb ts ts[i]) = bH size ts (i + 1) := by
  unfold bH stH
  rw [List.take_succ_eq_append_getElem hi, List.map_append]
  simp
section
variable {size : Nat} {ts : List Tng} {i : Nat} {o : Ob}
theorem st_len (hi : i < ts.length) (ho : o.F.length = ts[i].F.length) : LenT (stH size ts i o).L ts := by
  unfold LenT stH
  show ((ts.take i).map (tOb ts) ++ o :: (rawL ts).drop (i + 1)).map (fun o => o.F.length) = _
  have h1 : ((ts.take i).map (tOb ts)).map (fun o => o.F.length) = (ts.take i).map (fun t => t.F.length) := by
    rw [List.map_map]; apply List.map_congr_left; intro t _; exact tF_len ts t
  have h2 : ((rawL ts).drop (i + 1)).map (fun o => o.F.length) = (ts.drop (i + 1)).map (fun t => t.F.length) := by
    rw [List.map_drop, raw_len, List.map_drop]
  rw [List.map_append, List.map_cons, h1, h2, ho]
  conv => rhs; rw [show ts = ts.take i ++ ts[i] :: ts.drop (i + 1) by rw [List.getElem_cons_drop, List.take_append_drop]]
  rw [List.map_append, List.map_cons]
theorem st_at (hi : i < ts.length) : (stH size ts i o).L[i]? = some o := by
  show ((ts.take i).map (tOb ts) ++ o :: (rawL ts).drop (i + 1))[i]? = some o
  rw [List.getElem?_append_right (by simp; omega)]
  simp [Nat.min_eq_left (Nat.le_of_lt hi)]
theorem st_set (hi : i < ts.length) (o' : Ob) : (stH size ts i o).L.set i o' = (stH size ts i o').L := by
  show ((ts.take i).map (tOb ts) ++ o :: (rawL ts).drop (i + 1)).set i o' = _
  rw [List.set_append_right _ _ (by simp; omega)]
  have : i - ((ts.take i).map (tOb ts)).length = 0 := by simp; omega
  rw [this]
  rfl
theorem st_plc (hi : i < ts.length) (ho : o.F.length = ts[i].F.length) : plc (stH size ts i o).L (ptT ts i) = some i ∧ i < (stH size ts i o).L.length := by
  have hl := st_len (size := size) hi ho
  have hi' : i < (stH size ts i o).L.length := by rw [hl.length]; exact hi
  exact ⟨by rw [← ptr_T hl]; exact plc_at hi', hi'⟩
theorem st_isV (hi : i < ts.length) (ho : o.F.length = ts[i].F.length) {j : Nat} (hj : j < ts.length) : isV (stH size ts i o).L (ptT ts j) = true := by
  have hl := st_len (size := size) hi ho
  exact isV_iff.2 ⟨j, by rw [hl.length]; exact hj, ptr_T hl j⟩
theorem st_upd (hi : i < ts.length) (ho : o.F.length = ts[i].F.length) (f : Ob → Ob) : updL (stH size ts i o).L (ptT ts i) f = (stH size ts i (f o)).L := by
  obtain ⟨h1, h2⟩ := st_plc (size := size) hi ho
  rw [updL_yes h1 h2]
  have := st_at (size := size) (o := o) hi
  rw [List.getElem?_eq_getElem h2] at this
  rw [show (stH size ts i o).L[i] = o by simpa using this, st_set hi]
theorem st_look (hi : i < ts.length) (ho : o.F.length = ts[i].F.length) : lookO (stH size ts i o).L (ptT ts i) = o := by
  obtain ⟨h1, h2⟩ := st_plc (size := size) hi ho
  unfold lookO
  rw [h1]
  have := st_at (size := size) (o := o) hi
  simp [List.getD_eq_getElem?_getD, this]
theorem st_class (hi : i < ts.length) (ho : o.F.length = ts[i].F.length) {c : Int} (hc : c = 0 ∨ ∃ j, j < ts.length ∧ c = ptT ts j) : setClassV (stH size ts i o) (ptT ts i) c = (stH size ts i ⟨c, o.fmt, o.hash, o.F⟩, 0) := by
  unfold setClassV
  have hc' : c = 0 ∨ isV (stH size ts i o).L c = true := by
    rcases hc with q | ⟨j, hj, q⟩
    · exact .inl q
    · exact .inr (by rw [q]; exact st_isV hi ho hj)
  rw [if_pos (st_isV hi ho hi), if_pos hc', st_upd hi ho]
  rfl
theorem st_hash (hi : i < ts.length) (ho : o.F.length = ts[i].F.length) {h : Int} (hh : -1099511627776 ≤ h ∧ h ≤ 1099511627776) : setHashV (stH size ts i o) (ptT ts i) h = (stH size ts i ⟨o.cls, o.fmt, h, o.F⟩, 0) := by
  unfold setHashV
  rw [if_pos (st_isV hi ho hi), if_neg (by omega), st_upd hi ho]
  rfl
theorem st_put (hi : i < ts.length) (ho : o.F.length = ts[i].F.length) {k : Nat} (hk : k < ts[i].F.length) {x : Int} (hb : badW (stH size ts i o).L o x = false) : putV (stH size ts i o) (ptT ts i) (k : Int) x = (stH size ts i ⟨o.cls, o.fmt, o.hash, o.F.set k x⟩, 0) := by
  unfold putV
  rw [if_pos (st_isV hi ho hi), st_look hi ho, if_neg (by omega), hb, st_upd hi ho]
  rfl
end
/-- a word of a count that may be one -/
theorem real_cases {ts : List Tng} {x : Int} (h : wOk ts.length x) : (realI ts x = 2 * x ∧ (x = 0 ∨ x = 1 ∨ x = 2)) ∨ (isSmallV (realI ts x) = true) ∨ ∃ j, j < ts.length ∧ realI ts x = ptT ts j := by
  obtain ⟨h0, h1, h2, h3⟩ := h
  unfold realI
  by_cases q : x < 3
  · rw [if_pos q]; exact .inl ⟨rfl, by omega⟩
  · rw [if_neg q]
    by_cases q2 : x % 2 = 1
    · rw [if_pos q2]
      have := h2 (by omega) q2
      refine .inr (.inl ?_)
      unfold smallV at this ⊢
      split at this
      · rename_i h
        rw [if_pos h]
        unfold isSmallV
        exact decide_eq_true (by show -2147483647 ≤ 2 * _ + 1 ∧ 2 * _ + 1 ≤ (2147483647 : Int) ∧ (2 * _ + 1) % 2 = 1; omega)
      · cases this
    · rw [if_neg q2]
      exact .inr (.inr ⟨_, h3 (by omega) (by omega), rfl⟩)
theorem real_may {ts : List Tng} {L : List Ob} (hl : LenT L ts) {x : Int} (h : wOk ts.length x) : mayV L (realI ts x) = true := by
  rcases real_cases h with ⟨e, q⟩ | q | ⟨j, hj, e⟩
  · rw [e]
    unfold mayV
    rcases q with rfl | rfl | rfl <;> simp
  · unfold mayV; rw [q]; simp
  · rw [e]
    exact isV_may (isV_iff.2 ⟨j, by rw [hl.length]; exact hj, ptr_T hl j⟩)
theorem real_class {ts : List Tng} {c : Nat} (h : wOk ts.length (c : Int)) (hc : c = 0 ∨ (4 ≤ c ∧ c % 2 = 0)) : realI ts c = 0 ∨ ∃ j, j < ts.length ∧ realI ts c = ptT ts j := by
  rcases hc with rfl | ⟨h1, h2⟩
  · exact .inl rfl
  · obtain ⟨_, _, _, h3⟩ := h
    refine .inr ⟨_, h3 (by omega) (by omega), ?_⟩
    unfold realI
    rw [if_neg (by omega), if_neg (by omega)]
/-- the fields, k of them put -/
def partF (G : List Int) (k : Nat) : List Int := G.take k ++ (List.replicate G.length 0).drop k
theorem partF_zero (G : List Int) : partF G 0 = List.replicate G.length 0 := by unfold partF; simp
theorem partF_end (G : List Int) : partF G G.length = G := by unfold partF; simp
theorem partF_len (G : List Int) {k : Nat} (hk : k ≤ G.length) : (partF G k).length = G.length := by unfold partF; simp; omega
theorem partF_set {G : List Int} {k : Nat} (hk : k < G.length) : (partF G k).set k G[k] = partF G (k + 1) := by
  unfold partF
  rw [List.set_append_right _ _ (by simp; omega), List.take_succ_eq_append_getElem hk, List.append_assoc]
  congr 1
  have : k - (G.take k).length = 0 := by simp; omega
  rw [this, List.drop_eq_getElem_cons (by simpa using hk)]
  rfl
end Go.Proofs.Ytfinpgkehjbcpaa
