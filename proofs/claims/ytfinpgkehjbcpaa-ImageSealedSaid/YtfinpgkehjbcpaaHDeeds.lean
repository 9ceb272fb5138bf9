/- Chapter 02: what deeds come to: plain mathematics. -/
import Derived.Test.YtfinpgkehjbcpaaRRep
namespace Go.Proofs.Ytfinpgkehjbcpaa
set_option linter.unusedVariables false
set_option linter.unusedSimpArgs false
/-- one word of one object is another -/
theorem words_set {L : List Ob} {ys : List Int} (h : Words L ys) {i k : Nat} (hi : i < L.length) (hk : k < L[i].F.length + 3) {o' : Ob} {x : Int} (ho : encO o' = (encO L[i]).set k x) : Words (L.set i o') (ys.set (adr L i + k) x) := by
  obtain ⟨rest, rfl⟩ := h
  refine ⟨rest, ?_⟩
  have h3 := adr_ge L i
  have hlen : (encL (L.take i)).length = adr L i - 3 := by rw [encL_len]; unfold adr; omega
  have hsplit : encL L = encL (L.take i) ++ (encO L[i] ++ encL (L.drop (i + 1))) := by
    conv => lhs; rw [show L = L.take i ++ (L[i] :: L.drop (i + 1)) by rw [List.getElem_cons_drop, List.take_append_drop]]
    rw [encL_app, encL_cons]
  have hset : encL (L.set i o') = encL (L.take i) ++ ((encO L[i]).set k x ++ encL (L.drop (i + 1))) := by
    rw [List.set_eq_take_append_cons_drop, if_pos hi, encL_app, encL_cons, ho]
  rw [hset, hsplit]
  have hA : ([0, 0, 0] ++ encL (L.take i)).length = adr L i := by rw [List.length_append, hlen]; simp; omega
  have e1 : [0, 0, 0] ++ (encL (L.take i) ++ (encO L[i] ++ encL (L.drop (i + 1)))) ++ rest = ([0, 0, 0] ++ encL (L.take i)) ++ (encO L[i] ++ (encL (L.drop (i + 1)) ++ rest)) := by simp
  have e2 : [0, 0, 0] ++ (encL (L.take i) ++ ((encO L[i]).set k x ++ encL (L.drop (i + 1)))) ++ rest = ([0, 0, 0] ++ encL (L.take i)) ++ ((encO L[i]).set k x ++ (encL (L.drop (i + 1)) ++ rest)) := by simp
  rw [e1, e2, List.set_append_right _ _ (by rw [hA]; omega), hA, show adr L i + k - adr L i = k by omega, List.set_append_left _ _ (by rw [encO_len]; exact hk)]
theorem set_lens {L : List Ob} {i : Nat} {o' : Ob} (hi : i < L.length) (hl : o'.F.length = L[i].F.length) : (L.set i o').map (fun o => o.F.length) = L.map (fun o => o.F.length) := by
  rw [List.map_set, hl]
  apply List.ext_getElem
  · simp
  · intro j h1 h2
    rw [List.getElem_set]
    split
    · next e => subst e; simp
    · rfl
def updL (L : List Ob) (a : Int) (f : Ob → Ob) : List Ob := match plc L a with | some i => L.set i (f (lookO L a)) | none => L
theorem updL_yes {L : List Ob} {a : Int} {f : Ob → Ob} {i : Nat} (hp : plc L a = some i) (hi : i < L.length) : updL L a f = L.set i (f L[i]) := by
  unfold updL lookO
  rw [hp]
  simp [List.getD_eq_getElem?_getD, List.getElem?_eq_getElem hi]
def setMadeV (m : Hp) (n : Int) : Hp × Int := if n < m.made ∨ 1099511627776 < n then (m, 1) else ({ m with made := n.toNat }, 0)
def setHashV (m : Hp) (a h : Int) : Hp × Int := if isV m.L a then (if h < -1099511627776 ∨ 1099511627776 < h then (m, 1) else ({ m with L := updL m.L a (fun o => ⟨o.cls, o.fmt, h, o.F⟩) }, 0)) else (m, 1)
def setClassV (m : Hp) (a c : Int) : Hp × Int := if isV m.L a then (if c = 0 ∨ isV m.L c = true then ({ m with L := updL m.L a (fun o => ⟨c, o.fmt, o.hash, o.F⟩) }, 0) else (m, 1)) else (m, 1)
def badW (L : List Ob) (o : Ob) (x : Int) : Bool := (o.fmt == 0 && !mayV L x) || (o.fmt == 2 && (decide (x < 0) || decide (255 < x)))
def putV (m : Hp) (a i x : Int) : Hp × Int := if isV m.L a then (if i < 0 ∨ ((lookO m.L a).F.length : Int) ≤ i then (m, 5) else if badW m.L (lookO m.L a) x then (m, 6) else ({ m with L := updL m.L a (fun o => ⟨o.cls, o.fmt, o.hash, o.F.set i.toNat x⟩) }, 0)) else (m, 1)
/-- one object is another of the same length -/
theorem Good.set {m : Hp} (h : Good m) {i : Nat} (hi : i < m.L.length) {o' : Ob} (hl : o'.F.length = m.L[i].F.length) (hf : 0 ≤ o'.fmt ∧ o'.fmt ≤ 2) (hw : (-9223372036854775808 ≤ o'.cls ∧ o'.cls ≤ 9223372036854775807) ∧ (-1099511627776 ≤ o'.hash ∧ o'.hash ≤ 1099511627776) ∧ ∀ x, x ∈ o'.F → -9223372036854775808 ≤ x ∧ x ≤ 9223372036854775807) : Good { m with L := m.L.set i o' } := by
  refine ⟨h.lo, h.hi, h.made, ?_, fun o ho => ?_, fun o ho => ?_, fun o ho => ?_⟩
  · show 3 + szs (m.L.set i o') ≤ m.size
    rw [szs_congr (set_lens hi hl)]; exact h.fits
  · rcases List.mem_or_eq_of_mem_set ho with h1 | rfl
    · exact h.fmt o h1
    · exact hf
  · rcases List.mem_or_eq_of_mem_set ho with h1 | rfl
    · exact h.len o h1
    · rw [hl]; exact h.len _ (List.getElem_mem hi)
  · rcases List.mem_or_eq_of_mem_set ho with h1 | rfl
    · exact h.word o h1
    · exact hw
end Go.Proofs.Ytfinpgkehjbcpaa
