/- Chapter 02: the contract of Turn. -/
import Derived.Test.YthjjanjmiinpbaaHT1
import Derived.Carry
namespace Go.Proofs.Ythjjanjmiinpbaa
open Go.ChangeShapes Go.WideShapes Go.ChangeAt Go.RowKit Go.Deep Go.Joins Go.Maps
set_option linter.unusedVariables false
set_option linter.unusedSimpArgs false

def ftV (fr tl : List Int) (a : Int) : Int := match findN fr a with | some j => tl.getD j 0 | none => 0
theorem ftV_zero {fr tl : List Int} {a : Int} (h : a ∉ fr) : ftV fr tl a = 0 := by unfold ftV; rw [findN_none.2 h]
theorem findN_take : ∀ {l : List Int} {k : Nat} {a : Int} (hk : k < l.length), findN (l.take (k + 1)) a = match findN (l.take k) a with | some j => some j | none => if l[k] = a then some k else none
  | [], k, a, hk => absurd hk (by simp)
  | x :: l, 0, a, hk => by simp [findN]
  | x :: l, k + 1, a, hk => by
    have ih := findN_take (l := l) (k := k) (a := a) (by simpa using hk)
    simp only [List.take_succ_cons, findN, List.getElem_cons_succ]
    by_cases h : x = a
    · simp only [if_pos h]
    · simp only [if_neg h, ih]
      cases findN (l.take k) a with
      | some j => rfl
      | none => dsimp only; split <;> rfl
theorem ftV_take {fr tl : List Int} {k : Nat} (hk : k < fr.length) (hn : fr[k] ∉ fr.take k) (a : Int) : ftV (fr.take (k + 1)) tl a = if a = fr[k] then tl.getD k 0 else ftV (fr.take k) tl a := by
  unfold ftV
  rw [findN_take hk]
  by_cases h : a = fr[k]
  · rw [if_pos h, h, findN_none.2 hn]
    dsimp only
    rw [if_pos rfl]
  · rw [if_neg h]
    cases findN (fr.take k) a with
    | some j => rfl
    | none => dsimp only; rw [if_neg (fun e => h e.symm)]
theorem ftV_mem {fr tl : List Int} {a : Int} {L : List Ob} (h : a ∈ fr) (hl : fr.length ≤ tl.length) (ht : tl.all (isV L) = true) : isV L (ftV fr tl a) = true ∧ ftV fr tl a = sbV fr tl a := by
  unfold ftV sbV
  cases hf : findN fr a with
  | none => exact absurd h (findN_none.1 hf)
  | some j =>
    obtain ⟨h1, _, _⟩ := findN_some hf
    have hj : j < tl.length := by omega
    dsimp only
    rw [List.getD_eq_getElem?_getD, List.getElem?_eq_getElem hj]
    exact ⟨List.all_eq_true.1 ht _ (List.getElem_mem hj), rfl⟩
theorem isV_ne {L : List Ob} {a : Int} (h : isV L a = true) : ¬ a = 0 := by
  obtain ⟨i, _, rfl⟩ := isV_iff.1 h
  have := adr_ge L i
  unfold ptr; omega
theorem isV_InI {m : Hp} (h : Good m) {a : Int} (hv : isV m.L a = true) : InI a := by
  have := pointer_bounds (isV_pointer h hv)
  unfold InI; omega
theorem gT_sbV {m : Hp} (hg : Good m) {fr tl : List Int} (hl : fr.length = tl.length) (hf : fr.all (isV m.L) = true) (ht : tl.all (isV m.L) = true) : gT (ftV fr tl) = sbV fr tl := by
  funext x
  by_cases hx : x ∈ fr
  · obtain ⟨h1, h2⟩ := ftV_mem hx (Nat.le_of_eq hl) ht
    rw [gT_yes (isV_ne h1) (isV_pointer hg (List.all_eq_true.1 hf x hx)), h2]
  · rw [gT_zero (ftV_zero hx), sbV_none hx]
theorem sbV_InI {m : Hp} (hg : Good m) {fr tl : List Int} (hl : fr.length = tl.length) (ht : tl.all (isV m.L) = true) {x : Int} (h : InI x) : InI (sbV fr tl x) := by
  by_cases hx : x ∈ fr
  · obtain ⟨h1, h2⟩ := ftV_mem hx (Nat.le_of_eq hl) ht
    rw [← h2]; exact isV_InI hg h1
  · rw [sbV_none hx]; exact h
theorem distinct_take_no {l : List Int} {k : Nat} (hk : k < l.length) (h : l[k] ∈ l.take k) : distinct l = false := by
  cases hd : distinct l with
  | false => rfl
  | true =>
    have hn := distinct_iff.1 hd
    obtain ⟨j, hj, e⟩ := List.mem_iff_getElem.1 h
    rw [List.getElem_take] at e
    have hjk : j < k := by simp at hj; omega
    exact absurd e (List.pairwise_iff_getElem.1 hn j k (by omega) hk hjk)
theorem distinct_take_succ {l : List Int} {k : Nat} (hk : k < l.length) (h : l[k] ∉ l.take k) (hd : distinct (l.take k) = true) : distinct (l.take (k + 1)) = true := by
  rw [distinct_iff] at hd ⊢
  rw [List.take_succ_eq_append_getElem hk, List.nodup_append]
  refine ⟨hd, by simp, fun a ha b hb e => ?_⟩
  rw [List.mem_singleton.1 hb] at e
  exact h (e ▸ ha)
theorem IntMap.congr {w : World} {b n : Nat} {f g : Int → Int} (h : IntMap w b n f) (e : ∀ a, f a = g a) : IntMap w b n g := by rw [show g = f from (funext e).symm]; exact h
theorem BoolMap.congr {w : World} {b n : Nat} {f g : Int → Bool} (h : BoolMap w b n f) (e : ∀ a, f a = g a) : BoolMap w b n g := by rw [show g = f from (funext e).symm]; exact h

theorem gap_head {w w' : World} {s bw bm : Nat} {m : Hp} (h : PM w s bw bm m) {T : Nat → Prop} {g : Int → Int} (hs : ¬ T s) {k : Nat} (hk : k < m.L.length) (hp : GapP bw T m.L g m.size w k w') : w'.cell? ⟨s, 0, none⟩ = some (.slice (some ⟨bw, 0, none⟩) m.size m.size) ∧ ∃ x : Int, w'.cell? ⟨bw, adr m.L k, none⟩ = some (.int .i64 x) ∧ x / 4 = (nfA m.L k : Int) := by
  obtain ⟨ys, p1, p2, p3⟩ := hp
  refine ⟨p3.cell h.c0 hs, (encO m.L[k]).getD 0 0, ?_, ?_⟩
  · have hm := (gap_mid hk).1 p2
    have h1 := mid_at hm (j := 0) (by omega)
    obtain ⟨_, _, _, _, hl⟩ := p2
    rw [ints_cell p1 (k := adr m.L k) (by omega), show adr m.L k = adr m.L k + 0 from rfl, h1.1]
  · have := h.good.fmt _ (List.getElem_mem hk)
    rw [nfA_at hk]
    show (4 * (m.L[k].F.length : Int) + m.L[k].fmt) / 4 = _
    omega
/-- the loop that lays what turns into what -/
def TurnL (w : World) (s bm0 : Nat) (pt bt : Obj) (fr tl : List Int) (k : Nat) (wr : World) : Prop := Below w.heap.size w wr ∧ wr.heap[w.heap.size]? = some pt ∧ wr.heap[w.heap.size + 1 + 1]? = some bt ∧ IntMap wr (w.heap.size + 1) k (ftV (fr.take k) tl)

end Go.Proofs.Ythjjanjmiinpbaa
