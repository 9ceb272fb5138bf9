/- Chapter 18: what a method's memory holds; the leaves that read it. -/
import Derived.Test.YtjiidjcehhdnbaaChecked
import Derived.Test.YtjiidjcehhdnbaaMem
namespace Go.Proofs.Ytjiidjcehhdnbaa
open Go.ChangeShapes Go.WideShapes Go.ChangeAt Go.RowKit

structure LitR where
  kind : Int
  text : ByteArray
  num : Int
  ka : Option Addr
  kl : Nat
  kc : Nat
structure InsR where
  op : Int
  a : Int
  b : Int
def noLit : LitR := ⟨0, ⟨#[]⟩, 0, none, 0, 0⟩
def noIns : InsR := ⟨0, 0, 0⟩
def litCell (l : LitR) : Nat → Value
  | 0 => .int .i64 l.kind
  | 1 => .string l.text
  | 2 => .int .i64 l.num
  | _ => .slice l.ka l.kl l.kc
def insCell (i : InsR) : Nat → Value
  | 0 => .int .i64 i.op
  | 1 => .int .i64 i.a
  | _ => .int .i64 i.b

/-- what the literals and the code of a method hold -/
structure IsM (w : World) (LA : Option Addr) (ln : Nat) (CA : Option Addr) (cn : Nat) (L : Nat → LitR) (C : Nat → InsR) : Prop where
  lits : Row w LA ln 4 (fun i => litCell (L i))
  code : Row w CA cn 3 (fun i => insCell (C i))
  ln_le : ln ≤ 1000
  cn_le : cn ≤ 1000

def litAt (ln : Nat) (L : Nat → LitR) (i : Int) : LitR := if 0 ≤ i ∧ i < ln then L i.toNat else noLit
def insAt (cn : Nat) (C : Nat → InsR) (p : Int) : InsR := if 0 ≤ p ∧ p < cn then C p.toNat else noIns

theorem thru {b W w1 : World} (hb : Below W.heap.size W w1) (h : Below b.heap.size b W) : Below b.heap.size b w1 := h.trans (hb.mono h.size)

section
variable {w0 w : World} {LA : Option Addr} {ln lc : Nat} {CA : Option Addr} {cn cc : Nat} {L : Nat → LitR} {C : Nat → InsR} {s : ByteArray} {x0 x1 x2 : Int}

theorem IsM.ins (hM : IsM w0 LA ln CA cn L C) (hB : Below w0.heap.size w0 w) {k : Nat} (hk : k < cn) :
    ∃ b off, CA = some ⟨b, off, none⟩ ∧ b < w.heap.size ∧ w.cell? ⟨b, off + k * 3, none⟩ = some (.int .i64 (C k).op) ∧ w.cell? ⟨b, off + k * 3 + 1, none⟩ = some (.int .i64 (C k).a) ∧ w.cell? ⟨b, off + k * 3 + 2, none⟩ = some (.int .i64 (C k).b) := by
  obtain ⟨b, off, e, hlt, hc⟩ := hM.code.below hB (by omega)
  exact ⟨b, off, e, hlt, hc k hk 0 (by omega), hc k hk 1 (by omega), hc k hk 2 (by omega)⟩
theorem IsM.lit (hM : IsM w0 LA ln CA cn L C) (hB : Below w0.heap.size w0 w) {k : Nat} (hk : k < ln) :
    ∃ b off, LA = some ⟨b, off, none⟩ ∧ b < w.heap.size ∧ w.cell? ⟨b, off + k * 4, none⟩ = some (.int .i64 (L k).kind) ∧ w.cell? ⟨b, off + k * 4 + 1, none⟩ = some (.string (L k).text) ∧ w.cell? ⟨b, off + k * 4 + 2, none⟩ = some (.int .i64 (L k).num) ∧ w.cell? ⟨b, off + k * 4 + 3, none⟩ = some (.slice (L k).ka (L k).kl (L k).kc) := by
  obtain ⟨b, off, e, hlt, hc⟩ := hM.lits.below hB (by omega)
  exact ⟨b, off, e, hlt, hc k hk 0 (by omega), hc k hk 1 (by omega), hc k hk 2 (by omega), hc k hk 3 (by omega)⟩

theorem at_any (hM : IsM w0 LA ln CA cn L C) (hB : Below w0.heap.size w0 w) (p : Int) :
    Calls Try.prog 24 #[.agg #[.string s, .int .i64 x0, .int .i64 x1, .int .i64 x2, .slice LA ln lc, .slice CA cn cc], .int .i64 p] w fun e w' => e = .returned (.agg #[.int .i64 (insAt cn C p).op, .int .i64 (insAt cn C p).a, .int .i64 (insAt cn C p).b]) ∧ Below w.heap.size w w' := by
  have hn := hM.cn_le
  by_cases h : 0 ≤ p ∧ p < cn
  · have F : Hid (insAt cn C p = C p.toNat) := if_pos h
    obtain ⟨k, rfl⟩ := Int.eq_ofNat_of_zero_le h.1
    have hk : k < cn := by omega
    obtain ⟨b, off, rfl, hlt, c0, c1, c2⟩ := hM.ins hB hk
    clear h hM hB
    go_enter Try.func24, Try.ntmps24
    go_wp2
    refine bodyPost_ret (v := .agg #[.int .i64 (C k).op, .int .i64 (C k).a, .int .i64 (C k).b]) (by simp [results, Try.results24, go_sem]) rfl ⟨by rw [F.out]; rfl, ?_⟩
    go_grown
  · have F : Hid (insAt cn C p = noIns) := if_neg h
    have d : (decide (p < 0) || decide ((cn : Int) ≤ p)) = true := by simp; omega
    by_cases hp : p < 0
    · clear h hM hB d
      go_enter Try.func24, Try.ntmps24
      go_wp2
      refine bodyPost_ret (v := .agg #[.int .i64 0, .int .i64 0, .int .i64 0]) (by simp [results, Try.results24, go_sem]) rfl ⟨by rw [F.out]; rfl, ?_⟩
      go_grown
    · have hp2 : (cn : Int) ≤ p := by omega
      clear h hM hB d
      go_enter Try.func24, Try.ntmps24
      go_wp2
      refine bodyPost_ret (v := .agg #[.int .i64 0, .int .i64 0, .int .i64 0]) (by simp [results, Try.results24, go_sem]) rfl ⟨by rw [F.out]; rfl, ?_⟩
      go_grown

theorem lit_any (hM : IsM w0 LA ln CA cn L C) (hB : Below w0.heap.size w0 w) (p : Int) :
    Calls Try.prog 38 #[.agg #[.string s, .int .i64 x0, .int .i64 x1, .int .i64 x2, .slice LA ln lc, .slice CA cn cc], .int .i64 p] w fun e w' => e = .returned (.agg #[.int .i64 (litAt ln L p).kind, .string (litAt ln L p).text, .int .i64 (litAt ln L p).num, .slice (litAt ln L p).ka (litAt ln L p).kl (litAt ln L p).kc]) ∧ Below w.heap.size w w' := by
  have hn := hM.ln_le
  by_cases h : 0 ≤ p ∧ p < ln
  · have F : Hid (litAt ln L p = L p.toNat) := if_pos h
    obtain ⟨k, rfl⟩ := Int.eq_ofNat_of_zero_le h.1
    have hk : k < ln := by omega
    obtain ⟨b, off, rfl, hlt, c0, c1, c2, c3⟩ := hM.lit hB hk
    clear h hM hB
    go_enter Try.func38, Try.ntmps38
    go_wp2
    refine bodyPost_ret (v := .agg #[.int .i64 (L k).kind, .string (L k).text, .int .i64 (L k).num, .slice (L k).ka (L k).kl (L k).kc]) (by simp [results, Try.results38, go_sem]) rfl ⟨by rw [F.out]; rfl, ?_⟩
    go_grown
  · have F : Hid (litAt ln L p = noLit) := if_neg h
    by_cases hp : p < 0
    · clear h hM hB
      go_enter Try.func38, Try.ntmps38
      go_wp2
      refine bodyPost_ret (v := .agg #[.int .i64 0, .string ⟨#[]⟩, .int .i64 0, .slice none 0 0]) (by simp [results, Try.results38, go_sem]) rfl ⟨by rw [F.out]; rfl, ?_⟩
      go_grown
    · have hp2 : (ln : Int) ≤ p := by omega
      clear h hM hB
      go_enter Try.func38, Try.ntmps38
      go_wp2
      refine bodyPost_ret (v := .agg #[.int .i64 0, .string ⟨#[]⟩, .int .i64 0, .slice none 0 0]) (by simp [results, Try.results38, go_sem]) rfl ⟨by rw [F.out]; rfl, ?_⟩
      go_grown
end
end Go.Proofs.Ytjiidjcehhdnbaa
