/- Chapter 05: the reference reads bytes. -/
import Derived.Test.YtfinpgkehjbcpaaRT0
import Derived.Test.YtfinpgkehjbcpaaIU
import Derived.Deep.RegionHeld3
import Derived.Deep.RegionLaw
import Derived.Deep.RegionWith
import Derived.Deep.CutBlock
import Derived.Laws.BytesArg
import Derived.Lib.Bytes
namespace Go.Proofs.Ytfinpgkehjbcpaa
open Go.ChangeShapes Go.WideShapes Go.ChangeAt Go.RowKit Go.Deep Go.Joins Go.Maps
set_option linter.unusedVariables false
set_option linter.unusedSimpArgs false
theorem str_list {a b : ByteArray} (h : a.toList = b.toList) : a = b := by
  apply ByteArray.ext
  apply Array.toList_inj.1
  rw [ByteArray.toList_eq, ByteArray.toList_eq] at h
  exact h
def ReadQ (w : World) (b : List Int) (size : Int) (e : Ending) (w' : World) : Prop := (match (readV b size).1 with
  | some x => ∃ r R lv fv A c, e = .returned (.tuple #[.pointer (some ⟨r, 0, none⟩), .slice A x.ws.length c, .int .i64 0]) ∧ Nums w' A (x.ws.map (realI x.ts)) ∧ RM w' R r ⟨size.toNat, x.made, bldL x.ts⟩ lv fv
  | none => e = .returned (.tuple #[.pointer none, .slice none 0 0, .int .i64 (readV b size).2])) ∧ Below w.heap.size w w'
theorem readQ_no {w w' : World} {b : List Int} {size : Int} {e : Ending} (h : imgV b = none) (he : e = .returned (.tuple #[.pointer none, .slice none 0 0, .int .i64 7])) (hb : Below w.heap.size w w') : ReadQ w b size e w' := by
  have h2 : readV b size = (none, 7) := by unfold readV; rw [h]
  refine ⟨?_, hb⟩
  rw [h2]; exact he
theorem step_obj {ops : Array Oper} {o : Oper} {a : Act} {w0 w : World} {K : Act → World → Prop} {Q : Exit → Act → World → Prop} {E : Prop} (hgd : o.guard = none) (s x : Operand)
    (ho : o.op = .call { callee := .builtin .append, args := #[s, x], argTypes := #[59, 59] })
    {rb g r : Nat} {σ : RdS} {size : Int} {made : Nat} {L : List Ob} {lv : Value} {fv : Nat → Value} {R : Nat → Prop} {B : Nat} (h : QL w0 w rb g r σ size made L lv fv R B) (hs : a.eval s = lv)
    {G : Nat} (hx : a.eval x = .slice (some ⟨G, 0, none⟩) 1 1) (ob : Ob) {v : Value} {Bv : Nat} (hG : w.heap[G]? = some (.cells #[.int .i64 ob.cls, .int .i64 ob.fmt, .int .i64 ob.hash, v] 75 (0, 0)))
    (hRv : ∀ k, R k → k < Bv) (hBv : B ≤ Bv) (hf : w.ownsRow Bv 3 1 v ob.F.length (ob.F.map (Value.int .i64))) (hF : ob.F.length ≤ 256) (hL : L.length < 1000000) (h1v : v.oneCell' = true)
    (hK : ∀ lv' w', (∃ R' fv', QM w0 w' rb g r σ size made (L ++ [ob]) lv' fv' R' B lv) → w.grownBy w' lv.ownBlock → K (a.put o.dst lv') w') : if Region.wanted o (yielded ops a.tmps) = true then Oper.wp Try.prog o a w K Q else E := by
  obtain ⟨i0, hi, hz0, hz1, hz2⟩ := info_parts infoO
  rw [if_pos (by simp [Region.wanted, hgd])]
  refine wp_append_own (P := Try.prog) _ s x 59 ho B 75 i0 _ 4 48 Try.underlying59 hi hz0 hz1 hz2 rfl (by decide) lv L.length _ hs (h.rw_.lm.objs h.ge) ⟨G, 0, none⟩ 1 1 [.int .i64 ob.cls, .int .i64 ob.fmt, .int .i64 ob.hash, v] hx rfl (World.news_of_block (cs := #[.int .i64 ob.cls, .int .i64 ob.fmt, .int .i64 ob.hash, v]) (t := 75) (fr := (0, 0)) hG) (fun u hu => by simp only [List.mem_cons, List.not_mem_nil, or_false] at hu; rcases hu with rfl | rfl | rfl | rfl <;> first | rfl | exact h1v) (by unfold maxLen; omega) (by omega) h.ord.2.2.2.2 ?_
  intro lv' w' h2 h3 h4
  exact hK lv' w' (h.push hRv hBv hf hF hL h2 h3) h3
theorem seal_eq {b : List Int} {m : Nat} (hn : b.length = m + 4) : sealV (b.take m) = b ↔ b.drop (b.length - 4) = tailV (sumV (b.take (b.length - 4))) := by
  rw [hn, Nat.add_sub_cancel]
  unfold sealV
  constructor
  · intro h
    have h2 : b.take m ++ b.drop m = b.take m ++ tailV (sumV (b.take m)) := by rw [List.take_append_drop]; exact h.symm
    exact List.append_cancel_left h2
  · intro h
    rw [← h, List.take_append_drop]
theorem str_ne {a b : List Int} (ha : IsB a) (hb : IsB b) (h : a ≠ b) : strOfNums a ≠ strOfNums b := fun e => h (u8s_inj ha hb (by
  have := congrArg ByteArray.toList e
  rw [Lib.strOfNums_toList, Lib.strOfNums_toList] at this
  exact this))
theorem fldsN_le (n f : Nat) : ∀ (k : Nat) (σ : RdS), (fldsN n f k σ).1.length ≤ k
  | 0, σ => Nat.le_refl _
  | k + 1, none => Nat.zero_le _
  | k + 1, some l => by
    show (_ :: (fldsN n f k _).1).length ≤ k + 1
    rw [List.length_cons]
    have := fldsN_le n f k (fldN n f (some l)).2
    omega
theorem objN_len (m : Nat) (σ : RdS) : (objN m σ).1.F.length ≤ 256 := Nat.le_trans (fldsN_le _ _ _ _) (cntR_le 256 _)
theorem objsN_le (m : Nat) : ∀ (k : Nat) (σ : RdS), (objsN m k σ).1.length ≤ k
  | 0, σ => Nat.le_refl _
  | k + 1, none => Nat.zero_le _
  | k + 1, some l => by
    show (_ :: (objsN m k _).1).length ≤ k + 1
    rw [List.length_cons]
    have := objsN_le m k (objN m (some l)).2
    omega
theorem objsN_len (m : Nat) : ∀ (k : Nat) (σ : RdS), ∀ t, t ∈ (objsN m k σ).1 → t.F.length ≤ 256
  | 0, σ, t, ht => absurd ht (by simp [objsN])
  | k + 1, none, t, ht => absurd ht (by simp [objsN])
  | k + 1, some l, t, ht => by
    have ht' : t ∈ (objN m (some l)).1 :: (objsN m k (objN m (some l)).2).1 := ht
    rcases List.mem_cons.1 ht' with rfl | q
    · exact objN_len m _
    · exact objsN_len m k _ t q
theorem szT_many : ∀ {ts : List Tng}, (∀ t, t ∈ ts → t.F.length ≤ 256) → szT ts ≤ 259 * ts.length
  | [], _ => by simp [szT]
  | o :: l, h => by
    have h1 := h o (List.mem_cons_self ..)
    have h2 := szT_many (ts := l) (fun x hx => h x (List.mem_cons_of_mem _ hx))
    simp only [szT, List.length_cons]
    omega
theorem ptsT_ok {ts : List Tng} (hF : ∀ t, t ∈ ts → t.F.length ≤ 256) (hn : ts.length ≤ 1000000) (x : Int) (hx : x ∈ ptsT ts) : (x % 2 = 0 ∧ 6 ≤ x) ∧ InI x := by
  obtain ⟨i, hi, rfl⟩ := List.mem_map.1 hx
  have h1 := szT_take_le ts i
  have h2 := szT_many hF
  unfold ptT
  refine ⟨⟨by omega, by omega⟩, ?_⟩
  constructor <;> (show _ ≤ _; omega)
theorem wobjectsN {w : World} {R : Nat → Prop} {r : Nat} {size : Int} {made : Nat} {L : List Ob} {lv : Value} {fv : Nat → Value} (h : RW w R r size made L lv fv) {n : Nat} (hn : L.length = n) {P : List Int} (hP : ptrs L = P) : Calls Try.prog 12 #[.pointer (some ⟨r, 0, none⟩)] w fun e w' => ∃ A c, e = .returned (.slice A n c) ∧ Nums w' A P ∧ (∀ b off, A = some ⟨b, off, none⟩ → w.heap.size ≤ b ∧ b < w'.heap.size) ∧ Below w.heap.size w w' := by
  subst hn; subst hP; exact wobjects_any h
theorem qobjectN {w : World} {rb bb n pc : Nat} {σ σ' : RdS} {PA : Option Addr} {ps : List Int} {t : Tng} (h : RT w rb bb σ) (hbb : bb < w.heap.size) (hp : Nums w PA ps) (hn : ps.length = n) (hn1 : n ≤ 100000000) (hne : ∀ b off, PA = some ⟨b, off, none⟩ → ¬ rset rb b) (hpe : ∀ x, x ∈ ps → x % 2 = 0 ∧ 6 ≤ x) (hpi : ∀ x, x ∈ ps → InI x) (ho : objN n σ = (t, σ')) : Calls Try.prog 53 #[.pointer (some ⟨rb, 0, none⟩), .slice PA n pc] w fun e w' => ∃ FA fc, e = .returned (.agg #[.int .i64 (realP ps (t.cls : Int)), .int .i64 (t.fmt : Int), .int .i64 t.hash, .slice FA t.F.length fc]) ∧ w'.ownsRow w.heap.size 3 1 (.slice FA t.F.length fc) (tObP ps t).F.length ((tObP ps t).F.map (Value.int .i64)) ∧ RT w' rb bb σ' ∧ Turns (rset rb) w w' := by
  refine (qobject_any h hbb hp hn hn1 hne hpe hpi).mono ?_
  rw [ho]
  rintro e w' ⟨v, rfl, hi, hr, ht⟩
  obtain ⟨FA, fc, hv, _⟩ := hi.nums
  rw [List.length_map] at hv
  subst hv
  refine ⟨FA, fc, rfl, ?_, hr, ht⟩
  have hF : (tObP ps t).F = t.F.map (fldP ps t.fmt) := by rw [fldP_map]; rfl
  rw [hF]
  exact hi
set_option maxRecDepth 100000 in
set_option maxHeartbeats 16000000 in
theorem rread_any {w : World} {A : Option Addr} {n c : Nat} {b : List Int} (hB : Bytes w A b) (hI : IsB b) (hn : b.length = n) (hc : n ≤ c) (hcm : c ≤ maxLen) (hnb : n ≤ 1000000) (size : Int) (hsi : InI size) : Calls Try.prog 18 #[.slice A n c, .int .i64 size] w (ReadQ w b size) := by
  have HB := Lib.hid hB
  have HI := Lib.hid hI
  have HN := Lib.hid hn
  by_cases h8 : n < 8
  · have d1 : decide (n < 8) = true := decide_eq_true h8
    have d1' : decide ((n : Int) < 8) = true := decide_eq_true (by omega)
    have HNO : Hid (imgV b = none) := Lib.hid (by unfold imgV; rw [if_neg (fun q => by have := q.1; omega)])
    clear hB hI hn
    go_enter Try.func18, Try.ntmps18
    go_wp2_with fail
    go_returns
    exact readQ_no HNO.out rfl (by (repeat' (first | (with_reducible exact Below.refl _ _) | (with_reducible assumption) | (with_reducible refine below_drewN ?_ _) | (with_reducible refine Below.alloc ?_ ?_ _) | (with_reducible refine Below.drew ?_) | (with_reducible refine Below.setCell ?_ ?_ _) | go_size)))
  have d1 : decide (n < 8) = false := decide_eq_false h8
  have d1' : decide ((n : Int) < 8) = false := decide_eq_false (by omega)
  obtain ⟨m, hm⟩ : ∃ m : Nat, n = m + 4 := ⟨n - 4, by omega⟩
  obtain ⟨g, off, hA, hlg, hdum⟩ := hB 0 (by omega)
  subst hA
  clear hdum
  have hs4 := str_bytes (c := c) (hB.take 4) (show (b.take 4).length = 4 by rw [List.length_take]; omega)
  by_cases hmg : b.take 4 = magicB
  · rw [hmg] at hs4
    have ks : (convert 30 9 (.slice (some ⟨g, off, none⟩) 4 c)).run Try.prog w = .ok (.string ⟨#[86, 73, 86, 49]⟩) w := hs4
    have HMG := Lib.hid hmg
    have HTB : Hid (Bytes w (some ⟨g, off, none⟩) (b.take m)) := Lib.hid (hB.take m)
    have HTI : Hid (IsB (b.take m)) := Lib.hid (fun x hx => hI x (List.mem_of_mem_take hx))
    have HTL : Hid ((b.take m).length = m) := Lib.hid (by rw [List.length_take]; omega)
    have nocap : (some (⟨g, off, none⟩ : Addr)) = none → c = 0 := fun e => by cases e
    have HPO : Hid (0 < (sealV (b.take m)).length) := Lib.hid (by unfold sealV tailV; simp)
    have HKB : Hid (∀ W, Below w.heap.size w W → (convert 30 9 (.slice (some ⟨g, off, none⟩) n c)).run Try.prog W = .ok (.string (strOfNums b)) W) := Lib.hid (fun W hW => str_bytes (hB.below hW) hn)
    have m1 : ((n : Int) - 4) = (m : Int) := by omega
    have m2 : (m : Int) + 4 - 4 = (m : Int) := by omega
    by_cases hse : sealV (b.take m) = b
    · have HST : Hid (strOfNums (sealV (b.take m)) = strOfNums b) := Lib.hid (by rw [hse])
      have HIM : Hid (imgV b = parse ((b.take m).drop 4)) := Lib.hid (by
        unfold imgV
        rw [if_pos ⟨by omega, hmg, (seal_eq (by omega)).1 hse⟩, show b.length - 4 = m by omega])
      obtain ⟨sb, hsb⟩ : ∃ sb, strOfNums b = sb := ⟨_, rfl⟩
      rw [hsb] at HST HKB
      clear hsb hse hs4 hmg hB hI hn
      subst hm
      go_enter Try.func18, Try.ntmps18
      go_upto_region 4 with fail
      go_cut [37] (fun v wx => v = .bool false ∧ Below w.heap.size w wx)
      case first =>
        have ksb0 := HKB.out w.drew (Below.drew (Below.refl _ _))
        go_region_with ((go_at_call 21; (with_reducible refine (sealedN (HTB.out.below (Below.drew (Below.refl _ _))) nocap HTI.out HTL.out (by omega)).mono ?_); rintro e w2 ⟨A3, n3, c3, rfl, hn3, hnc3, hcm3, hby3, hb3⟩; obtain ⟨g3, o3, hA3, hl3, hc3⟩ := hby3 0 (by rw [← hn3, hn3]; exact HPO.out); subst hA3; have ks3 := str_bytes (c := c3) hby3 hn3.symm; have hb3' : Below w.heap.size w w2 := (Below.drew (Below.refl _ _)).trans hb3; have ksb := HKB.out _ hb3'; rw [HST.out] at ks3; have HB2 := Lib.hid hb3'; clear hby3 hl3 hc3 hb3 hn3 hcm3 hnc3))
        all_goals
          go_wp2_with fail
          go_meet
          exact ⟨by simp, by (repeat' (first | (with_reducible exact Below.refl _ _) | (with_reducible assumption) | (with_reducible refine below_drewN ?_ _) | (with_reducible refine Below.alloc ?_ ?_ _) | (with_reducible refine Below.drew ?_) | (with_reducible refine Below.setCell ?_ ?_ _) | go_size))⟩
      case rest =>
        obtain ⟨rfl, hbc⟩ := hcut
        have HBC := Lib.hid hbc
        clear hbc ks
        obtain ⟨l, hl⟩ : ∃ l, (b.take m).drop 4 = l := ⟨_, rfl⟩
        have HLL : Hid (l.length = m - 4) := Lib.hid (by rw [← hl, List.length_drop, HTL.out])
        have HLB : Hid (Bytes w (some ⟨g, off + 4, none⟩) l) := Lib.hid (by rw [← hl]; exact HTB.out.drop 4)
        have HLI : Hid (IsB l) := Lib.hid (by rw [← hl]; exact fun x hx => HTI.out x (List.mem_of_mem_drop hx))
        have him := HIM.out
        rw [hl] at him
        obtain ⟨made, sA, hca⟩ : ∃ x s, parseA l = (x, s) := ⟨_, _, rfl⟩
        obtain ⟨many, sC, hcc⟩ : ∃ x s, parseC l = (x, s) := ⟨_, _, rfl⟩
        obtain ⟨ts, sO, hro⟩ : ∃ x s, rO l = (x, s) := ⟨_, _, rfl⟩
        obtain ⟨kr, sK, hrk⟩ : ∃ x s, rK l = (x, s) := ⟨_, _, rfl⟩
        obtain ⟨ws, sW, hrw⟩ : ∃ x s, rW l = (x, s) := ⟨_, _, rfl⟩
        have hok := rd_ok (l := l)
        have hno := rd_no (l := l) (bl := m + 4) (by have := HLL.out; omega)
        have HCA : Hid (cntR 1099511627776 (some l) = (made, sA)) := Lib.hid hca
        have HCC : Hid (cntR 1099511627776 sA = (many, sC)) := Lib.hid (by have h := hcc; unfold parseC at h; rw [hca] at h; exact h)
        have HRO : Hid (objsN many many sC = (ts, sO)) := Lib.hid (by have h := hro; unfold rO at h; rw [hcc] at h; exact h)
        have HRK : Hid (cntR 4000 sO = (kr, sK)) := Lib.hid (by have h := hrk; unfold rK at h; rw [hro] at h; exact h)
        have HRW : Hid (wrdsN many kr sK = (ws, sW)) := Lib.hid (by have h := hrw; unfold rW at h; rw [hcc, hrk] at h; exact h)
        rw [hca, hcc, hro, hrw] at hok
        rw [hca, hcc, hrw] at hno
        have HOK : Hid (many ≤ made → sW = some [] → parse l = some ⟨made, ts, ws⟩ ∧ ts.length = many) := Lib.hid hok
        have HNI : Hid (¬ (sC ≠ none ∧ many ≤ made ∧ many ≤ m + 4 ∧ sW = some []) → imgV b = none) := Lib.hid (fun h => him.trans (hno h))
        have HIM2 : Hid (imgV b = parse l) := Lib.hid him
        have hmb : made ≤ 1099511627776 := cntN_le _ _ hca
        have hkr : kr ≤ 4000 := cntN_le _ _ hrk
        have HF256 : Hid (∀ t, t ∈ ts → t.F.length ≤ 256) := Lib.hid (by have := objsN_len many many sC; rw [HRO.out] at this; exact this)
        have HTLE : Hid (ts.length ≤ many) := Lib.hid (by have := objsN_le many many sC; rw [HRO.out] at this; exact this)
        clear hl him hca hcc hro hrk hrw hok hno HIM
        go_wp2_with fail
        go_loopw [8, 9, 10, 11] (fun p mv rv i wr => ∃ (k : Nat) (PA : Option Addr) (pn pc : Nat) (ps : List Int), i = .int .i64 k ∧ k ≤ 2 ∧ p = .slice PA pn pc ∧ ps.length = pn ∧ Nums wr PA ps ∧ (∀ b' o', PA = some ⟨b', o', none⟩ → w.heap.size ≤ b' ∧ b' < wr.heap.size) ∧ Below w.heap.size w wr ∧ (k = 0 → ps = [] ∧ PA = none ∧ pc = 0) ∧ (0 < k → ps = ptsT ts ∧ many ≤ made ∧ sW = some []) ∧ (k = 2 → ∃ r R lv fv RA rc, mv = .pointer (some ⟨r, 0, none⟩) ∧ rv = .slice RA ws.length rc ∧ RW wr R r size made (ts.map (tObP (ptsT ts))) lv fv ∧ Nums wr RA (ws.map (realP (ptsT ts))))) (fun _ _ _ i _ => 2 - (intOf i).toNat)
        case atStart => exact ⟨0, none, 0, 0, [], rfl, by omega, rfl, rfl, nums_nil _ _, (fun _ _ e => by cases e), HBC.out, (fun _ => ⟨rfl, rfl, rfl⟩), (fun q => by omega), (fun q => by omega)⟩
        case round =>
          obtain ⟨k, PA, pn, pc, ps, rfl, hk3, rfl, hpl, hnm, hpb, hbw, hp0, hp1, hp4⟩ := hrel
          by_cases hk2 : k < 2
          · clear hp4
            rename World => wo
            have hwo := hbw.size
            have HPB := Lib.hid hpb
            have HPF := Lib.hid (And.intro hp0 hp1)
            have HPL := Lib.hid hpl
            have HBW := Lib.hid hbw
            have e1 : decide ((k : Int) < 2) = true := decide_eq_true (by omega)
            have hpl0 : PL w ((wo.alloc (.cells #[.slice (some ⟨g, off + 4, none⟩) (m - 4) (c - 4), .int .i64 0, .bool false] 89)).alloc (.cells #[.int .i64 size, .int .i64 0, .slice none 0 0] 61)) wo.heap.size g (wo.heap.size + 1) (some l) size 0 ∧ Nums ((wo.alloc (.cells #[.slice (some ⟨g, off + 4, none⟩) (m - 4) (c - 4), .int .i64 0, .bool false] 89)).alloc (.cells #[.int .i64 size, .int .i64 0, .slice none 0 0] 61)) PA ps := by
              have b0 : Below wo.heap.size wo (wo.alloc (.cells #[.slice (some ⟨g, off + 4, none⟩) (m - 4) (c - 4), .int .i64 0, .bool false] 89)) := (Below.refl _ _).alloc (Nat.le_refl _) _
              have b1 : Below (wo.heap.size + 1) (wo.alloc (.cells #[.slice (some ⟨g, off + 4, none⟩) (m - 4) (c - 4), .int .i64 0, .bool false] 89)) ((wo.alloc (.cells #[.slice (some ⟨g, off + 4, none⟩) (m - 4) (c - 4), .int .i64 0, .bool false] 89)).alloc (.cells #[.int .i64 size, .int .i64 0, .slice none 0 0] 61)) := (Below.refl _ _).alloc (by simp) _
              have b2 : Below wo.heap.size wo ((wo.alloc (.cells #[.slice (some ⟨g, off + 4, none⟩) (m - 4) (c - 4), .int .i64 0, .bool false] 89)).alloc (.cells #[.int .i64 size, .int .i64 0, .slice none 0 0] 61)) := b0.alloc (by simp) _
              have e9 := heap_alloc_new (wo.alloc (.cells #[.slice (some ⟨g, off + 4, none⟩) (m - 4) (c - 4), .int .i64 0, .bool false] 89)) (.cells #[.int .i64 size, .int .i64 0, .slice none 0 0] 61)
              rw [World.size_alloc] at e9
              have hll := HLL.out
              refine ⟨⟨⟨some ⟨g, off + 4, none⟩, c - 4, l, 0, ?_, Nat.zero_le _, by omega, (HLB.out.below HBW.out).below b2, HLI.out, ⟨fun b' o' e => by cases e; rfl, by omega⟩, fun l' e => by cases e; rfl⟩, e9, HBW.out.trans (b2.mono hwo), by omega⟩, hnm.below b2⟩
              rw [hll]
              exact (b1.block _ (by omega)).trans (heap_alloc_new wo _)
            obtain ⟨W0, hW0⟩ : ∃ W0, W0 = (wo.alloc (.cells #[.slice (some ⟨g, off + 4, none⟩) (m - 4) (c - 4), .int .i64 0, .bool false] 89)).alloc (.cells #[.int .i64 size, .int .i64 0, .slice none 0 0] 61) := ⟨_, rfl⟩
            rw [← hW0] at hpl0
            have HS := Lib.hid hpl0
            have k2 := HS.out.1.rt.c2
            have hrl := HS.out.1.rt.lt
            have kr1 := HS.out.1.c1
            have kf1 := HS.out.1.free 1
            have hr9 := HS.out.1.rlt
            clear hpl0 hpb hp0 hp1 hpl hbw hnm
            go_upto_region 14 with fail
            rw [← hW0]
            clear hW0
            go_upto_region 15 with (first | (go_at_call 52; (with_reducible refine (qcount_at HS.out.1.rt 1099511627776 1099511627776 rfl (by omega) HCA.out).mono ?_); rintro e w4 ⟨rfl, hr4, ht4⟩; replace HS := Lib.hid (And.intro (HS.out.1.read hr4 ht4) (HS.out.2.turns ht4 (fun b' o' e q => by have := (HPB.out b' o' e).2; unfold rset at q; omega))); have k2 := HS.out.1.rt.c2; have hrl := HS.out.1.rt.lt; have kr1 := HS.out.1.c1; have kf1 := HS.out.1.free 1; have hr9 := HS.out.1.rlt; clear hr4 ht4))
            obtain ⟨W5, hW5⟩ : ∃ W5, W5 = w4.setCell ⟨wo.heap.size + 1, 1, none⟩ (.int .i64 (made : Int)) := ⟨_, rfl⟩
            have hq5 : PL w W5 wo.heap.size g (wo.heap.size + 1) sA size made ∧ Nums W5 PA ps := by
              rw [hW5]
              exact ⟨HS.out.1.set_ made, HS.out.2.turns (T := fun z => z = wo.heap.size + 1) ((Turns.refl _ _).setCell _ _ rfl) (fun b' o' e q => by have := (HPB.out b' o' e).2; omega)⟩
            rw [← hW5]
            clear hW5 HS k2 kr1 kf1 hr9 hrl
            have HS := Lib.hid hq5
            have k2 := HS.out.1.rt.c2
            have hrl := HS.out.1.rt.lt
            have kr1 := HS.out.1.c1
            have kf1 := HS.out.1.free 1
            have hr9 := HS.out.1.rlt
            clear hq5
            go_upto_region 16 with (first | (go_at_call 52; (with_reducible refine (qcount_at HS.out.1.rt 1099511627776 1099511627776 rfl (by omega) HCC.out).mono ?_); rintro e w4 ⟨rfl, hr4, ht4⟩; replace HS := Lib.hid (And.intro (HS.out.1.read hr4 ht4) (HS.out.2.turns ht4 (fun b' o' e q => by have := (HPB.out b' o' e).2; unfold rset at q; omega))); have k2 := HS.out.1.rt.c2; have hrl := HS.out.1.rt.lt; have kr1 := HS.out.1.c1; have kf1 := HS.out.1.free 1; have hr9 := HS.out.1.rlt; clear hr4 ht4))
            cases hsc : sC with
            | none =>
              have HNO : Hid (imgV b = none) := Lib.hid (HNI.out (fun q => q.1 hsc))
              rw [hsc] at k2
              simp only [Option.isNone] at k2
              go_wp2_with fail
              go_returns
              exact readQ_no HNO.out rfl (HS.out.1.bl)
            | some lc =>
              rw [hsc] at k2
              simp only [Option.isNone] at k2
              by_cases hmm : many ≤ made
              · have d2 : decide ((made : Int) < (many : Int)) = false := decide_eq_false (by omega)
                have d2' : decide (made < many) = false := decide_eq_false (by omega)
                by_cases hmn : many ≤ m + 4
                · have d3 : decide ((m : Int) + 4 < (many : Int)) = false := decide_eq_false (by omega)
                  have d3' : decide (m + 4 < many) = false := decide_eq_false (by omega)
                  go_upto_if 76 with fail
                  go_cut [8] (fun v wx => ∃ (PA2 : Option Addr) (pc2 : Nat) (ps2 : List Int), v = .slice PA2 many pc2 ∧ ps2.length = many ∧ Nums wx PA2 ps2 ∧ (∀ b' o', PA2 = some ⟨b', o', none⟩ → b' < wx.heap.size ∧ b' ≠ wo.heap.size ∧ b' ≠ wo.heap.size + 1) ∧ (∀ x, x ∈ ps2 → x % 2 = 0 ∧ 6 ≤ x) ∧ (∀ x, x ∈ ps2 → InI x) ∧ (k = 1 → ps2 = ptsT ts) ∧ PL w wx wo.heap.size g (wo.heap.size + 1) sC size made)
                  case first =>
                    by_cases hk0 : k = 0
                    · subst hk0
                      obtain ⟨hps0, hpa0, hpc0⟩ := HPF.out.1 rfl
                      subst hpa0
                      subst hpc0
                      have hpn0 : pn = 0 := by rw [← HPL.out, hps0]; rfl
                      subst hpn0
                      obtain ⟨B0, hB0⟩ : ∃ B0, w4.heap.size = B0 := ⟨_, rfl⟩
                      have HB0 : Hid (wo.heap.size + 1 < B0) := Lib.hid (by rw [← hB0]; exact hr9)
                      go_wp2_with fail
                      go_loopw [8, 14] (fun v i wq => ∃ (j : Nat) (A2 : Option Addr) (c2 : Nat), i = .int .i64 j ∧ j ≤ many ∧ v = .slice A2 j c2 ∧ Ints wq B0 (.slice A2 j c2) (List.replicate j 6) ∧ PL w wq wo.heap.size g (wo.heap.size + 1) sC size made ∧ B0 ≤ wq.heap.size) (fun _ i _ => many - (intOf i).toNat)
                      case atStart => exact ⟨0, none, 0, rfl, Nat.zero_le _, rfl, Ints.nil0 _ _, HS.out.1, by omega⟩
                      case round =>
                        obtain ⟨j, A2, c2, rfl, hj, rfl, hin, hpl2, hbs⟩ := hrel
                        have HI := Lib.hid hin
                        have HP2 := Lib.hid hpl2
                        clear hin hpl2
                        by_cases hlt : j < many
                        · have f1 : decide (j < many) = true := decide_eq_true hlt
                          have f2 : decide ((j : Int) < (many : Int)) = true := decide_eq_true (by omega)
                          go_wp2_with (first | (at_builtin; refine wpList_num rfl _ _ rfl B0 _ (List.replicate j 6) rfl (HI.out.below1 _) (B := wr.heap.size) (y := 6) rfl (by simp [go_sem]) (by simp; omega) (by simp; omega) ?_; intro v7 w7 hi7 hg7; obtain ⟨A7, c7, hv7, _⟩ := hi7.nums; subst hv7; rw [List.length_append, List.length_replicate] at hi7 ⊢; have HI7 := Lib.hid hi7; have HG7 := Lib.hid hg7; clear hi7 hg7))
                          go_roundw
                          case rel =>
                            refine ⟨j + 1, A7, c7, by go_num, hlt, rfl, ?_, ?_, ?_⟩
                            · have h9 := HI7.out
                              rw [List.replicate_succ']
                              exact h9
                            · exact (HP2.out.below ((Below.refl _ _).alloc (Nat.le_refl _) _)).grow HG7.out (fun q hq => by have h8 := (World.ownsRow.lt HI.out q hq).1; have := HB0.out; omega)
                            · have h9 := HG7.out.size; simp at h9; omega
                          case measure => simp [intOf]; omega
                        · have f1 : decide (j < many) = false := decide_eq_false hlt
                          have f2 : decide ((j : Int) < (many : Int)) = false := decide_eq_false (by omega)
                          obtain rfl : j = many := by omega
                          clear hlt
                          go_wp2_with fail
                          go_meet
                          obtain ⟨A8, c8, e8, _, hn8, _⟩ := HI.out.nums
                          rw [List.length_replicate] at e8
                          cases e8
                          refine ⟨_, _, _, rfl, List.length_replicate, hn8, ?_, ?_, ?_, (fun q => by omega), HP2.out⟩
                          · intro b' o' e
                            subst e
                            have h8 := World.ownsRow.lt HI.out b' rfl
                            have := HB0.out
                            omega
                          · intro x hx
                            rw [List.eq_of_mem_replicate hx]; omega
                          · intro x hx
                            rw [List.eq_of_mem_replicate hx]; constructor <;> decide
                    · have hk1 : k = 1 := by omega
                      subst hk1
                      obtain ⟨hps1, hp2, hp3⟩ := HPF.out.2 (by omega)
                      have hlen1 := (HOK.out hp2 hp3).2
                      have hpn1 : pn = many := by rw [← HPL.out, hps1, ptsT_len]; exact hlen1
                      subst hpn1
                      go_wp2_with fail
                      go_meet
                      refine ⟨_, _, ps, rfl, HPL.out, HS.out.2, ?_, ?_, ?_, (fun _ => hps1), HS.out.1⟩
                      · intro b' o' e
                        have := HPB.out b' o' e
                        omega
                      · rw [hps1]; exact fun x hx => (ptsT_ok HF256.out (by have := HTLE.out; omega) x hx).1
                      · rw [hps1]; exact fun x hx => (ptsT_ok HF256.out (by have := HTLE.out; omega) x hx).2
                  case rest =>
                    obtain ⟨PA2, pc2, ps2, rfl, hpn2, hnm2, hpb3, hpe2, hpi2, hpk, hpl3⟩ := hcut
                    have HP3 := Lib.hid (And.intro hpl3 hnm2)
                    have HPN2 := Lib.hid hpn2
                    have HPB3 := Lib.hid hpb3
                    have HPE2 := Lib.hid hpe2
                    have HPI2 := Lib.hid hpi2
                    have HPK := Lib.hid hpk
                    have k2 := hpl3.rt.c2
                    have hrl := hpl3.rt.lt
                    have kr1 := hpl3.c1
                    rw [hsc] at k2
                    simp only [Option.isNone] at k2
                    clear hnm2 hpn2 hpb3 hpe2 hpi2 hpk hpl3 HS
                    go_upto_block 4 with fail
                    go_cut [] (fun wx => ∃ R lv fv B, QL w wx wo.heap.size g (wo.heap.size + 1) sO size made (ts.map (tObP ps2)) lv fv R B ∧ Nums wx PA2 ps2 ∧ ∀ b' o', PA2 = some ⟨b', o', none⟩ → b' < B)
                    case first =>
                      obtain ⟨B0, hB0⟩ : ∃ B0, wc.heap.size = B0 := ⟨_, rfl⟩
                      have hql0 := PL.ql (w' := wc) (σ' := sC) HP3.out.1
                      rw [hB0] at hql0
                      have HB0 : Hid (B0 = wc.heap.size) := Lib.hid hB0.symm
                      have HGB0 : Hid (g < wo.heap.size) := Lib.hid (by have := HP3.out.1.ord; omega)
                      have HPB2 : Hid (∀ b' o', PA2 = some ⟨b', o', none⟩ → b' < B0 ∧ b' ≠ wo.heap.size ∧ b' ≠ wo.heap.size + 1) := Lib.hid (fun b' o' e => by have := HPB3.out b' o' e; omega)
                      have hin0 : QL w wc wo.heap.size g (wo.heap.size + 1) sC size made (([] : List Tng).map (tObP ps2)) (.slice none 0 0) (fun _ => .slice none 0 0) (fun _ => False) B0 ∧ Nums wc PA2 ps2 := ⟨hql0, HP3.out.2⟩
                      have HIN0 := Lib.hid hin0
                      clear hql0 hin0 hB0
                      go_wp2_with fail
                      go_loopw [15] (fun i wq => ∃ (j : Nat) (σk : RdS) (T0 : List Tng) (R : Nat → Prop) (lv : Value) (fv : Nat → Value), i = .int .i64 j ∧ j ≤ many ∧ T0.length = j ∧ (QL w wq wo.heap.size g (wo.heap.size + 1) σk size made (T0.map (tObP ps2)) lv fv R B0 ∧ Nums wq PA2 ps2) ∧ objsN many many sC = (T0 ++ (objsN many (many - j) σk).1, (objsN many (many - j) σk).2)) (fun i _ => many - (intOf i).toNat)
                      case atStart => exact ⟨0, sC, [], _, _, _, rfl, Nat.zero_le _, rfl, HIN0.out, by simp⟩
                      case round =>
                        obtain ⟨j, σk, T0, R, lv, fv, rfl, hj, htj, hq, hob⟩ := hrel
                        have HQ := Lib.hid hq
                        have HTJ := Lib.hid htj
                        have HOB := Lib.hid hob
                        have k2 := hq.1.rt.c2
                        have hrl := hq.1.rt.lt
                        have s2 := hq.1.c2
                        have sf2 := hq.1.rw_.free 2
                        have HGB : Hid (g < wr.drew.heap.size) := Lib.hid (by have h1 := hq.1.ord; have h2 := HGB0.out; show g < wr.heap.size; omega)
                        have HDR : Hid (Below wr.heap.size wr wr.drew) := Lib.hid (Below.drew (Below.refl _ _))
                        clear hq htj hob HIN0
                        by_cases hlt : j < many
                        · have f1 : decide (j < many) = true := decide_eq_true hlt
                          have f2 : decide ((j : Int) < (many : Int)) = true := decide_eq_true (by omega)
                          cases σk with
                          | some lk =>
                            simp only [Option.isNone] at k2
                            obtain ⟨t, σ', ho1⟩ : ∃ t s, objN many (some lk) = (t, s) := ⟨_, _, rfl⟩
                            have HO1 := Lib.hid ho1
                            have HL6 : Hid ((tObP ps2 t).F.length ≤ 256) := Lib.hid (by
                              have h1 := tObP_len ps2 [t]
                              unfold LenT at h1
                              simp at h1
                              rw [h1]
                              have h2 := objN_len many (some lk)
                              rw [ho1] at h2
                              exact h2)
                            have HOB2 : Hid (objsN many many sC = ((T0 ++ [t]) ++ (objsN many (many - (j + 1)) σ').1, (objsN many (many - (j + 1)) σ').2)) := Lib.hid (by
                              rw [HOB.out, show many - j = many - (j + 1) + 1 by omega]
                              have e : ∀ q, objsN many (q + 1) (some lk) = ((objN many (some lk)).1 :: (objsN many q (objN many (some lk)).2).1, (objsN many q (objN many (some lk)).2).2) := fun _ => rfl
                              rw [e, HO1.out]
                              simp)
                            clear ho1
                            go_upto_region 26 with fail
                            go_region_law (first | (go_simp; go_at_call 53; (with_reducible refine (qobjectN (HQ.out.1.below HDR.out).rt HGB.out ((HQ.out.2).below HDR.out) HPN2.out (by omega) (fun b' o' e q => by have := HPB2.out b' o' e; unfold rset at q; omega) HPE2.out HPI2.out HO1.out).mono ?_); rintro e w5 ⟨FA, fc, rfl, hi5, hr5, ht5⟩; have HF6 := Lib.hid (ownsRow_below hi5 ((Below.refl _ _).alloc (Nat.le_refl _) (.cells #[.int .i64 (realP ps2 (t.cls : Int)), .int .i64 (t.fmt : Int), .int .i64 t.hash, .slice FA t.F.length fc] 75))); have HQ5 := Lib.hid (And.intro ((HQ.out.1.below HDR.out).read hr5 ht5) (((HQ.out.2).below HDR.out).turns ht5 (fun b' o' e q => by have := HPB2.out b' o' e; unfold rset at q; omega))); have s2 := HQ5.out.1.c2; have sf2 := HQ5.out.1.rw_.free 2; have hq5s : wo.heap.size + 1 < w5.heap.size := HQ5.out.1.rw_.rlt; have HBA : Hid (Below w5.heap.size w5 (w5.alloc (.cells #[.int .i64 (realP ps2 (t.cls : Int)), .int .i64 (t.fmt : Int), .int .i64 t.hash, .slice FA t.F.length fc] 75))) := Lib.hid ((Below.refl _ _).alloc (Nat.le_refl _) _); have HG6 : Hid ((w5.alloc (.cells #[.int .i64 (realP ps2 (t.cls : Int)), .int .i64 (t.fmt : Int), .int .i64 t.hash, .slice FA t.F.length fc] 75)).heap[w5.heap.size]? = some (.cells #[.int .i64 (realP ps2 (t.cls : Int)), .int .i64 (t.fmt : Int), .int .i64 t.hash, .slice FA t.F.length fc] 75 (0, 0))) := Lib.hid (heap_alloc_new w5 _); have s2w : (w5.alloc (.cells #[.int .i64 (realP ps2 (t.cls : Int)), .int .i64 (t.fmt : Int), .int .i64 t.hash, .slice FA t.F.length fc] 75)).cell? ⟨wo.heap.size + 1, 2, none⟩ = some lv := alloc_keep3 s2; clear hi5 hr5 ht5) | ((refine step_obj rfl _ _ rfl (HQ5.out.1.below (HBA.out)) (by simp [Act.eval, Act.put]) (G := w5.heap.size) (by simp [Act.eval, Act.put]) (tObP ps2 t) (v := .slice FA t.F.length fc) (Bv := wr.heap.size) HG6.out (fun q hq => HQ.out.1.rw_.lm.lt q hq) HQ.out.1.ord.2.2.2.2 HF6.out HL6.out (by have := HTJ.out; simp only [List.length_map]; omega) rfl ?_; intro lv7 w7 hqm hg7; obtain ⟨R7, fv7, hqm⟩ := hqm; obtain ⟨A7, n7, c7, hv7⟩ : ∃ A n c, lv7 = .slice A n c := (let ⟨A, c, h, _⟩ := hqm.lm.list; ⟨A, _, c, h⟩); subst hv7; have HQM := Lib.hid hqm; have HG7 := Lib.hid hg7; have s27 := hqm.c2; have sf27 := hqm.free; clear hqm hg7)))
                            all_goals
                              go_wp2_with fail
                              go_roundw
                              case rel =>
                                have hst := HQM.out.store
                                have hT7 : Turns (fun z => lv.ownBlock = some z) (w5.alloc (.cells #[.int .i64 (realP ps2 (t.cls : Int)), .int .i64 (t.fmt : Int), .int .i64 t.hash, .slice FA t.F.length fc] 75)) w7 := ⟨HG7.out.os, HG7.out.tape, HG7.out.output, HG7.out.size, fun q hq hs => HG7.out.block q hq (fun z => hs z.symm)⟩
                                have hn7 : Nums w7 PA2 ps2 := (HQ5.out.2.below HBA.out).turns hT7 (fun b' o' e q => by have h1 := HPB2.out b' o' e; have h2 := HQ.out.1.ge _ (HQ.out.1.rw_.lm.inL _ q); omega)
                                have hn8 : Nums (w7.setCell ⟨wo.heap.size + 1, 2, none⟩ (.slice A7 n7 c7)) PA2 ps2 := hn7.turns (T := fun z => z = wo.heap.size + 1) ((Turns.refl _ _).setCell _ _ rfl) (fun b' o' e q => by have h1 := HPB2.out b' o' e; omega)
                                rw [← List.map_singleton (f := tObP ps2), ← List.map_append] at hst
                                exact ⟨j + 1, σ', T0 ++ [t], R7, _, fv7, by go_num, hlt, by rw [List.length_append, HTJ.out]; rfl, ⟨hst, hn8⟩, HOB2.out⟩
                              case measure => simp [intOf]; omega
                          | none =>
                            simp only [Option.isNone] at k2
                            have HFF : Hid (ts = T0 ∧ sO = none) := Lib.hid (by
                              have h1 := HOB.out
                              rw [HRO.out, show many - j = many - (j + 1) + 1 by omega] at h1
                              have e : ∀ q, objsN many (q + 1) none = ([], none) := fun _ => rfl
                              rw [e] at h1
                              cases h1
                              simp)
                            go_wp2_with fail
                            go_meet
                            rw [HFF.out.1, HFF.out.2]
                            exact ⟨R, lv, fv, B0, HQ.out.1, HQ.out.2, fun b' o' e => (HPB2.out b' o' e).1⟩
                        · have f1 : decide (j < many) = false := decide_eq_false hlt
                          have f2 : decide ((j : Int) < (many : Int)) = false := decide_eq_false (by omega)
                          have HFF : Hid (ts = T0 ∧ sO = σk) := Lib.hid (by
                            have h1 := HOB.out
                            rw [HRO.out, show many - j = 0 by omega] at h1
                            have e : ∀ σ, objsN many 0 σ = ([], σ) := fun _ => rfl
                            rw [e] at h1
                            cases h1
                            simp)
                          go_wp2_with fail
                          go_meet
                          rw [HFF.out.1, HFF.out.2]
                          exact ⟨R, lv, fv, B0, HQ.out.1, HQ.out.2, fun b' o' e => (HPB2.out b' o' e).1⟩
                    case rest =>
                      obtain ⟨R, lv, fv, B, hq, hnm4, hpb4⟩ := hcut
                      have HQ := Lib.hid (And.intro hq hnm4)
                      have HPB2 : Hid (∀ b' o', PA2 = some ⟨b', o', none⟩ → b' < B ∧ b' ≠ wo.heap.size ∧ b' ≠ wo.heap.size + 1) := Lib.hid (fun b' o' e => by have := hpb4 b' o' e; have := HPB3.out b' o' e; omega)
                      have HPS6 : Hid (B ≤ wc.heap.size) := Lib.hid hq.ord.2.2.2.2
                      have k2 := hq.rt.c2
                      have hrl := hq.rt.lt
                      clear hq hnm4 hpb4
                      go_upto_block 6 with (first | (go_at_call 52; (with_reducible refine (qcount_at HQ.out.1.rt 4000 4000 rfl (by omega) HRK.out).mono ?_); rintro e w6 ⟨rfl, hr6, ht6⟩; replace HQ := Lib.hid (And.intro (HQ.out.1.read hr6 ht6) ((HQ.out.2).turns ht6 (fun b' o' e q => by have := HPB2.out b' o' e; unfold rset at q; omega))); have k2 := HQ.out.1.rt.c2; have hrl := HQ.out.1.rt.lt; clear hr6 ht6))
                      have HPS6 : Hid (B ≤ w6.heap.size) := Lib.hid HQ.out.1.ord.2.2.2.2
                      go_cut [10] (fun v wx => ∃ (A6 : Option Addr) (c6 : Nat), v = .slice A6 ws.length c6 ∧ Nums wx A6 (ws.map (realP ps2)) ∧ QL w wx wo.heap.size g (wo.heap.size + 1) sW size made (ts.map (tObP ps2)) lv fv R B ∧ Nums wx PA2 ps2)
                      case first =>
                        obtain ⟨B6, hB6⟩ : ∃ B6, w6.heap.size = B6 := ⟨_, rfl⟩
                        have HB6 : Hid (wo.heap.size + 1 < B6 ∧ B6 = w6.heap.size) := Lib.hid ⟨by rw [← hB6]; exact HQ.out.1.rw_.rlt, hB6.symm⟩
                        have HRB6 : Hid (∀ q, R q → q < B6) := Lib.hid (fun q hq => by have := HQ.out.1.rw_.lm.lt q hq; omega)
                        have HIN0 := Lib.hid HQ.out
                        clear HQ k2 hrl hB6
                        go_wp2_with fail
                        go_loopw [10, 17] (fun v i wq => ∃ (j : Nat) (σk : RdS) (zs : List Int) (A6 : Option Addr) (c6 : Nat), v = .slice A6 j c6 ∧ i = .int .i64 j ∧ j ≤ kr ∧ zs.length = j ∧ Ints wq B6 (.slice A6 j c6) (zs.map (realP ps2)) ∧ (QL w wq wo.heap.size g (wo.heap.size + 1) σk size made (ts.map (tObP ps2)) lv fv R B ∧ Nums wq PA2 ps2) ∧ B6 ≤ wq.heap.size ∧ wrdsN many kr sK = (zs ++ (wrdsN many (kr - j) σk).1, (wrdsN many (kr - j) σk).2)) (fun _ i _ => kr - (intOf i).toNat)
                        case atStart => exact ⟨0, sK, [], none, 0, rfl, rfl, Nat.zero_le _, rfl, Ints.nil0 _ _, HIN0.out, by have := HB6.out; omega, by simp⟩
                        case round =>
                          obtain ⟨j, σk, zs, A6, c6, rfl, rfl, hj, hzj, hin, hq, hbs, hob⟩ := hrel
                          have HQ := Lib.hid hq
                          have HI := Lib.hid hin
                          have HZJ := Lib.hid hzj
                          have HOB := Lib.hid hob
                          have HBS := Lib.hid hbs
                          have k2 := hq.1.rt.c2
                          have hrl := hq.1.rt.lt
                          clear hq hzj hob hin HIN0
                          by_cases hlt : j < kr
                          · have f1 : decide (j < kr) = true := decide_eq_true hlt
                            have f2 : decide ((j : Int) < (kr : Int)) = true := decide_eq_true (by omega)
                            cases σk with
                            | some lk =>
                              simp only [Option.isNone] at k2
                              obtain ⟨x, σ', ho1⟩ : ∃ t s, wrdN many (some lk) = (t, s) := ⟨_, _, rfl⟩
                              have HO1 := Lib.hid ho1
                              obtain ⟨vc, hvc⟩ : ∃ v, realP ps2 (x : Int) = v := ⟨_, rfl⟩
                              have HVC := Lib.hid hvc
                              have HVV : Hid (zs.map (realP ps2) ++ [vc] = (zs ++ [(x : Int)]).map (realP ps2)) := Lib.hid (by rw [List.map_append, List.map_singleton, hvc])
                              have HZJ1 : Hid ((zs ++ [(x : Int)]).length = j + 1) := Lib.hid (by rw [List.length_append, HZJ.out]; rfl)
                              have HOB2 : Hid (wrdsN many kr sK = ((zs ++ [(x : Int)]) ++ (wrdsN many (kr - (j + 1)) σ').1, (wrdsN many (kr - (j + 1)) σ').2)) := Lib.hid (by
                                rw [HOB.out, show kr - j = kr - (j + 1) + 1 by omega]
                                have e : ∀ q, wrdsN many (q + 1) (some lk) = (((wrdN many (some lk)).1 : Int) :: (wrdsN many q (wrdN many (some lk)).2).1, (wrdsN many q (wrdN many (some lk)).2).2) := fun _ => rfl
                                rw [e, HO1.out]
                                simp)
                              clear ho1 hvc
                              go_wp2_with (first | (go_at_call 54; (with_reducible refine (qword_at HQ.out.1.rt HQ.out.2 HPN2.out (by omega) (fun b' o' e q => by have := HPB2.out b' o' e; unfold rset at q; omega) HPI2.out HO1.out HVC.out).mono ?_); rintro e w5 ⟨rfl, hr5, ht5⟩; have HQ5 := Lib.hid (And.intro (HQ.out.1.read hr5 ht5) ((HQ.out.2).turns ht5 (fun b' o' e q => by have := HPB2.out b' o' e; unfold rset at q; omega))); have HI5 := Lib.hid (HI.out.turnsT ht5 (fun z hz q => by have := HB6.out; unfold rset at q; omega)); have HS5 := Lib.hid (Turns.size ht5); clear hr5 ht5) | (at_builtin; refine wpList_num rfl _ _ rfl B6 _ (zs.map (realP ps2)) rfl (HI5.out.below1 _) (B := w5.heap.size) (y := vc) rfl (by simp [go_sem]) (by have := HZJ.out; simp only [List.length_map]; omega) (by have := HS5.out; have := HBS.out; simp only [World.size_alloc]; omega) ?_; intro v7 w7 hi7 hg7; obtain ⟨A7, c7, hv7, _⟩ := hi7.nums; subst hv7; rw [HVV.out, List.length_map, HZJ1.out] at hi7 ⊢; have HI7 := Lib.hid hi7; have HG7 := Lib.hid hg7; clear hi7 hg7))
                              go_roundw
                              case rel =>
                                refine ⟨j + 1, σ', zs ++ [(x : Int)], A7, c7, rfl, by go_num, hlt, HZJ1.out, HI7.out, ?_, ?_, HOB2.out⟩
                                · have hv : ∀ q, (Value.slice A6 j c6).ownBlock = some q → B6 ≤ q := fun q hq => (World.ownsRow.lt HI5.out q hq).1
                                  have hal := (Below.refl w5.heap.size w5).alloc (Nat.le_refl _) (.cells #[.int .i64 vc] 3)
                                  refine ⟨(HQ5.out.1.below hal).grow HG7.out (fun q hq => ⟨by have := hv q hq; have := HB6.out; omega, fun z => by have := hv q hq; have := HRB6.out q z; omega⟩), ?_⟩
                                  have hT7 : Turns (fun z => (Value.slice A6 j c6).ownBlock = some z) (w5.alloc (.cells #[.int .i64 vc] 3)) w7 := ⟨HG7.out.os, HG7.out.tape, HG7.out.output, HG7.out.size, fun q hq hs => HG7.out.block q hq (fun z => hs z.symm)⟩
                                  exact (HQ5.out.2.below hal).turns hT7 (fun b' o' e q => by have h1 := HPB2.out b' o' e; have h2 := hv _ q; have := HPS6.out; have := HB6.out; omega)
                                · have h9 := HG7.out.size; have := HS5.out; simp at h9; omega
                              case measure => simp [intOf]; omega
                            | none =>
                              simp only [Option.isNone] at k2
                              have HFF : Hid (ws = zs ∧ sW = none) := Lib.hid (by
                                have h1 := HOB.out
                                rw [HRW.out, show kr - j = kr - (j + 1) + 1 by omega] at h1
                                have e : ∀ q, wrdsN many (q + 1) none = ([], none) := fun _ => rfl
                                rw [e] at h1
                                cases h1
                                simp)
                              go_wp2_with fail
                              go_meet
                              obtain ⟨A8, c8, e8, _, hn8, _⟩ := HI.out.nums
                              rw [List.length_map, HZJ.out] at e8
                              cases e8
                              rw [HFF.out.1, HFF.out.2]
                              exact ⟨_, _, by rw [HZJ.out], hn8, HQ.out⟩
                          · have f1 : decide (j < kr) = false := decide_eq_false hlt
                            have f2 : decide ((j : Int) < (kr : Int)) = false := decide_eq_false (by omega)
                            have HFF : Hid (ws = zs ∧ sW = σk) := Lib.hid (by
                              have h1 := HOB.out
                              rw [HRW.out, show kr - j = 0 by omega] at h1
                              have e : ∀ σ, wrdsN many 0 σ = ([], σ) := fun _ => rfl
                              rw [e] at h1
                              cases h1
                              simp)
                            go_wp2_with fail
                            go_meet
                            obtain ⟨A8, c8, e8, _, hn8, _⟩ := HI.out.nums
                            rw [List.length_map, HZJ.out] at e8
                            cases e8
                            rw [HFF.out.1, HFF.out.2]
                            exact ⟨_, _, by rw [HZJ.out], hn8, HQ.out⟩
                      case rest =>
                        obtain ⟨A6, c6, rfl, hnw, hq⟩ := hcut
                        have HQ := Lib.hid hq
                        have HNW := Lib.hid hnw
                        have k2 := hq.1.rt.c2
                        have hrl := hq.1.rt.lt
                        clear hnw hq
                        rename World => wz
                        go_upto_if 144 with fail
                        go_cut [144] (fun v wx => ∃ tb : Bool, v = .bool tb ∧ Below wz.heap.size wz wx ∧ (tb = false ↔ sW = some []))
                        case first =>
                          cases hsw : sW with
                          | none =>
                            rw [hsw] at k2
                            simp only [Option.isNone] at k2
                            go_quiet (fail)
                            go_wp2_with fail
                            go_meet
                            exact ⟨true, rfl, by (repeat' (first | (with_reducible exact Below.refl _ _) | (with_reducible assumption) | (with_reducible refine below_drewN ?_ _) | (with_reducible refine Below.alloc ?_ ?_ _) | (with_reducible refine Below.drew ?_) | (with_reducible refine Below.setCell ?_ ?_ _) | go_size)), by rw [hsw]; simp⟩
                          | some lw =>
                            rw [hsw] at k2
                            simp only [Option.isNone] at k2
                            obtain ⟨AR, cR, LR, kR, hx1, hx2, hx3, _, _, _, hx7⟩ := HQ.out.1.rt
                            have hlw := hx7 lw (by rw [hsw])
                            obtain ⟨nR, hnR⟩ : ∃ nR, LR.length = nR := ⟨_, rfl⟩
                            rw [hnR] at hx1 hx2 hx3
                            have y0 : wz.cell? ⟨wo.heap.size, 0, none⟩ = some (.slice AR nR cR) := by simp [World.cell?, hx1]
                            have y1 : wz.cell? ⟨wo.heap.size, 1, none⟩ = some (.int .i64 (kR : Int)) := by simp [World.cell?, hx1]
                            clear hx1 hx7
                            by_cases hend : kR < nR
                            · have g1 : decide ((kR : Int) < (nR : Int)) = true := decide_eq_true (by omega)
                              have g2 : decide (kR < nR) = true := decide_eq_true hend
                              have HNE : Hid (lw ≠ []) := Lib.hid (fun q => by
                                rw [q] at hlw
                                have h2 := congrArg List.length hlw
                                simp at h2
                                omega)
                              clear hlw hnR
                              go_quiet (fail)
                              go_wp2_with fail
                              go_meet
                              exact ⟨true, rfl, by (repeat' (first | (with_reducible exact Below.refl _ _) | (with_reducible assumption) | (with_reducible refine below_drewN ?_ _) | (with_reducible refine Below.alloc ?_ ?_ _) | (with_reducible refine Below.drew ?_) | (with_reducible refine Below.setCell ?_ ?_ _) | go_size)), by rw [hsw]; simp [HNE.out]⟩
                            · have g1 : decide ((kR : Int) < (nR : Int)) = false := decide_eq_false (by omega)
                              have g2 : decide (kR < nR) = false := decide_eq_false hend
                              have hl0 : lw = [] := by rw [hlw]; exact List.drop_eq_nil_of_le (by omega)
                              subst hl0
                              clear hlw hnR
                              go_quiet (fail)
                              go_wp2_with fail
                              go_meet
                              exact ⟨false, rfl, by (repeat' (first | (with_reducible exact Below.refl _ _) | (with_reducible assumption) | (with_reducible refine below_drewN ?_ _) | (with_reducible refine Below.alloc ?_ ?_ _) | (with_reducible refine Below.drew ?_) | (with_reducible refine Below.setCell ?_ ?_ _) | go_size)), by rw [hsw]; simp⟩
                        case rest =>
                          obtain ⟨tb, rfl, hbz, htb⟩ := hcut
                          replace HQ := Lib.hid (And.intro (HQ.out.1.below hbz) (HQ.out.2.below hbz))
                          replace HNW := Lib.hid (HNW.out.below hbz)
                          clear hbz k2 hrl
                          cases tb with
                          | true =>
                            have HNO : Hid (imgV b = none) := Lib.hid (HNI.out (fun q => by have := htb.2 q.2.2.2; cases this))
                            go_wp2_with fail
                            go_returns
                            exact readQ_no HNO.out rfl (HQ.out.1.bl)
                          | false =>
                            have hsw := htb.1 rfl
                            have HTM : Hid ((ts.map (tObP ps2)).length = many) := Lib.hid (by rw [List.length_map]; exact (HOK.out hmm hsw).2)
                            have HPT : Hid (ptrs (ts.map (tObP ps2)) = ptsT ts) := Lib.hid (ptrs_P ps2 ts)
                            have HSW := Lib.hid hsw
                            clear htb hsw
                            go_wp2_with (first | (go_at_call 12; (with_reducible refine (wobjectsN HQ.out.1.rw_ HTM.out HPT.out).mono ?_); rintro e w7 ⟨A7, c7, rfl, hn7, hb7, hbw7⟩; have HN7 := Lib.hid hn7; have HB7 := Lib.hid hb7; have HBW7 := Lib.hid hbw7; clear hn7 hb7 hbw7))
                            go_roundw
                            case rel =>
                              refine ⟨k + 1, A7, many, c7, ptsT ts, by go_num, by omega, rfl, by have := HTM.out; rw [List.length_map] at this; rw [ptsT_len, this], HN7.out, ?_, HQ.out.1.bl.trans (HBW7.out.mono HQ.out.1.bl.size), (fun q => by omega), (fun _ => ⟨rfl, hmm, HSW.out⟩), (fun q => ?_)⟩
                              · intro b' o' e
                                have h1 := HB7.out b' o' e
                                have h2 := HQ.out.1.bl.size
                                omega
                              · have e2 : ps2 = ptsT ts := HPK.out (by omega)
                                have h9 := HQ.out.1.rw_.below HBW7.out
                                have h8 := HNW.out.below HBW7.out
                                rw [e2] at h9 h8
                                exact ⟨_, _, _, _, _, _, rfl, rfl, h9, h8⟩
                            case measure => simp [intOf]; omega
                · have d3 : decide ((m : Int) + 4 < (many : Int)) = true := decide_eq_true (by omega)
                  have d3' : decide (m + 4 < many) = true := decide_eq_true (by omega)
                  have HNO : Hid (imgV b = none) := Lib.hid (HNI.out (fun q => hmn q.2.2.1))
                  go_wp2_with fail
                  go_returns
                  exact readQ_no HNO.out rfl (HS.out.1.bl)
              · have d2 : decide ((made : Int) < (many : Int)) = true := decide_eq_true (by omega)
                have d2' : decide (made < many) = true := decide_eq_true (by omega)
                have HNO : Hid (imgV b = none) := Lib.hid (HNI.out (fun q => hmm q.2.1))
                go_wp2_with fail
                go_returns
                exact readQ_no HNO.out rfl (HS.out.1.bl)
          · skip
            have hk2' : k = 2 := by omega
            subst hk2'
            obtain ⟨rfl_, hp2, hp3⟩ := hp1 (by omega)
            obtain ⟨r, R, lv, fv, RA, rc, rfl, rfl, hrw, hnr⟩ := hp4 rfl
            obtain ⟨hpo, htm⟩ := HOK.out hp2 hp3
            have HPO2 := Lib.hid hpo
            have hpok := parse_ok HLI.out hpo
            have hln : ts.length ≤ l.length := hpok.2.2.2.2.2
            have HPK2 := Lib.hid hpok
            have HBL : Hid (ts.map (tObP (ptsT ts)) = bldL ts) := Lib.hid (bld_P hpok.1)
            have HWL : Hid (ws.map (realP (ptsT ts)) = ws.map (realI ts)) := Lib.hid (ws_P hpok.2.1)
            have HRWF := Lib.hid hrw
            have HNR := Lib.hid hnr
            have HBW := Lib.hid hbw
            have e1 : decide ((2 : Int) < 2) = false := by decide
            have HRD : Hid (readV b size = if okN size = true ∧ ((3 + szT ts : Nat) : Int) ≤ size then (some ⟨made, ts, ws⟩, 0) else (none, 4)) := Lib.hid (by unfold readV; rw [HIM2.out, hpo])
            clear hp0 hp1 hp4 hpo hpok hrw hnr hbw hnm hpb hp2 hp3
            by_cases h16 : size < 16
            · have d16 : decide (size < 16) = true := decide_eq_true h16
              have HRN : Hid (readV b size = (none, 4)) := Lib.hid (by rw [HRD.out, if_neg (fun q => by have := (okN_iff.1 q.1).1; omega)])
              go_wp2_with fail
              go_returns
              exact ⟨by rw [HRN.out]; rfl, HBW.out⟩
            · have d16 : decide (size < 16) = false := decide_eq_false h16
              by_cases hbig : 131072 < size
              · have db : decide (131072 < size) = true := decide_eq_true hbig
                have HRN : Hid (readV b size = (none, 4)) := Lib.hid (by rw [HRD.out, if_neg (fun q => by have := (okN_iff.1 q.1).2; omega)])
                go_wp2_with fail
                go_returns
                exact ⟨by rw [HRN.out]; rfl, HBW.out⟩
              · have db : decide (131072 < size) = false := decide_eq_false hbig
                obtain ⟨rm, hrm⟩ : ∃ rm, size - (adr (ts.map (tObP (ptsT ts))) (ts.map (tObP (ptsT ts))).length : Int) = rm := ⟨_, rfl⟩
                have hrm2 : rm = size - ((3 + szT ts : Nat) : Int) := by rw [← hrm, adr_end, szs_T (tObP_len _ ts)]
                have HRM := Lib.hid hrm
                clear hrm
                by_cases hneg : rm < 0
                · have dn : decide (rm < 0) = true := decide_eq_true hneg
                  have HRN : Hid (readV b size = (none, 4)) := Lib.hid (by rw [HRD.out, if_neg (fun q => by have := q.2; omega)])
                  clear hrm2
                  go_wp2_with (first | (go_at_call 22; (with_reducible refine (wroom_any HRWF.out (by omega) (by omega)).mono ?_); rw [HRM.out]; rintro e w7 ⟨rfl, n7, hw7⟩; have hdr := below_drewN (Below.refl wr.heap.size wr) n7; rw [← hw7] at hdr; clear hw7))
                  go_returns
                  exact ⟨by rw [HRN.out]; rfl, HBW.out.trans (hdr.mono HBW.out.size)⟩
                · have dn : decide (rm < 0) = false := decide_eq_false hneg
                  have HRN : Hid (readV b size = (some ⟨made, ts, ws⟩, 0)) := Lib.hid (by rw [HRD.out, if_pos ⟨okN_iff.2 ⟨by omega, by omega⟩, by omega⟩])
                  have HGD : Hid (Good ⟨size.toNat, made, bldL ts⟩) := Lib.hid (good_bld HPK2.out.1 hmb (okN_iff.2 ⟨by omega, by omega⟩) (by omega))
                  clear hrm2
                  go_wp2_with (first | (go_at_call 22; (with_reducible refine (wroom_any HRWF.out (by omega) (by omega)).mono ?_); rw [HRM.out]; rintro e w7 ⟨rfl, n7, hw7⟩; have hdr := below_drewN (Below.refl wr.heap.size wr) n7; rw [← hw7] at hdr; clear hw7))
                  go_returns
                  refine ⟨?_, HBW.out.trans (hdr.mono HBW.out.size)⟩
                  rw [HRN.out]
                  have h9 := HRWF.out.below hdr
                  have h8 := HNR.out.below hdr
                  have hgd := HGD.out
                  rw [← HBL.out] at hgd
                  rw [HWL.out] at h8
                  have h7 := h9.rm (R' := fun z => R z ∨ z = r) (fun z hz => .inl hz) (.inr rfl) (fun z hz => hz.elim (fun q => h9.lm.lt z q) (fun q => by rw [q]; exact h9.rlt)) hgd (by omega)
                  rw [HBL.out] at h7
                  exact ⟨r, _, lv, fv, RA, rc, rfl, h8, h7⟩
    · obtain ⟨s1, hs1⟩ : ∃ s1, strOfNums (sealV (b.take m)) = s1 := ⟨_, rfl⟩
      obtain ⟨sb, hsb⟩ : ∃ sb, strOfNums b = sb := ⟨_, rfl⟩
      have hne : s1 ≠ sb := by rw [← hs1, ← hsb]; exact str_ne (seal_isB HTI.out) hI hse
      have HST := Lib.hid hs1
      rw [hsb] at HKB
      have e1 : (s1.toList == sb.toList) = false := beq_false_of_ne (fun q => hne (str_list q))
      have HNO : Hid (imgV b = none) := Lib.hid (by unfold imgV; rw [if_neg (fun q => hse ((seal_eq (by omega)).2 q.2.2))])
      clear hs1 hsb hse hs4 hmg hB hI hn
      subst hm
      go_enter Try.func18, Try.ntmps18
      go_upto_region 4 with fail
      go_cut [37] (fun v wx => v = .bool true ∧ Below w.heap.size w wx)
      case first =>
        have ksb0 := HKB.out w.drew (Below.drew (Below.refl _ _))
        go_region_with ((go_at_call 21; (with_reducible refine (sealedN (HTB.out.below (Below.drew (Below.refl _ _))) nocap HTI.out HTL.out (by omega)).mono ?_); rintro e w2 ⟨A3, n3, c3, rfl, hn3, hnc3, hcm3, hby3, hb3⟩; obtain ⟨g3, o3, hA3, hl3, hc3⟩ := hby3 0 (by rw [← hn3, hn3]; exact HPO.out); subst hA3; have ks3 := str_bytes (c := c3) hby3 hn3.symm; have hb3' : Below w.heap.size w w2 := (Below.drew (Below.refl _ _)).trans hb3; have ksb := HKB.out _ hb3'; rw [HST.out] at ks3; have HB2 := Lib.hid hb3'; clear hby3 hl3 hc3 hb3 hn3 hcm3 hnc3))
        all_goals
          go_wp2_with fail
          go_meet
          exact ⟨by simp [e1], by (repeat' (first | (with_reducible exact Below.refl _ _) | (with_reducible assumption) | (with_reducible refine below_drewN ?_ _) | (with_reducible refine Below.alloc ?_ ?_ _) | (with_reducible refine Below.drew ?_) | (with_reducible refine Below.setCell ?_ ?_ _) | go_size))⟩
      case rest =>
        obtain ⟨rfl, hbc⟩ := hcut
        clear ks
        go_wp2_with fail
        go_returns
        exact readQ_no HNO.out rfl (by (repeat' (first | (with_reducible exact Below.refl _ _) | (with_reducible assumption) | (with_reducible refine below_drewN ?_ _) | (with_reducible refine Below.alloc ?_ ?_ _) | (with_reducible refine Below.drew ?_) | (with_reducible refine Below.setCell ?_ ?_ _) | go_size)))
  · have HNO : Hid (imgV b = none) := Lib.hid (by unfold imgV; rw [if_neg (fun q => hmg q.2.1)])
    obtain ⟨s4, hs⟩ : ∃ s4, strOfNums (b.take 4) = s4 := ⟨_, rfl⟩
    rw [hs] at hs4
    have hne : (s4.toList == [86, 73, 86, 49]) = false := beq_false_of_ne (fun q => hmg (u8s_inj (fun x hx => hI x (List.mem_of_mem_take hx)) magic_isB (by
      rw [← hs, Lib.strOfNums_toList] at q
      exact q)))
    clear hs hmg hB hI hn
    go_enter Try.func18, Try.ntmps18
    go_wp2_with fail
    go_returns
    exact readQ_no HNO.out rfl (by (repeat' (first | (with_reducible exact Below.refl _ _) | (with_reducible assumption) | (with_reducible refine below_drewN ?_ _) | (with_reducible refine Below.alloc ?_ ?_ _) | (with_reducible refine Below.drew ?_) | (with_reducible refine Below.setCell ?_ ?_ _) | go_size)))
end Go.Proofs.Ytfinpgkehjbcpaa
/- Chapter 05: what the reference tells of bytes. -/
namespace Go.Proofs.Ytfinpgkehjbcpaa
open Go.ChangeShapes Go.WideShapes Go.ChangeAt Go.RowKit Go.Deep Go.Joins Go.Maps
set_option linter.unusedVariables false
set_option linter.unusedSimpArgs false
theorem rread_no {w w' : World} {b : List Int} {size k : Int} {e : Ending} (h : ReadQ w b size e w') (hv : readV b size = (none, k)) : e = .returned (.tuple #[.pointer none, .slice none 0 0, .int .i64 k]) ∧ Below w.heap.size w w' := by
  obtain ⟨h1, h2⟩ := h
  rw [hv] at h1
  exact ⟨h1, h2⟩
theorem rread_yes {w w' : World} {b : List Int} {size : Int} {x : Img} {e : Ending} (h : ReadQ w b size e w') (hv : readV b size = (some x, 0)) {n : Nat} (hn : x.ws.length = n) : ∃ r R lv fv A c, e = .returned (.tuple #[.pointer (some ⟨r, 0, none⟩), .slice A n c, .int .i64 0]) ∧ Nums w' A (x.ws.map (realI x.ts)) ∧ RM w' R r ⟨size.toNat, x.made, bldL x.ts⟩ lv fv ∧ Below w.heap.size w w' := by
  obtain ⟨h1, h2⟩ := h
  rw [hv] at h1
  subst hn
  obtain ⟨r, R, lv, fv, A, c, a1, a2, a3⟩ := h1
  exact ⟨r, R, lv, fv, A, c, a1, a2, a3, h2⟩
theorem read_yes' {w w' : World} {b : List Int} {size : Int} {x : Img} {e : Ending} (h : ReadP w b size e w') (hv : readV b size = (some x, 0)) {n : Nat} (hn : x.ws.length = n) : ∃ s bw bm A c, e = .returned (.tuple #[.pointer (some ⟨s, 0, none⟩), .slice A n c, .int .i64 0]) ∧ Nums w' A (x.ws.map (realI x.ts)) ∧ PM w' s bw bm ⟨size.toNat, x.made, bldL x.ts⟩ ∧ Below w.heap.size w w' := by
  obtain ⟨s, bw, bm, A, n', c, h1, h2, h3, h4, _, h6⟩ := read_yes h hv
  rw [List.length_map, hn] at h2
  subst h2
  exact ⟨s, bw, bm, A, c, h1, h3, h4, h6⟩
theorem img_few {b : List Int} {x : Img} (hI : IsB b) (h : imgV b = some x) : x.ws.length ≤ 4000 := by
  unfold imgV at h
  split at h
  · exact (parse_ok (fun y hy => hI y (List.mem_of_mem_take (List.mem_of_mem_drop hy))) h).2.2.2.2.1
  · cases h
end Go.Proofs.Ytfinpgkehjbcpaa
