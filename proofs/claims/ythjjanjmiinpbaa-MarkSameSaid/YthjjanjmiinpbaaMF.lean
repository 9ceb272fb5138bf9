/- Chapter 03: what is reached, as the reference tells it. -/
import Derived.Test.YthjjanjmiinpbaaME
import Derived.Test.YthjjanjmiinpbaaLOOK
import Derived.Test.YthjjanjmiinpbaaRT4
import Derived.Laws.AppendOwnNone
import Derived.Maps.AppendAt
namespace Go.Proofs.Ythjjanjmiinpbaa
open Go.ChangeShapes Go.WideShapes Go.ChangeAt Go.RowKit Go.Deep Go.Joins Go.Maps
set_option linter.unusedVariables false
set_option linter.unusedSimpArgs false
set_option maxRecDepth 100000 in
set_option maxHeartbeats 16000000 in
theorem rin_any {w : World} {A : Option Addr} {l : List Int} {n c : Nat} (hA : Nums w A l) (hn : l.length = n) (hll : n ≤ 1000000000) (x : Int) : Calls Try.prog 48 #[.slice A n c, .int .i64 x] w fun e w' => e = .returned (.bool (l.contains x)) ∧ w' = w := by
  have HA := Lib.hid hA
  have HN := Lib.hid hn
  obtain ⟨q, hq⟩ : ∃ q, l.contains x = q := ⟨_, rfl⟩
  have HQ := Lib.hid hq
  rw [hq]
  clear hA hn hq
  go_enter Try.func48, Try.ntmps48
  go_wp2_with fail
  go_loop [5] (fun i => ∃ k : Nat, k ≤ n ∧ i = .int .i64 k ∧ ∀ j (hj : j < k) (hl : j < l.length), l[j] ≠ x) (fun i => n - (intOf i).toNat)
  case atStart => exact ⟨0, Nat.zero_le _, rfl, fun j hj => absurd hj (by omega)⟩
  case round =>
    obtain ⟨k, hk, rfl, hall⟩ := hrel
    have HALL := Lib.hid hall
    clear hall
    by_cases hlt : k < n
    · have d1 : decide (k < n) = true := decide_eq_true hlt
      have hkl : k < l.length := by rw [HN.out]; exact hlt
      obtain ⟨ga, offa, rfl, hgl, hca⟩ := HA.out k hkl
      obtain ⟨y, hy⟩ : ∃ y, l[k] = y := ⟨_, rfl⟩
      have HY := Lib.hid hy
      rw [hy] at hca
      have g0 : (0 : Int) ≤ (k : Int) := by omega
      have g1 : (k : Int) < (n : Int) := by omega
      clear hy
      by_cases e : y = x
      · have e1 : (y == x) = true := by simpa using e
        have HV : Hid (q = true) := Lib.hid (by rw [← HQ.out]; exact List.contains_iff_mem.2 (by rw [← e, ← HY.out]; exact List.getElem_mem hkl))
        clear e
        go_wp2_with fail
        go_ret
        exact ⟨ret_bool HV.out.symm, rfl⟩
      · have e1 : (y == x) = false := by simpa using e
        have HE := Lib.hid e
        clear e
        go_wp2_with fail
        go_round
        case rel => exact ⟨k + 1, by omega, by go_num, fun j hj hl => (by
            rcases Nat.lt_or_ge j k with h | h
            · exact HALL.out j h hl
            · obtain rfl : j = k := by omega
              rw [HY.out]; exact HE.out)⟩
        case measure => simp [intOf]; omega
    · have hkn : k = n := by omega
      have d1 : decide (k < n) = false := decide_eq_false hlt
      clear hlt
      subst hkn
      have HV : Hid (q = false) := Lib.hid (by
        rw [← HQ.out]
        cases hc : l.contains x
        · rfl
        · obtain ⟨j, hj, e⟩ := List.mem_iff_getElem.1 (List.contains_iff_mem.1 hc)
          exact absurd e (HALL.out j (by rw [← HN.out]; exact hj) hj))
      go_wp2_with fail
      go_ret
      exact ⟨ret_bool HV.out.symm, rfl⟩
theorem news_of {w : World} {b off : Nat} {js : List Int} (hn : Nums w (some ⟨b, off, none⟩) js) : ∀ (j : Nat) (u : Value), (js.map (Value.int .i64))[j]? = some u → w.cell? ((⟨b, off, none⟩ : Addr).add j) = some u := fun j u hu => by
  rw [List.getElem?_map] at hu
  have hj : j < js.length := by
    rcases Nat.lt_or_ge j js.length with h | h
    · exact h
    · rw [List.getElem?_eq_none h] at hu; cases hu
  rw [List.getElem?_eq_getElem hj] at hu
  cases hu
  obtain ⟨b', off', e, _, hc⟩ := hn j hj
  cases e
  rw [add_plain]; exact hc
/-- one list is appended to another that is owned -/
theorem wpList_app {w : World} {ops : Array Oper} {rest : List Oper} {o : Oper} {a : Act} {Q : Exit → Act → World → Prop} (hgd : o.guard = none) (s x : Operand)
    (ho : o.op = .call { callee := .builtin .append, args := #[s, x], argTypes := #[23, 23] })
    (base : Nat) (v : Value) (n : Nat) (l : List Int) (hs : a.eval s = v) (hown : w.ownsRow base 3 1 v n (l.map (.int .i64)))
    {A : Option Addr} {m c : Nat} {js : List Int} (hx : a.eval x = .slice A m c) (hf : A = none → c = 0) (hn : Nums w A js) (hl : js.length = m) (hb : n + m ≤ 1000000) (hbase : base ≤ w.heap.size)
    (h : ∀ v' w', w'.ownsRow base 3 1 v' (n + m) ((l ++ js).map (.int .i64)) → w.grownBy w' v.ownBlock → (v'.ownBlock = v.ownBlock ∨ v'.ownBlock = some w.heap.size) → wpList Try.prog ops Q rest (a.put o.dst v') w') : wpList Try.prog ops Q (o :: rest) a w := by
  obtain ⟨i0, hi, hz0, hz1, hz2⟩ := info_parts infoI
  cases A with
  | none =>
    have hc := hf rfl
    subst hc
    have : js = [] := by
      cases js with
      | nil => rfl
      | cons y q => obtain ⟨b, off, e, _⟩ := hn 0 (by simp); cases e
    subst this
    have hm : m = 0 := hl.symm
    subst hm
    refine wpList_append_own_none (P := Try.prog) hgd s x 23 ho base 3 i0 1 Try.underlying23 hi v n _ hs hown hx (h v w ?_ ⟨rfl, rfl, rfl, Nat.le_refl _, fun _ _ _ => rfl⟩ (.inl rfl))
    rw [List.append_nil]; exact hown
  | some ad =>
    refine wpList_append_own_at (P := Try.prog) _ hgd s x 23 ho base 3 i0 (.int .i64 0) 1 8 Try.underlying23 hi hz0 hz1 hz2 rfl (by decide) v n _ hs hown ad m c (js.map (.int .i64)) hx (by rw [List.length_map, hl, Nat.mul_one]) ?_ (by simp [Value.oneCell']) (by unfold maxLen; omega) (by omega) hbase ?_
    · cases js with
      | nil => intro j u hu; cases hu
      | cons y q =>
        obtain ⟨b, off, e, _⟩ := hn 0 (by simp)
        cases e
        exact news_of hn
    · intro v' w' h2 h3 _ h4
      exact h v' w' (by rw [List.map_append]; exact h2) h3 h4
theorem nums_lit (w : World) (x : Int) : Nums (w.alloc (.cells #[.int .i64 x] 3)) (some ⟨w.heap.size, 0, none⟩) [x] := fun k hk => by
  have : k = 0 := by simpa using hk
  subst this
  refine ⟨w.heap.size, 0, rfl, by simp, ?_⟩
  have := heap_alloc_new w (.cells #[.int .i64 x] 3)
  unfold World.cell?
  rw [this]
  rfl
theorem rm_field {w : World} {R : Nat → Prop} {r : Nat} {m : Hp} {lv : Value} {fv : Nat → Value} (h : RM w R r m lv fv) {i : Nat} (hi : i < m.L.length) : ∃ A c, fv i = .slice A m.L[i].F.length c ∧ (A = none → c = 0) ∧ Nums w A m.L[i].F := by
  have hf := h.fields i hi
  obtain ⟨A, c, e, _, hn, _⟩ := (show Ints w 0 (fv i) m.L[i].F from hf).nums
  refine ⟨A, c, e, fun hA => ?_, hn⟩
  subst hA
  rcases hf.2 with ⟨hv, _⟩ | ⟨g, cap, cur, hv, _⟩
  · rw [e] at hv; exact (Value.slice.inj hv).2.2
  · rw [e] at hv; exact absurd (Value.slice.inj hv).1 (by simp)
theorem lit_own {w : World} {n : Nat} (hn : n = w.heap.size) (x : Int) : (w.alloc (.cells #[.int .i64 x] 3)).ownsRow n 3 1 (.slice (some ⟨n, 0, none⟩) 1 1) 1 ([x].map (.int .i64)) := by
  subst hn
  exact World.ownsRow_lit w #[.int .i64 x] 1 (Nat.le_refl _) (by decide) rfl
theorem push_ne {wq w5 : World} {v v5 : Value} {x : Int} {A : Option Addr} (h : ∀ b off, A = some ⟨b, off, none⟩ → v.ownBlock ≠ some b ∧ b < wq.heap.size) (hat : v5.ownBlock = v.ownBlock ∨ v5.ownBlock = some (wq.alloc (.cells #[.int .i64 x] 3)).heap.size) (hg : (wq.alloc (.cells #[.int .i64 x] 3)).grownBy w5 v.ownBlock) : ∀ b off, A = some ⟨b, off, none⟩ → v5.ownBlock ≠ some b ∧ b < w5.heap.size := fun b off e => by
  obtain ⟨h1, h2⟩ := h b off e
  have hs := hg.size
  rw [World.size_alloc] at hs
  refine ⟨fun z => ?_, by omega⟩
  rcases hat with q | q
  · exact h1 (q.symm.trans z)
  · rw [q] at z
    have := Option.some.inj z
    rw [World.size_alloc] at this
    omega
/-- behind an append to the list of what is reached -/
theorem push_below {w wq w5 : World} {b0 : Nat} {v : Value} {n : Nat} {l : List Int} {x : Int} (hb : Below b0 w wq) (hbs : b0 ≤ wq.heap.size) (hown : wq.ownsRow b0 3 1 v n (l.map (.int .i64))) (hg : (wq.alloc (.cells #[.int .i64 x] 3)).grownBy w5 v.ownBlock) : Below b0 w w5 :=
  (hb.alloc hbs _).grown hg (by rw [World.size_alloc]; omega) (fun j hj => (World.ownsRow.lt hown j hj).1)
theorem push_nums {wq w5 : World} {v : Value} {x : Int} {A : Option Addr} {js : List Int} (hn : Nums wq A js) (hlt : ∀ b off, A = some ⟨b, off, none⟩ → b < wq.heap.size) (hne : ∀ b off, A = some ⟨b, off, none⟩ → v.ownBlock ≠ some b) (hg : (wq.alloc (.cells #[.int .i64 x] 3)).grownBy w5 v.ownBlock) : Nums w5 A js :=
  hn.same (by have := hg.size; rw [World.size_alloc] at this; omega) (fun b off e => (hg.block b (by rw [World.size_alloc]; have := hlt b off e; omega) (fun q => hne b off e q.symm)).trans (Below.heap_alloc _ _ _ (hlt b off e)))
set_option maxRecDepth 100000 in
set_option maxHeartbeats 16000000 in
theorem rreached_any {w : World} {R : Nat → Prop} {r : Nat} {m : Hp} {lv : Value} {fv : Nat → Value} (h : RM w R r m lv fv) {A : Option Addr} {rs : List Int} {n c : Nat} (hA : Nums w A rs) (hn : rs.length = n) (hnl : n ≤ 1000000) :
    Calls Try.prog 18 #[.pointer (some ⟨r, 0, none⟩), .slice A n c] w (ReachP w m rs) := by
  have HR := Lib.hid h
  have HA := Lib.hid hA
  have HN := Lib.hid hn
  have hlen := len_bd h.good
  clear h hA hn
  go_enter Try.func18, Try.ntmps18
  go_wp2_with fail
  go_loopw [6, 7] (fun v i wr => ∃ (k : Nat) (now : List Int), k ≤ n ∧ i = .int .i64 k ∧ Ints wr w.heap.size v now ∧ BF m.L rs (rs.drop k) now 0 ∧ (rs.take k).all (mayV m.L) = true ∧ Below w.heap.size w wr) (fun _ i _ => n - (intOf i).toNat)
  case atStart => exact ⟨0, [], Nat.zero_le _, rfl, World.ownsRow_nil _ _ _ _, BF.start, rfl, Below.refl _ _⟩
  case round =>
    obtain ⟨k, now, hk, rfl, hown, hbf, hall, hbw⟩ := hrel
    obtain ⟨NA, nc, hv, hnc, hnn, hnb, _, _⟩ := hown.nums
    subst hv
    obtain ⟨nn, hnn'⟩ : ∃ nn, now.length = nn := ⟨_, rfl⟩
    have HNL := Lib.hid hnn'
    have hnl2 : nn ≤ 131072 := by have := hbf.len; omega
    have hown' : wr.ownsRow w.heap.size 3 1 (.slice NA nn nc) nn (now.map (.int .i64)) := by rw [← hnn']; exact hown
    rw [hnn'] at hnc ⊢
    have HNN := Lib.hid hnn
    have HOWN := Lib.hid hown'
    have HBW := Lib.hid hbw
    have HBS : Hid (w.heap.size ≤ wr.heap.size) := Lib.hid hbw.size
    have hbs := hbw.size
    have HALL := Lib.hid hall
    by_cases hlt : k < n
    · have d0 : decide (k < n) = true := decide_eq_true hlt
      have hkl : k < rs.length := by rw [HN.out]; exact hlt
      obtain ⟨ga, offa, rfl, hgl, hca⟩ := (HA.out.below HBW.out) k hkl
      obtain ⟨x, hx⟩ : ∃ x, rs[k] = x := ⟨_, rfl⟩
      have HX := Lib.hid hx
      have HBF : Hid (BF m.L rs (x :: rs.drop (k + 1)) now 0) := Lib.hid (by rw [← hx, ← List.drop_eq_getElem_cons hkl]; exact hbf)
      rw [hx] at hca
      have g0 : (0 : Int) ≤ (k : Int) := by omega
      have g1 : (k : Int) < (n : Int) := by omega
      clear hx hown hown' hbf hall hbw hnn hnb hnn' hnc
      cases hm : mayV m.L x
      · have HM := Lib.hid hm
        have HV : Hid (reachedV m rs = ([], 1)) := Lib.hid (by unfold reachedV; rw [all_take_no hkl (by rw [HX.out]; exact hm)]; rfl)
        unfold ReachP
        rw [HV.out]
        clear hm
        go_wp2_with (go_at_call 46; (with_reducible refine (rmay_any (HR.out.below HBW.out) x).mono ?_); rw [HM.out]; rintro e w1 ⟨rfl, hw1⟩; replace hw1 := hw1.symm; subst hw1)
        go_returns
        exact ⟨_, rfl, World.ownsRow_nil _ _ _ _, HBW.out⟩
      · have HM := Lib.hid hm
        have HALL' : Hid ((rs.take (k + 1)).all (mayV m.L) = true) := Lib.hid (all_take_succ hkl (by rw [HX.out]; exact hm) HALL.out)
        clear hm HALL
        cases his : isV m.L x
        · have HIS := Lib.hid his
          have HBF' := Lib.hid (HBF.out.skip (by rw [his]; rfl))
          clear his
          go_wp2_with (first | (go_at_call 46; (with_reducible refine (rmay_any (HR.out.below HBW.out) x).mono ?_); rw [HM.out]; rintro e w1 ⟨rfl, hw1⟩; replace hw1 := hw1.symm; subst hw1) | (go_at_call 47; (with_reducible refine (ris_any (HR.out.below HBW.out) x).mono ?_); rw [HIS.out]; rintro e w2 ⟨rfl, hw2⟩; replace hw2 := hw2.symm; subst hw2) | (go_at_call 48; (with_reducible refine (rin_any HNN.out HNL.out (by omega) x).mono ?_); rw [HIN.out]; rintro e w3 ⟨rfl, hw3⟩; replace hw3 := hw3.symm; subst hw3))
          go_roundw
          case rel => exact ⟨k + 1, now, by omega, by go_num, by unfold Ints; rw [HNL.out]; exact HOWN.out, HBF'.out, HALL'.out, HBW.out⟩
          case measure => simp [intOf]; omega
        · have HIS := Lib.hid his
          cases hin : now.contains x
          · have HIN := Lib.hid hin
            have HBF' := Lib.hid (HBF.out.see his hin)
            clear his hin
            go_wp2_with (first | (go_at_call 46; (with_reducible refine (rmay_any (HR.out.below HBW.out) x).mono ?_); rw [HM.out]; rintro e w1 ⟨rfl, hw1⟩; replace hw1 := hw1.symm; subst hw1) | (go_at_call 47; (with_reducible refine (ris_any (HR.out.below HBW.out) x).mono ?_); rw [HIS.out]; rintro e w2 ⟨rfl, hw2⟩; replace hw2 := hw2.symm; subst hw2) | (go_at_call 48; (with_reducible refine (rin_any HNN.out HNL.out (by omega) x).mono ?_); rw [HIN.out]; rintro e w3 ⟨rfl, hw3⟩; replace hw3 := hw3.symm; subst hw3) | (at_builtin; refine wpList_app rfl _ _ rfl w.heap.size _ _ now rfl (HOWN.out.alloc _) rfl (fun e => by cases e) (nums_lit wr x) rfl (by simp; omega) (by rw [World.size_alloc]; omega) ?_; intro v5 w5 hown5 hg5 hat5; have HO5 := Lib.hid hown5; have HG5 : Hid ((wr.alloc (.cells #[.int .i64 x] 3)).grownBy w5 (Value.slice NA nn nc).ownBlock) := Lib.hid hg5; have HAT5 : Hid (v5.ownBlock = (Value.slice NA nn nc).ownBlock ∨ v5.ownBlock = some (wr.alloc (.cells #[.int .i64 x] 3)).heap.size) := Lib.hid hat5; clear hown5 hg5 hat5))
            go_roundw
            case rel => exact ⟨k + 1, now ++ [x], by omega, by go_num, by unfold Ints; rw [List.length_append, HNL.out]; exact HO5.out, HBF'.out, HALL'.out, push_below HBW.out HBS.out HOWN.out HG5.out⟩
            case measure => simp [intOf]; omega
          · have HIN := Lib.hid hin
            have HBF' := Lib.hid (HBF.out.skip (by rw [his, hin]; rfl))
            clear his hin
            go_wp2_with (first | (go_at_call 46; (with_reducible refine (rmay_any (HR.out.below HBW.out) x).mono ?_); rw [HM.out]; rintro e w1 ⟨rfl, hw1⟩; replace hw1 := hw1.symm; subst hw1) | (go_at_call 47; (with_reducible refine (ris_any (HR.out.below HBW.out) x).mono ?_); rw [HIS.out]; rintro e w2 ⟨rfl, hw2⟩; replace hw2 := hw2.symm; subst hw2) | (go_at_call 48; (with_reducible refine (rin_any HNN.out HNL.out (by omega) x).mono ?_); rw [HIN.out]; rintro e w3 ⟨rfl, hw3⟩; replace hw3 := hw3.symm; subst hw3))
            go_roundw
            case rel => exact ⟨k + 1, now, by omega, by go_num, by unfold Ints; rw [HNL.out]; exact HOWN.out, HBF'.out, HALL'.out, HBW.out⟩
            case measure => simp [intOf]; omega
    · have hkn : k = n := by omega
      have d0 : decide (k < n) = false := decide_eq_false hlt
      have HV : Hid (reachedV m rs = (reachL m.L rs, 0)) := Lib.hid (by
        have q := HALL.out
        rw [hkn, ← HN.out, List.take_length] at q
        unfold reachedV; rw [q]; rfl)
      have HBF : Hid (BF m.L rs [] now 0) := Lib.hid (by rw [hkn, ← HN.out, List.drop_length] at hbf; exact hbf)
      unfold ReachP
      rw [HV.out]
      clear hlt hown hown' hbf hall hbw hnn hnb hnc HALL
      subst hkn
      go_wp2_with fail
      clear hnn'
      go_loopw [6, 9] (fun v i wr => ∃ (k : Nat) (now : List Int), i = .int .i64 k ∧ Ints wr w.heap.size v now ∧ BF m.L rs [] now k ∧ Below w.heap.size w wr) (fun _ i _ => m.L.length - (intOf i).toNat)
      case atStart => exact ⟨0, now, rfl, by unfold Ints; rw [HNL.out]; exact HOWN.out, HBF.out, HBW.out⟩
      case round =>
        clear HOWN HNL HNN HBF HBW HBS hbs hnl2
        obtain ⟨q, now, rfl, hown, hbf, hbw⟩ := hrel
        obtain ⟨NA, nc, hv, hnc, hnn, hnb, _, _⟩ := hown.nums
        subst hv
        obtain ⟨nn, hnn'⟩ : ∃ nn, now.length = nn := ⟨_, rfl⟩
        have HNL := Lib.hid hnn'
        have hnl2 : nn ≤ 131072 := by have := hbf.len; omega
        have hnl3 : nn ≤ m.L.length := by have := hbf.len; omega
        have hown' : wr.ownsRow w.heap.size 3 1 (.slice NA nn nc) nn (now.map (.int .i64)) := by rw [← hnn']; exact hown
        rw [hnn'] at hnc ⊢
        have HNN := Lib.hid hnn
        have HOWN := Lib.hid hown'
        have HBW := Lib.hid hbw
        have hbs := hbw.size
        have HBF := Lib.hid hbf
        by_cases hlt : q < nn
        · have d1 : decide (q < nn) = true := decide_eq_true hlt
          have hkl : q < now.length := by rw [HNL.out]; exact hlt
          obtain ⟨ga, offa, hga, hgl, hca⟩ := HNN.out q hkl
          subst hga
          obtain ⟨o, ho⟩ : ∃ o, now[q] = o := ⟨_, rfl⟩
          rw [ho] at hca
          have hRo : Rch m.L rs o := hbf.snd o (by rw [← ho]; exact List.getElem_mem hkl)
          obtain ⟨iO, hiO, hpO, -, -, hlk⟩ := atN_yes hRo.valid
          obtain ⟨FA, fc, hfv, hfn, hfN⟩ := rm_field (HR.out.below HBW.out) hiO
          have HOK : Hid (kids m.L o = wordsO m.L[iO]) := Lib.hid (by unfold kids; rw [hlk])
          have HMO : Hid (m.L[iO] ∈ m.L) := Lib.hid (List.getElem_mem hiO)
          have HLK : Hid (lookV m fv o = #[.int .i64 m.L[iO].cls, .int .i64 m.L[iO].fmt, .int .i64 m.L[iO].hash, fv iO]) := Lib.hid (by unfold lookV; rw [hpO]; simp only [List.getD_eq_getElem?_getD, List.getElem?_eq_getElem hiO, Option.getD_some])
          rw [hfv] at HLK
          obtain ⟨ob, hob⟩ : ∃ ob, m.L[iO] = ob := ⟨_, rfl⟩
          rw [hob] at HOK HMO HLK hfN
          obtain ⟨cl, fm, hh, F⟩ := ob
          dsimp only at HLK hfN
          obtain ⟨nf, hnf⟩ : ∃ nf, F.length = nf := ⟨_, rfl⟩
          rw [hnf] at HLK
          have hnf2 : nf ≤ 256 := by rw [← hnf]; exact HR.out.good.len _ HMO.out
          have HFN := Lib.hid hfN
          have HFC := Lib.hid hfn
          have HNF := Lib.hid hnf
          have HBN : Hid (BF m.L rs (kids m.L o) now (q + 1)) := Lib.hid (by have z := hbf.next hkl; rw [ho] at z; exact z)
          have g0 : (0 : Int) ≤ (q : Int) := by omega
          have g1 : (q : Int) < (nn : Int) := by omega
          clear ho hRo hpO hlk hfv hfn hfN hob hnf hown hown' hbf hbw hnn hnb hnn' hnc hiO HBF
          by_cases hfm : fm = 0
          · subst hfm
            obtain ⟨K, hK⟩ : ∃ K, cl :: F = K := ⟨_, rfl⟩
            have HBK : Hid (BF m.L rs K now (q + 1)) := Lib.hid (by have z := HBN.out; rw [HOK.out] at z; unfold wordsO at z; rw [if_pos rfl] at z; rw [← hK]; exact z)
            have HNK : Hid (K.length = 1 + nf) := Lib.hid (by rw [← hK, List.length_cons, HNF.out]; omega)
            have HK := Lib.hid hK
            clear HBN HOK HMO hK
            go_wp2_with (first | (go_at_call 49; (with_reducible refine (rlook_any (HR.out.below HBW.out) o).mono ?_); rw [HLK.out]; rintro e w1 ⟨rfl, hb1⟩; have HB1 := Lib.hid hb1; clear hb1) | (at_builtin; refine wpList_app rfl _ _ rfl (w1.heap.size + 1) _ 1 [cl] rfl (lit_own (by simp) cl) rfl HFC.out (HFN.out.below ((HB1.out.alloc HB1.out.size _).alloc (show wr.heap.size ≤ (World.alloc _ _).heap.size by have := HB1.out.size; rw [World.size_alloc]; omega) _)) HNF.out (by omega) (by simp) ?_; intro v11 w11 hown11 hg11 _; have HI11 : Hid (Ints w11 (w1.heap.size + 1) v11 K) := Lib.hid (by unfold Ints; rw [HNK.out, ← HK.out]; exact hown11); have HB11 : Hid (Below wr.heap.size wr w11) := Lib.hid (((HB1.out.alloc HB1.out.size _).alloc (show wr.heap.size ≤ (World.alloc _ _).heap.size by have := HB1.out.size; rw [World.size_alloc]; omega) _).grown hg11 (by have := HB1.out.size; simp; omega) (fun j hj => by have : j = w1.heap.size + 1 := (Option.some.inj hj).symm; have := HB1.out.size; omega)); have HS1 : Hid (wr.heap.size ≤ w1.heap.size + 1) := Lib.hid (by have := HB1.out.size; show _ ≤ _; omega); clear hown11 hg11))
            obtain ⟨KA, kc, hv11, -, hkn, hkb, -, -⟩ := HI11.out.nums
            obtain ⟨nk, hnk⟩ : ∃ nk, K.length = nk := ⟨_, rfl⟩
            have hnk2 : nk ≤ 1000 := by have := HNK.out; omega
            have HNK' := Lib.hid hnk
            have HKN := Lib.hid hkn
            have HKB : Hid (∀ b off, KA = some ⟨b, off, none⟩ → wr.heap.size ≤ b ∧ b < w11.heap.size) := Lib.hid (fun b off e => ⟨Nat.le_trans HS1.out (hkb b off e).1, (by
              have z := (World.ownsRow.lt HI11.out b (by rw [hv11, e]; rfl)).2
              exact z)⟩)
            have HNK := HNK'
            have hqL : q < m.L.length := by omega
            rw [hnk] at hv11
            subst hv11
            clear hkn hkb hnk HI11 HS1 HNK'
            clear HB1 HFN HFC HLK
            go_loopw [6, 12] (fun v i wq => ∃ (j : Nat) (now2 : List Int), j ≤ nk ∧ i = .int .i64 j ∧ Ints wq w.heap.size v now2 ∧ BF m.L rs (K.drop j) now2 (q + 1) ∧ Below w.heap.size w wq ∧ Nums wq KA K ∧ (∀ b off, KA = some ⟨b, off, none⟩ → v.ownBlock ≠ some b ∧ b < wq.heap.size)) (fun _ i _ => nk - (intOf i).toNat)
            case atStart => exact ⟨0, now, Nat.zero_le _, rfl, by unfold Ints; rw [HNL.out]; exact ownsRow_below HOWN.out HB11.out, HBK.out, HBW.out.trans (HB11.out.mono hbs), HKN.out, fun b off e => ⟨fun z => by have := (World.ownsRow.lt HOWN.out b z).2; have := (HKB.out b off e).1; omega, (HKB.out b off e).2⟩⟩
            case round =>
              clear HOWN HNL HNN HBK HBW HB11 HKN HKB hbs hnl2 hnl3
              obtain ⟨j, now, hj, rfl, hown, hbf, hbw, hkn, hkb⟩ := hrel
              obtain ⟨NA, nc, hv, hnc, hnn, hnb, _, _⟩ := hown.nums
              subst hv
              obtain ⟨nn, hnn'⟩ : ∃ nn, now.length = nn := ⟨_, rfl⟩
              have HNL := Lib.hid hnn'
              have hnl2 : nn ≤ 131072 := by have := hbf.len; omega
              have hown' : wr.ownsRow w.heap.size 3 1 (.slice NA nn nc) nn (now.map (.int .i64)) := by rw [← hnn']; exact hown
              rw [hnn'] at hnc hkb ⊢
              have HNN := Lib.hid hnn
              have HOWN := Lib.hid hown'
              have HBW := Lib.hid hbw
              have HBS : Hid (w.heap.size ≤ wr.heap.size) := Lib.hid hbw.size
              have hbs := hbw.size
              have HKN := Lib.hid hkn
              have HKB := Lib.hid hkb
              by_cases hjl : j < nk
              · have d4 : decide (j < nk) = true := decide_eq_true hjl
                have hkl2 : j < K.length := by rw [HNK.out]; exact hjl
                obtain ⟨gk, offk, hgk, hgl2, hck⟩ := hkn j hkl2
                subst hgk
                obtain ⟨x, hx⟩ : ∃ x, K[j] = x := ⟨_, rfl⟩
                have HBF : Hid (BF m.L rs (x :: K.drop (j + 1)) now (q + 1)) := Lib.hid (by rw [← hx, ← List.drop_eq_getElem_cons hkl2]; exact hbf)
                rw [hx] at hck
                have g2 : (0 : Int) ≤ (j : Int) := by omega
                have g3 : (j : Int) < (nk : Int) := by omega
                clear hx hown hown' hbf hbw hnn hnb hnn' hnc hkn hkb
                cases his : isV m.L x
                · have HIS := Lib.hid his
                  have HBF' := Lib.hid (HBF.out.skip (by rw [his]; rfl))
                  clear his
                  go_wp2_with (first | (go_at_call 47; (with_reducible refine (ris_any (HR.out.below HBW.out) x).mono ?_); rw [HIS.out]; rintro e w2 ⟨rfl, hw2⟩; replace hw2 := hw2.symm; subst hw2) | (go_at_call 48; (with_reducible refine (rin_any HNN.out HNL.out (by omega) x).mono ?_); rw [HIN.out]; rintro e w3 ⟨rfl, hw3⟩; replace hw3 := hw3.symm; subst hw3))
                  go_roundw
                  case rel => exact ⟨j + 1, now, by omega, by go_num, by unfold Ints; rw [HNL.out]; exact HOWN.out, HBF'.out, HBW.out, HKN.out, HKB.out⟩
                  case measure => simp [intOf]; omega
                · have HIS := Lib.hid his
                  cases hin : now.contains x
                  · have HIN := Lib.hid hin
                    have HBF' := Lib.hid (HBF.out.see his hin)
                    clear his hin
                    go_wp2_with (first | (go_at_call 47; (with_reducible refine (ris_any (HR.out.below HBW.out) x).mono ?_); rw [HIS.out]; rintro e w2 ⟨rfl, hw2⟩; replace hw2 := hw2.symm; subst hw2) | (go_at_call 48; (with_reducible refine (rin_any HNN.out HNL.out (by omega) x).mono ?_); rw [HIN.out]; rintro e w3 ⟨rfl, hw3⟩; replace hw3 := hw3.symm; subst hw3) | (at_builtin; refine wpList_app rfl _ _ rfl w.heap.size _ _ now rfl (HOWN.out.alloc _) rfl (fun e => by cases e) (nums_lit wr x) rfl (by simp; omega) (by rw [World.size_alloc]; omega) ?_; intro v5 w5 hown5 hg5 hat5; have HO5 := Lib.hid hown5; have HG5 : Hid ((wr.alloc (.cells #[.int .i64 x] 3)).grownBy w5 (Value.slice NA nn nc).ownBlock) := Lib.hid hg5; have HAT5 : Hid (v5.ownBlock = (Value.slice NA nn nc).ownBlock ∨ v5.ownBlock = some (wr.alloc (.cells #[.int .i64 x] 3)).heap.size) := Lib.hid hat5; clear hown5 hg5 hat5))
                    go_roundw
                    case rel => exact ⟨j + 1, now ++ [x], by omega, by go_num, by unfold Ints; rw [List.length_append, HNL.out]; exact HO5.out, HBF'.out, push_below HBW.out HBS.out HOWN.out HG5.out, push_nums HKN.out (fun b off e => (HKB.out b off e).2) (fun b off e => (HKB.out b off e).1) HG5.out, push_ne HKB.out HAT5.out HG5.out⟩
                    case measure => simp [intOf]; omega
                  · have HIN := Lib.hid hin
                    have HBF' := Lib.hid (HBF.out.skip (by rw [his, hin]; rfl))
                    clear his hin
                    go_wp2_with (first | (go_at_call 47; (with_reducible refine (ris_any (HR.out.below HBW.out) x).mono ?_); rw [HIS.out]; rintro e w2 ⟨rfl, hw2⟩; replace hw2 := hw2.symm; subst hw2) | (go_at_call 48; (with_reducible refine (rin_any HNN.out HNL.out (by omega) x).mono ?_); rw [HIN.out]; rintro e w3 ⟨rfl, hw3⟩; replace hw3 := hw3.symm; subst hw3))
                    go_roundw
                    case rel => exact ⟨j + 1, now, by omega, by go_num, by unfold Ints; rw [HNL.out]; exact HOWN.out, HBF'.out, HBW.out, HKN.out, HKB.out⟩
                    case measure => simp [intOf]; omega
              · have hjn : j = nk := by omega
                have d4 : decide (j < nk) = false := decide_eq_false hjl
                have HBF : Hid (BF m.L rs [] now (q + 1)) := Lib.hid (by rw [hjn, ← HNK.out, List.drop_length] at hbf; exact hbf)
                clear hjl hown hown' hbf hbw hnn hnb hnc hkn hkb hnn'
                subst hjn
                go_wp2_with fail
                go_roundw
                case rel => exact ⟨q + 1, now, by go_num, by unfold Ints; rw [HNL.out]; exact HOWN.out, HBF.out, HBW.out⟩
                case measure => simp [intOf]; omega
          · have d3 : (fm == 0) = false := by simpa using hfm
            have HBK : Hid (BF m.L rs [cl] now (q + 1)) := Lib.hid (by have z := HBN.out; rw [HOK.out] at z; unfold wordsO at z; rw [if_neg hfm] at z; exact z)
            clear HBN HOK HMO hfm
            go_wp2_with (go_at_call 49; (with_reducible refine (rlook_any (HR.out.below HBW.out) o).mono ?_); rw [HLK.out]; rintro e w1 ⟨rfl, hb1⟩; have HB1 := Lib.hid hb1; clear hb1)
            have HB11' : Hid (Below wr.heap.size wr ((w1.alloc (.cells #[.int .i64 cl, .int .i64 fm, .int .i64 hh, .slice FA nf fc] 71)).alloc (.cells #[.int .i64 cl] 3))) := Lib.hid ((HB1.out.alloc HB1.out.size _).alloc (show wr.heap.size ≤ (World.alloc _ _).heap.size by have := HB1.out.size; rw [World.size_alloc]; omega) _)
            have HNL1 : Hid (Nums ((w1.alloc (.cells #[.int .i64 cl, .int .i64 fm, .int .i64 hh, .slice FA nf fc] 71)).alloc (.cells #[.int .i64 cl] 3)) (some ⟨w1.heap.size + 1, 0, none⟩) [cl]) := Lib.hid (by have z := nums_lit (w1.alloc (.cells #[.int .i64 cl, .int .i64 fm, .int .i64 hh, .slice FA nf fc] 71)) cl; rw [World.size_alloc] at z; exact z)
            obtain ⟨w11, hw11⟩ : ∃ w11, ((w1.alloc (.cells #[.int .i64 cl, .int .i64 fm, .int .i64 hh, .slice FA nf fc] 71)).alloc (.cells #[.int .i64 cl] 3)) = w11 := ⟨_, rfl⟩
            rw [hw11] at HB11' HNL1 ⊢
            have HB11 := HB11'
            have hx11 : ∃ KA nk kc, Value.slice (some ⟨w1.heap.size + 1, 0, none⟩) 1 1 = .slice KA nk kc ∧ [cl].length = nk ∧ Nums w11 KA [cl] ∧ ∀ b off, KA = some ⟨b, off, none⟩ → wr.heap.size ≤ b ∧ b < w11.heap.size :=
              ⟨_, _, _, rfl, rfl, HNL1.out, fun b off e => by cases e; have := HB1.out.size; exact ⟨by omega, by rw [← hw11]; simp⟩⟩
            obtain ⟨KA, nk, kc, hv11, hnk, hkn, hkb⟩ := hx11
            have hnk2 : nk ≤ 1000 := by rw [← hnk]; simp
            obtain ⟨K, hK⟩ : ∃ K, [cl] = K := ⟨_, rfl⟩
            have HBK' := HBK
            rw [hK] at HBK' hnk hkn
            have HNK := Lib.hid hnk
            have HKN := Lib.hid hkn
            have HKB := Lib.hid hkb
            have HBK := HBK'
            have hqL : q < m.L.length := by omega
            rw [hv11]
            clear hw11 hv11 hnk hkn hkb hK HNL1 HB11' HBK'
            clear HB1 HFN HFC HLK
            go_loopw [6, 12] (fun v i wq => ∃ (j : Nat) (now2 : List Int), j ≤ nk ∧ i = .int .i64 j ∧ Ints wq w.heap.size v now2 ∧ BF m.L rs (K.drop j) now2 (q + 1) ∧ Below w.heap.size w wq ∧ Nums wq KA K ∧ (∀ b off, KA = some ⟨b, off, none⟩ → v.ownBlock ≠ some b ∧ b < wq.heap.size)) (fun _ i _ => nk - (intOf i).toNat)
            case atStart => exact ⟨0, now, Nat.zero_le _, rfl, by unfold Ints; rw [HNL.out]; exact ownsRow_below HOWN.out HB11.out, HBK.out, HBW.out.trans (HB11.out.mono hbs), HKN.out, fun b off e => ⟨fun z => by have := (World.ownsRow.lt HOWN.out b z).2; have := (HKB.out b off e).1; omega, (HKB.out b off e).2⟩⟩
            case round =>
              clear HOWN HNL HNN HBK HBW HB11 HKN HKB hbs hnl2 hnl3
              obtain ⟨j, now, hj, rfl, hown, hbf, hbw, hkn, hkb⟩ := hrel
              obtain ⟨NA, nc, hv, hnc, hnn, hnb, _, _⟩ := hown.nums
              subst hv
              obtain ⟨nn, hnn'⟩ : ∃ nn, now.length = nn := ⟨_, rfl⟩
              have HNL := Lib.hid hnn'
              have hnl2 : nn ≤ 131072 := by have := hbf.len; omega
              have hown' : wr.ownsRow w.heap.size 3 1 (.slice NA nn nc) nn (now.map (.int .i64)) := by rw [← hnn']; exact hown
              rw [hnn'] at hnc hkb ⊢
              have HNN := Lib.hid hnn
              have HOWN := Lib.hid hown'
              have HBW := Lib.hid hbw
              have HBS : Hid (w.heap.size ≤ wr.heap.size) := Lib.hid hbw.size
              have hbs := hbw.size
              have HKN := Lib.hid hkn
              have HKB := Lib.hid hkb
              by_cases hjl : j < nk
              · have d4 : decide (j < nk) = true := decide_eq_true hjl
                have hkl2 : j < K.length := by rw [HNK.out]; exact hjl
                obtain ⟨gk, offk, hgk, hgl2, hck⟩ := hkn j hkl2
                subst hgk
                obtain ⟨x, hx⟩ : ∃ x, K[j] = x := ⟨_, rfl⟩
                have HBF : Hid (BF m.L rs (x :: K.drop (j + 1)) now (q + 1)) := Lib.hid (by rw [← hx, ← List.drop_eq_getElem_cons hkl2]; exact hbf)
                rw [hx] at hck
                have g2 : (0 : Int) ≤ (j : Int) := by omega
                have g3 : (j : Int) < (nk : Int) := by omega
                clear hx hown hown' hbf hbw hnn hnb hnn' hnc hkn hkb
                cases his : isV m.L x
                · have HIS := Lib.hid his
                  have HBF' := Lib.hid (HBF.out.skip (by rw [his]; rfl))
                  clear his
                  go_wp2_with (first | (go_at_call 47; (with_reducible refine (ris_any (HR.out.below HBW.out) x).mono ?_); rw [HIS.out]; rintro e w2 ⟨rfl, hw2⟩; replace hw2 := hw2.symm; subst hw2) | (go_at_call 48; (with_reducible refine (rin_any HNN.out HNL.out (by omega) x).mono ?_); rw [HIN.out]; rintro e w3 ⟨rfl, hw3⟩; replace hw3 := hw3.symm; subst hw3))
                  go_roundw
                  case rel => exact ⟨j + 1, now, by omega, by go_num, by unfold Ints; rw [HNL.out]; exact HOWN.out, HBF'.out, HBW.out, HKN.out, HKB.out⟩
                  case measure => simp [intOf]; omega
                · have HIS := Lib.hid his
                  cases hin : now.contains x
                  · have HIN := Lib.hid hin
                    have HBF' := Lib.hid (HBF.out.see his hin)
                    clear his hin
                    go_wp2_with (first | (go_at_call 47; (with_reducible refine (ris_any (HR.out.below HBW.out) x).mono ?_); rw [HIS.out]; rintro e w2 ⟨rfl, hw2⟩; replace hw2 := hw2.symm; subst hw2) | (go_at_call 48; (with_reducible refine (rin_any HNN.out HNL.out (by omega) x).mono ?_); rw [HIN.out]; rintro e w3 ⟨rfl, hw3⟩; replace hw3 := hw3.symm; subst hw3) | (at_builtin; refine wpList_app rfl _ _ rfl w.heap.size _ _ now rfl (HOWN.out.alloc _) rfl (fun e => by cases e) (nums_lit wr x) rfl (by simp; omega) (by rw [World.size_alloc]; omega) ?_; intro v5 w5 hown5 hg5 hat5; have HO5 := Lib.hid hown5; have HG5 : Hid ((wr.alloc (.cells #[.int .i64 x] 3)).grownBy w5 (Value.slice NA nn nc).ownBlock) := Lib.hid hg5; have HAT5 : Hid (v5.ownBlock = (Value.slice NA nn nc).ownBlock ∨ v5.ownBlock = some (wr.alloc (.cells #[.int .i64 x] 3)).heap.size) := Lib.hid hat5; clear hown5 hg5 hat5))
                    go_roundw
                    case rel => exact ⟨j + 1, now ++ [x], by omega, by go_num, by unfold Ints; rw [List.length_append, HNL.out]; exact HO5.out, HBF'.out, push_below HBW.out HBS.out HOWN.out HG5.out, push_nums HKN.out (fun b off e => (HKB.out b off e).2) (fun b off e => (HKB.out b off e).1) HG5.out, push_ne HKB.out HAT5.out HG5.out⟩
                    case measure => simp [intOf]; omega
                  · have HIN := Lib.hid hin
                    have HBF' := Lib.hid (HBF.out.skip (by rw [his, hin]; rfl))
                    clear his hin
                    go_wp2_with (first | (go_at_call 47; (with_reducible refine (ris_any (HR.out.below HBW.out) x).mono ?_); rw [HIS.out]; rintro e w2 ⟨rfl, hw2⟩; replace hw2 := hw2.symm; subst hw2) | (go_at_call 48; (with_reducible refine (rin_any HNN.out HNL.out (by omega) x).mono ?_); rw [HIN.out]; rintro e w3 ⟨rfl, hw3⟩; replace hw3 := hw3.symm; subst hw3))
                    go_roundw
                    case rel => exact ⟨j + 1, now, by omega, by go_num, by unfold Ints; rw [HNL.out]; exact HOWN.out, HBF'.out, HBW.out, HKN.out, HKB.out⟩
                    case measure => simp [intOf]; omega
              · have hjn : j = nk := by omega
                have d4 : decide (j < nk) = false := decide_eq_false hjl
                have HBF : Hid (BF m.L rs [] now (q + 1)) := Lib.hid (by rw [hjn, ← HNK.out, List.drop_length] at hbf; exact hbf)
                clear hjl hown hown' hbf hbw hnn hnb hnc hkn hkb hnn'
                subst hjn
                go_wp2_with fail
                go_roundw
                case rel => exact ⟨q + 1, now, by go_num, by unfold Ints; rw [HNL.out]; exact HOWN.out, HBF.out, HBW.out⟩
                case measure => simp [intOf]; omega
        · have d1 : decide (q < nn) = false := decide_eq_false hlt
          have hqn : q = now.length := by have := hbf.le; omega
          have HFIN : Hid (∀ x, now.contains x = true ↔ Rch m.L rs x) := Lib.hid (fun x => (hqn ▸ hbf).fin x)
          clear hlt hown hown' hbf hbw hnn hnb hnc hnn' hqn HBF
          go_upto_region 24 with (go_at_call 12; (with_reducible refine (robjects_any (HR.out.below HBW.out)).mono ?_); rintro e w1 ⟨v1, rfl, hi1, hb1⟩; have HI1 := Lib.hid hi1; have HB1 := Lib.hid hb1; clear hi1 hb1)
          obtain ⟨OA, oc, hov, hoc, hon, hob, _, _⟩ := HI1.out.nums
          subst hov
          obtain ⟨no, hno⟩ : ∃ no, (ptrs m.L).length = no := ⟨_, rfl⟩
          have hno2 : no ≤ 131072 := by rw [← hno]; unfold ptrs; simp; omega
          have HNO := Lib.hid hno
          have HON := Lib.hid hon
          have HNW := Lib.hid (HNN.out.below HB1.out)
          have HBW1 := Lib.hid (HBW.out.trans (HB1.out.mono hbs))
          have hbs1 : w.heap.size ≤ w1.heap.size := HBW1.out.size
          rw [hno]
          clear hon hno hob hoc HOWN HI1 HB1 HBW HNN
          go_wp2_with fail
          go_loopw [13, 15] (fun v i wq => ∃ j : Nat, j ≤ no ∧ i = .int .i64 j ∧ Ints wq w1.heap.size v (((ptrs m.L).take j).filter now.contains) ∧ Below w1.heap.size w1 wq) (fun _ i _ => no - (intOf i).toNat)
          case atStart => exact ⟨0, Nat.zero_le _, rfl, World.ownsRow_nil _ _ _ _, Below.refl _ _⟩
          case round =>
            obtain ⟨j, hj, rfl, hin, hbw⟩ := hrel
            have HIN := Lib.hid hin
            have HBW := Lib.hid hbw
            have hbs2 := hbw.size
            by_cases hjl : j < no
            · have d4 : decide (j < no) = true := decide_eq_true hjl
              have hkl2 : j < (ptrs m.L).length := by rw [HNO.out]; exact hjl
              obtain ⟨gk, offk, hgk, hgl2, hck⟩ := (HON.out.below HBW.out) j hkl2
              subst hgk
              obtain ⟨x, hx⟩ : ∃ x, (ptrs m.L)[j] = x := ⟨_, rfl⟩
              have HX := Lib.hid hx
              rw [hx] at hck
              have g2 : (0 : Int) ≤ (j : Int) := by omega
              have g3 : (j : Int) < (no : Int) := by omega
              have hfl : (((ptrs m.L).take j).filter now.contains).length ≤ 131072 := Nat.le_trans (List.length_filter_le _ _) (by rw [List.length_take]; omega)
              clear hx hin hbw
              cases hc : now.contains x
              · have HC := Lib.hid hc
                have HTK : Hid (((ptrs m.L).take (j + 1)).filter now.contains = ((ptrs m.L).take j).filter now.contains) := Lib.hid (by rw [List.take_succ_eq_append_getElem hkl2, List.filter_append, HX.out, List.filter_cons_of_neg (by rw [hc]; exact Bool.false_ne_true), List.filter_nil, List.append_nil])
                clear hc
                go_wp2_with (go_at_call 48; (with_reducible refine (rin_any (HNW.out.below (HBW.out.mono (Nat.le_refl _))) HNL.out (by omega) x).mono ?_); rw [HC.out]; rintro e w3 ⟨rfl, hw3⟩; replace hw3 := hw3.symm; subst hw3)
                go_roundw
                case rel => exact ⟨j + 1, by omega, by go_num, by rw [HTK.out]; exact HIN.out, HBW.out⟩
                case measure => simp [intOf]; omega
              · have HC := Lib.hid hc
                have HTK : Hid (((ptrs m.L).take (j + 1)).filter now.contains = ((ptrs m.L).take j).filter now.contains ++ [x]) := Lib.hid (by rw [List.take_succ_eq_append_getElem hkl2, List.filter_append, HX.out, List.filter_cons_of_pos hc, List.filter_nil])
                clear hc
                go_wp2_with (first | (go_at_call 48; (with_reducible refine (rin_any (HNW.out.below (HBW.out.mono (Nat.le_refl _))) HNL.out (by omega) x).mono ?_); rw [HC.out]; rintro e w3 ⟨rfl, hw3⟩; replace hw3 := hw3.symm; subst hw3) | (at_builtin; refine wpList_app rfl _ _ rfl w1.heap.size _ _ (((ptrs m.L).take j).filter now.contains) rfl (HIN.out.alloc _) rfl (fun e => by cases e) (nums_lit wr x) rfl (by simp; omega) (by rw [World.size_alloc]; omega) ?_; intro v5 w5 hown5 hg5 _; have HO5 := Lib.hid hown5; have HB5 : Hid (Below w1.heap.size w1 w5) := Lib.hid (push_below HBW.out hbs2 HIN.out hg5); clear hown5 hg5))
                go_roundw
                case rel => exact ⟨j + 1, by omega, by go_num, by rw [HTK.out]; unfold Ints; rw [List.length_append]; exact HO5.out, HB5.out⟩
                case measure => simp [intOf]; omega
            · have hjn : j = no := by omega
              have d4 : decide (j < no) = false := decide_eq_false hjl
              clear hjl hin hbw
              subst hjn
              go_wp2_with fail
              go_returns
              have hi := HIN.out
              rw [← HNO.out, List.take_length, reach_filter HFIN.out] at hi
              try unfold ReachP
              rw [HV.out]
              exact ⟨_, rfl, ownsRow_mono hi hbs1, HBW1.out.trans (HBW.out.mono hbs1)⟩
end Go.Proofs.Ythjjanjmiinpbaa
