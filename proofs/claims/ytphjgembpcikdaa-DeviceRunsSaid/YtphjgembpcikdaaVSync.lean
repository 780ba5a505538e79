/- The law DeviceSyncs returns true: the walk. -/
import Derived.Test.YtphjgembpcikdaaVRun
namespace Go.Proofs.Ytphjgembpcikdaa
set_option linter.unusedVariables false
set_option linter.unnecessarySimpa false
set_option linter.unusedSimpArgs false
open Go.RowKit

section
variable {l : List Fl} {n m : List UInt8} {x f : Fl} {s : Ds}
theorem lk_ins (hx : x.name ≠ n) : ∀ l : List Fl, lkC (insC x l) n = lkC l n
  | [] => by
    have : (x.name == n) = false := by simpa using hx
    unfold insC lkC
    rw [List.find?_cons, this]
  | y :: r => by
    have ih := lk_ins hx r
    have e : (x.name == n) = false := by simpa using hx
    unfold insC
    split
    · unfold lkC
      rw [List.find?_cons, e]
    · unfold lkC at ih ⊢
      rw [List.find?_cons, List.find?_cons, ih]
theorem lk_del (hm : m ≠ n) : ∀ l : List Fl, lkC (delC l m) n = lkC l n
  | [] => rfl
  | y :: r => by
    have ih := lk_del hm r
    unfold delC at ih ⊢
    rw [List.filter_cons]
    rcases hy : (y.name == m) with _ | _
    · unfold lkC at ih ⊢
      simp only [Bool.not_false, if_true]
      rw [List.find?_cons, List.find?_cons, ih]
    · have e : (y.name == n) = false := by
        have := eq_of_beq hy
        simpa [this] using hm
      unfold lkC at ih ⊢
      simp only [Bool.not_true, Bool.false_eq_true, if_false]
      rw [List.find?_cons, e, ih]
theorem lk_upd (hx : x.name = m) (hm : m ≠ n) : ∀ l : List Fl, lkC (updC l m x) n = lkC l n
  | [] => rfl
  | y :: r => by
    have ih := lk_upd hx hm r
    unfold updC lkC at ih ⊢
    rw [List.map_cons, List.find?_cons, List.find?_cons, ih]
    rcases hy : (y.name == m) with _ | _
    · simp only [Bool.false_eq_true, if_false]
    · have h1 : y.name ≠ n := by rw [eq_of_beq hy]; exact hm
      have h2 : x.name ≠ n := by rw [hx]; exact hm
      have e1 : (y.name == n) = false := by simpa using h1
      have e2 : (x.name == n) = false := by simpa using h2
      simp only [if_true, e1, e2]
theorem perf_lk {g h : Ds → Ds} {o : Option Fl} (hf : lkC (g s).fs n = o) (hg : ∀ t, lkC t.fs n = o → lkC (h t).fs n = o) : lkC (perfD s g h).2.fs n = o := by
  unfold perfD
  split
  · exact hf
  · exact hg _ hf
/-- A file that is named by no operation stays as it is. -/
theorem oper_lk (o : LOp) (k : Nat) (hn : ∀ j, nameL j ≠ n) : lkC (operD s o k).2.fs n = lkC s.fs n := by
  have put : ∀ (x : Fl) (l : List Fl), x.name ≠ n → lkC (putFl l x) n = lkC l n := fun x l hx => by
    unfold putFl
    rw [lk_ins hx, lk_del hx]
  unfold operD
  split
  · unfold createD
    repeat' split
    all_goals first | rfl | exact perf_lk rfl fun t ht => (put _ _ (hn _)).trans ht
  · unfold appendD
    split
    · rfl
    · split
      · rfl
      · next f hl =>
        have e := (lkC_some hl).2
        split
        · rfl
        · split
          · rfl
          · refine perf_lk ?_ fun t ht => ht
            exact lk_upd (x := ⟨f.name, f.data ++ dataL k (o.data % 64), f.dur⟩) e (hn _) _
  · unfold truncD
    split
    · rfl
    · split
      · rfl
      · next f hl =>
        have e := (lkC_some hl).2
        split
        · rfl
        · exact perf_lk rfl fun t ht => Eq.trans (lk_upd (by exact e) (hn _) _) ht
  · unfold removeD
    split
    · rfl
    · split
      · rfl
      · exact perf_lk rfl fun t ht => (lk_del (hn _) _).trans ht
  · unfold renameD
    split
    · rfl
    · split
      · rfl
      · split
        · rfl
        · exact perf_lk rfl fun t ht => ((put _ _ (hn _)).trans (lk_del (hn _) _)).trans ht
  · unfold syncD
    split
    · rfl
    · split
      · rfl
      · next f hl =>
        have e := (lkC_some hl).2
        exact perf_lk rfl fun t ht => Eq.trans (lk_upd (by exact e) (hn _) _) ht
theorem runN_lk (q : List LOp) (hn : ∀ j, nameL j ≠ n) (i : Nat) : lkC (runN s q i).fs n = lkC s.fs n := runN_inv (p := fun t => lkC t.fs n = lkC s.fs n) q rfl (fun t o k ht => (oper_lk o k hn).trans ht) i
theorem start_lk (hf : f.data.length ≤ f.dur) : ∀ (l : List Fl) (ch : List UInt8), lkC l n = some f → lkC (startL l ch) n = some ⟨f.name, f.data, f.data.length⟩
  | [], _, h => by cases h
  | y :: r, ch, h => by
    unfold lkC at h
    rw [List.find?_cons] at h
    unfold startL
    rcases hy : (y.name == n) with _ | _
    · rw [hy] at h
      split
      · unfold lkC
        rw [List.find?_cons]
        simp only [hy]
        exact start_lk hf r _ h
      · unfold lkC
        rw [List.find?_cons]
        simp only [hy]
        exact start_lk hf r _ h
    · rw [hy] at h
      obtain rfl : y = f := Option.some.inj h
      rw [if_pos hf]
      unfold lkC
      rw [List.find?_cons]
      simp only [hy]
end
theorem keep_other (j : Nat) : nameL j ≠ [107, 101, 101, 112] := by
  unfold nameL nameB
  split <;> decide
def y1 : Ds := ⟨100000, false, false, -1, [⟨[107, 101, 101, 112], [], 0⟩]⟩
def y2 (l : List UInt8) : Ds := ⟨100000, false, false, -2, [⟨[107, 101, 101, 112], l, 0⟩]⟩
def y3 (l : List UInt8) : Ds := ⟨100000, false, false, -3, [⟨[107, 101, 101, 112], l, l.length⟩]⟩
theorem yc1 : createD (newD 100000) [107, 101, 101, 112] = (0, y1) := by kernel_rfl
theorem yc2 {l : List UInt8} (hl : l.length ≤ 200) : appendD y1 [107, 101, 101, 112] l = (0, y2 l) := by
  unfold appendD
  rw [if_neg (by show ¬ (false = true); decide)]
  show (if 16777216 < 0 + l.length then _ else if freeD y1 < (l.length : Int) then _ else _) = _
  rw [if_neg (by omega), if_neg (by show ¬ ((100000 : Int) - 0 < (l.length : Int)); omega)]
  rfl
theorem yc3 (l : List UInt8) : syncD (y2 l) [107, 101, 101, 112] = (0, y3 l) := by kernel_rfl
theorem yg1 : y1.Good := by have := create_good (new_good (n := 100000) (by decide) (by decide)) [107, 101, 101, 112]; rw [yc1] at this; exact this
theorem yg2 {l : List UInt8} (hl : l.length ≤ 200) : (y2 l).Good := by have := append_good yg1 [107, 101, 101, 112] l; rw [yc2 hl] at this; exact this
theorem yg3 {l : List UInt8} (hl : l.length ≤ 200) : (y3 l).Good := by have := sync_good (yg2 hl) [107, 101, 101, 112]; rw [yc3] at this; exact this
theorem cut_size' (s : ByteArray) (k : Nat) : (s.extract 0 (min (s.size : Int) k).toNat).size = min s.size k := by
  rw [ByteArray.size_extract]
  omega
theorem read_all {s : Ds} {n : List UInt8} {f : Fl} (hd : s.down = false) (hl : lkC s.fs n = some f) : readD s n 0 f.data.length = (f.data, 0) := by
  unfold readD
  rw [hd, if_neg (by simp), hl]
  dsimp only
  rw [if_neg (by omega)]
  simp
theorem size_lk {s : Ds} {n : List UInt8} {f : Fl} (hd : s.down = false) (hl : lkC s.fs n = some f) : sizeD s n = ((f.data.length : Int), 0) := by
  unfold sizeD
  rw [hd, if_neg (by simp), hl]
theorem BA_id (t : ByteArray) : BA t.data.toList = t := by
  unfold BA
  simp
section
variable {w : World}
set_option maxRecDepth 20000 in set_option maxHeartbeats 2000000 in
theorem deviceSyncs_any (s : ByteArray) (hs : s.size ≤ maxLen) {A : Option Addr} {n c : Nat} {l : List LOp} (hl : OpsW w A n c l) {B : Option Addr} {bn bc : Nat} {ch : List UInt8} (hch : BytesW w B bn bc ch) :
    Calls Try.prog 5 #[.string s, .slice A n c, .slice B bn bc] w fun e w' => e = .returned (.bool true) ∧ Below w.heap.size w w' := by
  unfold maxLen at hs
  obtain ⟨z, hz⟩ : ∃ z : Nat, min s.size 200 = z := ⟨_, rfl⟩
  have hzi : min (s.size : Int) 200 = (z : Int) := by omega
  obtain ⟨t, ht⟩ : ∃ t, s.extract 0 z = t := ⟨_, rfl⟩
  have htl : t.size ≤ 200 := by
    rw [← ht, ByteArray.size_extract]
    omega
  have hzs : z ≤ s.size := by omega
  have hzs2 : (z : Int) ≤ (s.size : Int) := by omega
  clear hz
  have hlt : t.data.toList.length = t.size := rfl
  have HT := Lib.hid (show t.data.toList.length ≤ 200 from htl)
  obtain ⟨m, hm⟩ : ∃ m : Nat, min n 30 = m := ⟨_, rfl⟩
  have hmn : m ≤ n := by omega
  have hm40 : m ≤ 30 := by omega
  obtain ⟨hln, hnc, hcm⟩ := hl.len
  have hmi : min (n : Int) 30 = (m : Int) := by omega
  have hmc : m ≤ c := by omega
  unfold maxLen at hcm
  have HL := Lib.hid (hl.take hmn)
  obtain ⟨q, hq⟩ : ∃ q, l.take m = q := ⟨_, rfl⟩
  rw [hq] at HL
  have hql : Hid (q.length = m) := HL.out.len.1
  have HC := Lib.hid hch
  obtain ⟨_, hbc, hbm, _⟩ := hch
  clear hl hq hm hln
  go_enter Try.func5, Try.ntmps5
  go_wp2_with fail
  refine wp_region_ord [(0, 1), (1, 1), (2, 1), (3, 1), (4, 1), (5, 1), (6, 1), (7, 1), (8, 1), (9, 1), (10, 1), (11, 1)] [] 5 (by kernel_rfl) (by decide +kernel) ?_
  simp only [pickO, List.append_eq, List.cons_append, List.nil_append, List.getElem?_cons_succ, List.getElem?_cons_zero]
  intro w0 hG
  (repeat ((first | (with_reducible refine ord_q1 ?_) | (with_reducible refine ord_q0 ?_)); intro K hK; first | (refine Or.inr ⟨?_, ?_⟩; (focus (go_simp; first | done | (simp [undef]; done))); go_simp; (with_reducible refine hK _ ?_); clear hK K) | (refine Or.inl ⟨?_, ?_⟩; (focus (go_simp; done)); apply Exists.intro; refine And.intro ?_ ?_; (focus (first | (intro wq hq; obtain ⟨hcq, hfq⟩ := G.old hq; go_simp; (first | done | exact rfl); done) | (intro wq; go_simp; (first | done | exact rfl); done))); go_simp; (with_reducible refine hK _ ?_); clear hK K) | fail))
  (with_reducible refine ord_nil ?_)
  replace ht := Lib.hid ht
  have hg0 := Lib.hid hG.b
  replace HL := Lib.hid (HL.out.grow hG.b)
  clear hG
  go_wp2_with fail
  refine (new_any 100000 (by decide) (by decide)).mono ?_
  intro e w1 hr
  obtain ⟨d, rfl, F0⟩ := FD.new (w0 := w0) (G.refl w0) hr
  replace F0 := Lib.hid F0
  clear hr
  go_wp2_with fail
  refine (known_any _).mono ?_
  rintro e w2 ⟨rfl, hb2⟩
  replace F0 := Lib.hid (F0.out.grow hb2)
  clear hb2
  go_wp2_with fail
  refine (FD.runE (r := (0, y1)) F0.out fun S h => yc1 ▸ create_any h (bs [107, 101, 101, 112]) (by decide)).mono ?_
  rintro e w3 ⟨rfl, F1⟩
  replace F1 := Lib.hid F1
  clear F0
  go_wp2_with fail
  refine (FD.runE (r := (0, y2 t.data.toList)) F1.out fun S h => yc2 HT.out ▸ append_any h yg1.ok (bs [107, 101, 101, 112]) t (by decide) (by omega)).mono ?_
  rintro e w4 ⟨rfl, F2⟩
  replace F2 := Lib.hid F2
  clear F1
  go_wp2_with fail
  refine (FD.runE (r := (0, y3 t.data.toList)) F2.out fun S h => yc3 _ ▸ sync_any h (bs [107, 101, 101, 112]) (by decide)).mono ?_
  rintro e w5 ⟨rfl, F3⟩
  replace F3 := Lib.hid F3
  clear F2
  go_wp2_with fail
  go_loopw [9] (fun iv wr => ∃ i : Nat, i ≤ m ∧ iv = .int .i64 i ∧ FD w0 wr d (runN (y3 t.data.toList) q i)) (fun iv _ => m - (intOf iv).toNat)
  case atStart => exact ⟨0, Nat.zero_le _, rfl, F3.out⟩
  case round =>
    obtain ⟨i, hi, rfl, hF⟩ := hrel
    replace hF := Lib.hid hF
    have hG := runN_good q (yg3 (l := t.data.toList) HT.out) i
    by_cases hlt : i < m
    · obtain ⟨o, ho⟩ : ∃ o, q[i]? = some o := ⟨_, List.getElem?_eq_getElem (by rw [hql.out]; exact hlt)⟩
      obtain ⟨b, off, rfl, hbl, e0, e1, e2, e3, e4, hfit⟩ := (HL.out.grow hF.out.below).at_ ho
      replace ho := Lib.hid ho
      replace hG := Lib.hid hG
      go_wp2_with fail
      refine (FD.oper hF.out hG.out o hfit i (by omega)).mono ?_
      rintro e w3 ⟨rfl, hF'⟩
      replace hF' := Lib.hid hF'
      go_wp2_with fail
      go_roundw
      case rel => exact ⟨i + 1, by omega, by go_num, by rw [runN_step ho.out]; exact hF'.out⟩
      case measure => simp [intOf]; omega
    · obtain rfl : i = m := by omega
      have hU := runN_up q (s := y3 t.data.toList) ⟨rfl, rfl⟩ i
      have hK : lkC (runN (y3 t.data.toList) q i).fs [107, 101, 101, 112] = some ⟨[107, 101, 101, 112], t.data.toList, t.data.toList.length⟩ := runN_lk q keep_other i
      obtain ⟨u, hu⟩ : ∃ u, runN (y3 t.data.toList) q i = u := ⟨_, rfl⟩
      rw [hu] at hG hU hK hF
      clear hu
      have hG5 := Lib.hid (start_good (crash_good hG) ch)
      have hK5 : Hid (lkC (startD { u with down := true } ch).fs [107, 101, 101, 112] = some ⟨[107, 101, 101, 112], t.data.toList, t.data.toList.length⟩) := start_lk (Nat.le_refl _) _ _ hK
      have hd5 : Hid ((startD { u with down := true } ch).down = false) := rfl
      replace hG := Lib.hid hG
      clear hU hK
      go_wp2_with fail
      refine (FD.runV (s' := { u with down := true }) hF.out fun S h => crash_any h).mono ?_
      rintro e w6 ⟨rfl, F6⟩
      replace F6 := Lib.hid F6
      clear hF
      go_wp2_with fail
      obtain ⟨S, D, hS⟩ := F6.out.dev
      have hC6 := HC.out
      refine (start_any D (crash_good hG.out).ok (hC6.1.grow (G.trans hg0.out F6.out.below)) hC6.2.1 hC6.2.2.1 (fun ad e hs => ?_)).mono ?_
      · have h1 := hS _ hs
        have h2 := hC6.2.2.2 ad e
        have h3 := hg0.out.size
        omega
      rintro e w7 ⟨rfl, hr⟩
      have F7 := Lib.hid (FD.of_ret F6.out.below hS hr)
      clear hr D hS F6 hC6
      obtain ⟨v, hv⟩ : ∃ v, startD { u with down := true } ch = v := ⟨_, rfl⟩
      rw [hv] at F7 hG5 hK5 hd5
      clear hv
      go_wp2_with fail
      obtain ⟨S, D, hS⟩ := F7.out.dev
      have hrd := read_any D hG5.out.ok (bs [107, 101, 101, 112]) (by decide) 0 t.size (by decide)
      rw [show readD v (bs [107, 101, 101, 112]).data.toList 0 t.size = (t.data.toList, 0) from read_all hd5.out hK5.out] at hrd
      refine hrd.mono ?_
      clear hrd D hS
      rintro e w8 ⟨he, hb8⟩
      replace he : e = .returned (.tuple #[.string (BA t.data.toList), .int .i64 0]) := he
      rw [BA_id] at he
      subst he
      replace F7 := Lib.hid (F7.out.grow hb8)
      clear hb8
      go_wp2_with fail
      obtain ⟨S, D, hS⟩ := F7.out.dev
      have hsz := size_any D (bs [107, 101, 101, 112]) (by decide)
      rw [show sizeD v (bs [107, 101, 101, 112]).data.toList = ((t.size : Int), 0) from size_lk hd5.out hK5.out] at hsz
      refine hsz.mono ?_
      clear hsz D hS
      rintro e w9 ⟨he, hw⟩
      subst hw
      replace he : e = .returned (.tuple #[.int .i64 t.size, .int .i64 0]) := he
      subst he
      go_wp2_with fail
      go_ret
      exact ⟨rfl, G.trans hg0.out F7.out.below⟩
end
end Go.Proofs.Ytphjgembpcikdaa
