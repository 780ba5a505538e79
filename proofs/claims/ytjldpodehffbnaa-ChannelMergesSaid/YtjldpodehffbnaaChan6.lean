/- Frontier, of channels that are there. -/
import Derived.Test.YtjldpodehffbnaaChan5
namespace Go.Proofs.Ytjldpodehffbnaa
set_option linter.unusedVariables false
set_option linter.unnecessarySimpa false
set_option linter.unusedSimpArgs false
open Go.RowKit

theorem Try.infoP : (Try.prog.info? 45).map (fun i => (i.zero, i.size, i.bytes)) = some (some (.pointer none), 1, 8) := by kernel_rfl
theorem oneCell_chs (l : List CP) : ∀ u ∈ chs l, u.oneCell' = true := by
  intro u hu
  simp only [chs, List.mem_map] at hu
  obtain ⟨x, _, rfl⟩ := hu
  rcases x with _ | ⟨b, r, c⟩ <;> rfl
/-- A slice of channels of the call's own has come back. -/
def RetL (l : List CP) (w : World) (e : Ending) (w' : World) : Prop :=
  ∃ A c, e = .returned (.slice A l.length c) ∧ Sl w' A l.length (chs l) ∧ l.length ≤ c ∧ c ≤ maxLen ∧ Below w.heap.size w w'
set_option maxRecDepth 20000 in set_option maxHeartbeats 400000 in
theorem cloneC_any {w : World} {A : Option Addr} {n c : Nat} {l : List CP} (hx : Sl w A n (chs l)) (hnc : n ≤ c) (hc : c ≤ maxLen) (hn : n * 8 ≤ 140737488355328) :
    Calls Try.prog 57 #[.slice A n c] w (RetL l w) := by
  obtain ⟨i0, hi0, hz0, hz1, hz2⟩ := info_parts Try.infoP
  obtain rfl := hx.lenC
  have hm : l.length ≤ maxLen := Nat.le_trans hnc hc
  have Hm : Hid (l.length ≤ maxLen ∧ l.length * 8 ≤ 140737488355328) := ⟨hm, hn⟩
  clear hm hn
  rcases A with _ | ad
  · have he := fun wx => Lib.run_eql_slice_nil (P := Try.prog) wx 64 45 none 0 c 0 0 Try.underlying64
    have h0 : l = [] := by
      rcases l with _ | ⟨x, l⟩
      · rfl
      · obtain ⟨b, off, hA, _⟩ := hx.2 (by simp)
        cases hA
    subst h0
    go_enter Try.func57, Try.ntmps57
    go_wp2
    go_ret
    exact ⟨none, 0, rfl, Sl.nil _ _, Nat.le_refl _, Nat.zero_le _, G.refl _⟩
  · have he := fun wx => Lib.run_eql_slice_nil (P := Try.prog) wx 64 45 (some ad) l.length c 0 0 Try.underlying64
    go_enter Try.func57, Try.ntmps57
    go_wp2_with (at_builtin; refine wpList_app _ rfl (.tmp 5) (.tmp 6) _ rfl w.heap.size 45 i0 _ 1 8 Try.underlying64 hi0 hz0 hz1 hz2 rfl (by omega) (.slice (some ⟨w.heap.size, 0, none⟩) 0 0) 0 [] rfl (World.ownsRow_made w #[] 0 (Nat.le_refl _) (Nat.zero_le _) rfl) (some ad) l.length c (chs l) rfl (by rw [Nat.mul_one]; exact hx.alloc _) (oneCell_chs _) (by have := Hm.out.1; omega) (by have := Hm.out.2; omega) (by simp) ?_; intro A' c' w' hown hc1 hc2 hg)
    go_ret
    have ho : w'.ownsRow w.heap.size 45 1 (.slice A' l.length c') l.length (chs l) := by simpa using hown
    exact ⟨A', c', by simp, Sl.of_own1 ho, by simpa using hc1, hc2, (G.alloc (G.refl w) _).grown hg (by simp) (by simp [Value.ownBlock])⟩
set_option maxRecDepth 20000 in set_option maxHeartbeats 400000 in
theorem isnil_any (w : World) (b : Nat) : Calls Try.prog 58 #[.pointer (some ⟨b, 0, none⟩)] w fun e w' => e = .returned (.bool false) ∧ w' = w := by
  go_enter Try.func58, Try.ntmps58
  go_wp2
  go_ret
  exact ⟨rfl, rfl⟩
set_option maxRecDepth 20000 in set_option maxHeartbeats 400000 in
theorem idxF_any {w : World} {P : Option Addr} {n c : Nat} {l : List CP} (hl : Sl w P n (chs l)) (hn : n ≤ maxLen) (hs : ∀ x ∈ l, x ≠ none) :
    Calls Try.prog 72 #[.slice P n c, .func (.func 58) #[] #[]] w fun e' w' => e' = .returned (.int .i64 (-1)) ∧ w' = w := by
  unfold maxLen at hn
  go_enter Try.func72, Try.ntmps72
  go_wp2
  go_loop [8] (fun i => ∃ k : Nat, k ≤ n ∧ i = .int .i64 k) (fun i => n - (intOf i).toNat)
  case atStart => exact ⟨0, Nat.zero_le _, rfl⟩
  case round =>
    obtain ⟨k, hk, rfl⟩ := hrel
    by_cases hlt : k < n
    · obtain ⟨bx, ox, x, rfl, hbx, hxk, hcx⟩ := hl.atC hlt
      obtain ⟨⟨b, r, c⟩, rfl⟩ : ∃ y, x = some y := by
        rcases x with _ | y
        · exact absurd rfl (hs none (List.mem_of_getElem? hxk))
        · exact ⟨y, rfl⟩
      replace hcx : w.cell? ⟨bx, ox + k, none⟩ = some (.pointer (some ⟨b, 0, none⟩)) := hcx
      clear hxk
      go_wp2_with (go_at_call 58; (with_reducible refine (isnil_any _ b).mono ?_); rintro e' w2 ⟨rfl, rfl⟩)
      go_round
      case rel => exact ⟨k+1, by omega, by go_num⟩
      case measure => simp [intOf]; omega
    · go_wp2
      go_ret
      exact ⟨rfl, rfl⟩
set_option maxRecDepth 20000 in set_option maxHeartbeats 400000 in
theorem del_any {w : World} {P : Option Addr} {n c : Nat} {l : List CP} (hl : Sl w P n (chs l)) (hn : n ≤ maxLen) (hs : ∀ x ∈ l, x ≠ none) :
    Calls Try.prog 56 #[.slice P n c, .func (.func 58) #[] #[]] w fun e' w' => e' = .returned (.slice P n c) ∧ w' = w := by
  go_enter Try.func56, Try.ntmps56
  go_wp2_with (go_at_call 72; (with_reducible refine (idxF_any hl hn hs).mono ?_); rintro e' w2 ⟨rfl, hw2⟩; subst hw2)
  go_ret
  exact ⟨rfl, rfl⟩
set_option maxRecDepth 20000 in set_option maxHeartbeats 400000 in
theorem front2_any {ok : Nat → Prop} {w : World} {b r b' r' : Nat} {c c' : Ch} (h : ChanAt ok w b r c) (h' : ChanAt ok w b' r' c') :
    Calls Try.prog 60 #[.pointer (some ⟨b, 0, none⟩), .pointer (some ⟨b', 0, none⟩)] w fun e w' => e = .returned (.int .i64 (cmpS (leE c) (leP c) (leE c') (leP c'))) ∧ Below w.heap.size w w' := by
  have H := Lib.hid h
  have H' := Lib.hid h'
  clear h h'
  go_enter Try.func60, Try.ntmps60
  go_wp2_with fail
  refine (least_any H.out).mono ?_
  rintro e1 w1 ⟨A1, c1, rfl, hp1, hb1⟩
  replace hp1 := Lib.hid hp1
  go_wp2_with fail
  refine (least_any (H'.out.grow hb1)).mono ?_
  rintro e2 w2 ⟨A2, c2, rfl, hp2, hb2⟩
  replace hp2 := Lib.hid hp2
  go_wp2_with fail
  refine (compare_any _ _ A1 A2 _ _ c1 c2 _ _ w2 (hp1.out.sl.grow hb2) hp2.out.sl hp1.out.max).mono ?_
  rintro e3 w3 ⟨rfl, hb3⟩
  go_wp2_with fail
  go_ret
  exact ⟨rfl, G.trans (G.trans hb1 hb2) hb3⟩
/-- The least of the channels. -/
def minStep (m : Nat × Nat × Ch) : CP → Nat × Nat × Ch
  | none => m
  | some y => if cmpS (leE y.2.2) (leP y.2.2) (leE m.2.2) (leP m.2.2) < 0 then y else m
def minL (m : Nat × Nat × Ch) (l : List CP) : Nat × Nat × Ch := l.foldl minStep m
theorem minL_mem : ∀ (l : List CP) (m : Nat × Nat × Ch), minL m l = m ∨ some (minL m l) ∈ l
  | [], m => .inl rfl
  | x :: l, m => by
    show minL (minStep m x) l = m ∨ some (minL (minStep m x) l) ∈ x :: l
    have hx : minStep m x = m ∨ some (minStep m x) = x := by
      rcases x with _ | y
      · exact .inl rfl
      · simp only [minStep]; split
        · exact .inr rfl
        · exact .inl rfl
    rcases minL_mem l (minStep m x) with h | h
    · rw [h]
      rcases hx with h1 | h1
      · exact .inl h1
      · exact .inr (by rw [h1]; simp)
    · exact .inr (List.mem_cons_of_mem _ h)
set_option maxRecDepth 20000 in set_option maxHeartbeats 1000000 in
theorem min_any {ok : Nat → Prop} {w : World} {P : Option Addr} {n c : Nat} {m0 : Nat × Nat × Ch} {l : List CP} (hl : Sl w P n (chs (some m0 :: l))) (hn : n ≤ maxLen) (hc : ChansAt ok w (some m0 :: l)) (hs : ∀ x ∈ l, x ≠ none) :
    Calls Try.prog 59 #[.slice P n c, .func (.func 60) #[] #[]] w fun e' w' => e' = .returned (.pointer (some ⟨(minL m0 l).1, 0, none⟩)) ∧ Below w.heap.size w w' := by
  have hlen := hl.lenC
  rw [List.length_cons] at hlen
  unfold maxLen at hn
  have HC := Lib.hid hc
  clear hc
  obtain ⟨bx, ox, x, rfl, hbx, hxk, hcx⟩ := hl.atC (k := 0) (by omega)
  cases hxk
  replace hcx : w.cell? ⟨bx, ox, none⟩ = some (.pointer (some ⟨m0.1, 0, none⟩)) := hcx
  have hn1 : ¬ (n : Int) < 1 := by omega
  have hn0 : (0 : Int) < (n : Int) := by omega
  have hlen' := Lib.hid hlen
  go_enter Try.func59, Try.ntmps59
  go_wp2
  go_loopw [5, 6] (fun mv iv wr => ∃ (k : Nat) (m : Nat × Nat × Ch), k ≤ l.length ∧ iv = .int .i64 ((k + 1 : Nat) : Int) ∧ mv = .pointer (some ⟨m.1, 0, none⟩) ∧ Hid (m = minL m0 (l.take k)) ∧ Below w.heap.size w wr) (fun _ iv _ => n - (intOf iv).toNat)
  case atStart => exact ⟨0, m0, Nat.zero_le _, rfl, rfl, rfl, G.refl _⟩
  case round =>
    clear hcx
    obtain ⟨k, m, hk, rfl, rfl, hm, hbr⟩ := hrel
    have hM : Hid (ChanAt ok wr m.1 m.2.1 m.2.2) := by
      unfold Hid
      have : some m ∈ some m0 :: l := by
        rw [hm.out]
        rcases minL_mem (l.take k) m0 with h | h
        · rw [h]; simp
        · exact List.mem_cons_of_mem _ (List.mem_of_mem_take h)
      exact (HC.out m.1 m.2.1 m.2.2 this).grow hbr
    by_cases hlt : k < l.length
    · have hlk : (some m0 :: l)[k + 1]? = some l[k] := by simp [List.getElem?_eq_getElem hlt]
      have hcx := (hl.grow hbr).getC (k := k + 1) (by omega) hlk
      obtain ⟨⟨b, r, c'⟩, hy⟩ : ∃ y, l[k] = some y := by
        rcases hx : l[k] with _ | y
        · exact absurd hx (hs _ (List.getElem_mem hlt))
        · exact ⟨y, rfl⟩
      rw [hy] at hcx hlk
      replace hcx : wr.cell? ⟨bx, ox + (k + 1), none⟩ = some (.pointer (some ⟨b, 0, none⟩)) := hcx
      have hB : Hid (ChanAt ok wr b r c') := (HC.out b r c' (List.mem_of_getElem? hlk)).grow hbr
      obtain ⟨v, hv⟩ : ∃ v, cmpS (leE c') (leP c') (leE m.2.2) (leP m.2.2) = v := ⟨_, rfl⟩
      have hst : Hid (minL m0 (l.take (k + 1)) = if v < 0 then (b, r, c') else m) := by
        unfold Hid
        rw [List.take_add_one, List.getElem?_eq_getElem hlt, hy]
        show (l.take k ++ [some (b, r, c')]).foldl minStep m0 = _
        rw [List.foldl_append]
        show minStep (minL m0 (l.take k)) (some (b, r, c')) = _
        rw [← hm.out]
        simp only [minStep, hv]
      replace hv := Lib.hid hv
      clear hlk hy
      have hi0 : (0 : Int) ≤ ((k + 1 : Nat) : Int) := by omega
      have hi1 : ((k + 1 : Nat) : Int) < (n : Int) := by omega
      have hi2 : k + 1 < n := by omega
      by_cases hvn : v < 0
      · have hs1 : Hid (minL m0 (l.take (k + 1)) = (b, r, c')) := by unfold Hid; rw [hst.out, if_pos hvn]
        go_wp2_with (go_at_call 60; (with_reducible refine (front2_any hB.out hM.out).mono ?_); rintro e' w2 ⟨rfl, hb2⟩; rw [hv.out]; have hcx2 := G.cell hcx hb2)
        refine ⟨⟨k + 1, (b, r, c'), by omega, by go_num, rfl, hs1.out.symm, G.trans hbr hb2⟩, ?_⟩
        simp [intOf]; omega
      · have hs1 : Hid (minL m0 (l.take (k + 1)) = m) := by unfold Hid; rw [hst.out, if_neg hvn]
        go_wp2_with (go_at_call 60; (with_reducible refine (front2_any hB.out hM.out).mono ?_); rintro e' w2 ⟨rfl, hb2⟩; rw [hv.out])
        refine ⟨⟨k + 1, m, by omega, by go_num, rfl, hs1.out.symm, G.trans hbr hb2⟩, ?_⟩
        simp [intOf]; omega
    · have hi2 : ¬ ((k + 1 : Nat) : Int) < (n : Int) := by omega
      have hi3 : ¬ k + 1 < n := by omega
      have hke : k = l.length := by omega
      have hs1 : Hid (m = minL m0 l) := by unfold Hid; rw [hm.out, hke, List.take_length]
      go_wp2
      go_ret
      exact ⟨by rw [← hs1.out]; rfl, hbr⟩

/-- A stamp and OK have come back. -/
def RetF (e : Int) (p : List Int) (w : World) (end_ : Ending) (w' : World) : Prop :=
  ∃ A c, end_ = .returned (.tuple #[.agg #[.int .i64 e, .slice A p.length c], .int .i64 0]) ∧ PathIs (From w.heap.size) w' A p.length c p ∧ Below w.heap.size w w'
set_option maxRecDepth 20000 in set_option maxHeartbeats 1000000 in
theorem frontier_any {ok : Nat → Prop} {w : World} {P : Option Addr} {n c : Nat} {m0 : Nat × Nat × Ch} {l : List CP} (hl : Sl w P n (chs (some m0 :: l))) (hnc : n ≤ c) (hcm : c ≤ maxLen) (hn8 : n * 8 ≤ 140737488355328) (hc : ChansAt ok w (some m0 :: l)) (hs : ∀ x ∈ l, x ≠ none) :
    Calls Try.prog 31 #[.slice P n c] w (RetF (leE (minL m0 l).2.2) (leP (minL m0 l).2.2) w) := by
  have HC := Lib.hid hc
  have hlen := hl.lenC
  have hs' : ∀ x ∈ some m0 :: l, x ≠ none := fun x hx => by
    rcases List.mem_cons.1 hx with rfl | hx
    · simp
    · exact hs x hx
  have hM : some (minL m0 l) ∈ some m0 :: l := by
    rcases minL_mem l m0 with h | h
    · rw [h]; simp
    · exact List.mem_cons_of_mem _ h
  have HM : Hid (ChanAt ok w (minL m0 l).1 (minL m0 l).2.1 (minL m0 l).2.2) := hc _ _ _ hM
  obtain ⟨M, hMM⟩ : ∃ M, minL m0 l = M := ⟨_, rfl⟩
  have MIN := fun (w' : World) P n c (h1 : Sl w' P n (chs (some m0 :: l))) (h2 : n ≤ maxLen) (hb : Below w.heap.size w w') => min_any (ok := ok) (c := c) h1 h2 (HC.out.grow hb) hs
  rw [hMM] at HM MIN ⊢
  replace MIN := Lib.hid MIN
  clear hM hc hMM
  have hle := Lib.hid hlen
  have hl0 : ¬ n = 0 := by rw [List.length_cons] at hlen; omega
  clear hlen
  go_enter Try.func31, Try.ntmps31
  go_wp2_with fail
  refine (cloneC_any (hl.alloc _) hnc hcm hn8).mono ?_
  rintro e1 w1 ⟨A1, c1, rfl, hl1, hc1, hm1, hb1⟩
  rw [hle.out] at hl1 hc1 ⊢
  have x2 : Bx w1 w.heap.size [.int .i64 0, .slice none 0 0] := Bx.grow (by repeat (first | with_reducible assumption | (with_reducible exact Bx.new (by simp; done) (by rfl)) | (with_reducible refine Bx.alloc ?_ _) | (with_reducible refine Bx.drewN ?_ _) | ((with_reducible apply Bx.put); rotate_right; (first | rfl | skip)) | (with_reducible refine Bx.other ?_ (by first | (simp; done) | (simp; omega)) _))) hb1
  have hbw : Below w.heap.size w w1 := G.trans (by repeat (first | with_reducible assumption | with_reducible exact G.refl _ | with_reducible refine G.drew ?_ | with_reducible refine G.drewN ?_ _ | with_reducible refine G.alloc ?_ _ | with_reducible refine Below.setCell ?_ (by first | (simp; done) | (simp; omega)) _ | with_reducible refine G.trans ?_ hb12 | with_reducible refine G.trans ?_ hb11 | with_reducible refine G.trans ?_ hb10 | with_reducible refine G.trans ?_ hb9 | with_reducible refine G.trans ?_ hb8 | with_reducible refine G.trans ?_ hb7 | with_reducible refine G.trans ?_ hb6 | with_reducible refine G.trans ?_ hb5 | with_reducible refine G.trans ?_ hb4 | with_reducible refine G.trans ?_ hb3 | with_reducible refine G.trans ?_ hb2 | with_reducible refine G.trans ?_ hb1 | with_reducible refine G.trans ?_ hb | assumption)) hb1
  go_wp2_with (first
    | (go_at_call 56; (with_reducible refine (del_any hl1 (Nat.le_trans hc1 hm1) hs').mono ?_); rintro e2 w2 ⟨rfl, hw2⟩; subst hw2)
    | fail)
  refine (MIN.out w2 A1 n c1 hl1 (Nat.le_trans hc1 hm1) hbw).mono ?_
  rintro e3 w3 ⟨rfl, hb3⟩
  have hbw3 := G.trans hbw hb3
  replace x2 := x2.grow hb3
  go_wp2_with fail
  refine (least_any (HM.out.grow hbw3)).mono ?_
  rintro e4 w4 ⟨A4, c4, rfl, hp4, hb4⟩
  have hbw4 := G.trans hbw3 hb4
  have hs3 := x2.lt
  replace x2 := x2.grow hb4
  obtain ⟨m0', g0⟩ := x2.2 0 _ rfl
  obtain ⟨m1, g1⟩ := x2.2 1 _ rfl
  go_wp2_with fail
  exact bodyPost_ret (v := .tuple #[.agg #[.int .i64 (leE M.2.2), .slice A4 (leP M.2.2).length c4], .int .i64 0]) (by simp only [results, Try.results31]; go_simp) rfl ⟨A4, c4, rfl, hp4.back (((Keeps.refl _ _).setCell (by simp; omega) _).setCell (by simp; omega) _) (by omega), (hbw4.setCell (by simp) _).setCell (by simp) _⟩
end Go.Proofs.Ytjldpodehffbnaa
