/- DeleteFunc of the one nil; Frontier. -/
import Derived.Test.YtjldpodehffbnaaFront1
namespace Go.Proofs.Ytjldpodehffbnaa
set_option linter.unusedVariables false
set_option linter.unnecessarySimpa false
set_option linter.unusedSimpArgs false
open Go.RowKit

theorem hole_get {α : Type} {ab : List α} {x : α} {i : Nat} (hi : i ≤ ab.length) : (ab.take i ++ x :: ab.drop i)[i + 1]? = ab[i]? := by
  rw [List.getElem?_append_right (by rw [List.length_take]; omega), List.length_take, Nat.min_eq_left hi, show i + 1 - i = 0 + 1 by omega, List.getElem?_cons_succ, List.getElem?_drop]
  rfl
theorem hole_set {α : Type} {ab : List α} {x y : α} {i : Nat} (hy : ab[i]? = some y) : (ab.take i ++ x :: ab.drop i).set i y = ab.take (i + 1) ++ y :: ab.drop (i + 1) := by
  obtain ⟨hi, rfl⟩ := List.getElem?_eq_some_iff.1 hy
  rw [List.set_append_right _ _ (by rw [List.length_take]; omega), List.length_take, Nat.min_eq_left (by omega), Nat.sub_self, List.set_cons_zero, List.take_add_one, hy, List.append_assoc]
  simp only [Option.toList_some, List.cons_append, List.nil_append]
  rw [List.drop_eq_getElem_cons hi]
theorem chs_set (l : List CP) (i : Nat) (y : CP) : (chs l).set i (chv y) = chs (l.set i y) := by simp [chs, List.map_set]
theorem zero_ptr (w : World) : (zeroValue 45).run Try.prog w = .ok (.pointer none) w := by
  obtain ⟨i0, hi0, hz0, hz1, hz2⟩ := info_parts Try.infoP
  simp [zeroValue, typeInfo, hi0, hz0]
def RetDel (g : Nat) (n c : Nat) (ab : List CP) (w : World) (e : Ending) (w' : World) : Prop :=
  e = .returned (.slice (some ⟨g, 0, none⟩) n c) ∧ Sl w' (some ⟨g, 0, none⟩) n (chs ab) ∧ Below 0 w w' ∧ Keeps (fun x => x ≠ g) w w'
set_option maxRecDepth 20000 in set_option maxHeartbeats 1000000 in
theorem del1_any {w : World} {g n c : Nat} {a b : List CP} (hx : Bx w g (chs (a ++ none :: b))) (hn : n + 1 = (a ++ none :: b).length) (hnc : n + 1 ≤ c) (hcm : c ≤ maxLen) (ha : ∀ x ∈ a, x ≠ none) (hb : ∀ x ∈ b, x ≠ none) :
    Calls Try.prog 56 #[.slice (some ⟨g, 0, none⟩) (n + 1) c, .func (.func 58) #[] #[]] w (RetDel g n c (a ++ b) w) := by
  have hnm : n + 1 ≤ maxLen := Nat.le_trans hnc hcm
  have hl : Sl w (some ⟨g, 0, none⟩) (n + 1) (chs (a ++ none :: b)) := ⟨by simp only [chs, List.length_map]; omega, fun _ => ⟨g, 0, rfl, hx.lt, fun j u hu => by rw [Nat.zero_add]; exact (hx.2 j u hu).1⟩⟩
  have IDX := fun cc => idx1_any (c := cc) hl hnm ha
  have hab : n = (a ++ b).length := by simp at hn ⊢; omega
  have hall : Hid (∀ x ∈ a ++ b, x ≠ none) := fun x hm => by
    rcases List.mem_append.1 hm with h | h
    · exact ha x h
    · exact hb x h
  have hal : a.length ≤ n := by rw [hab]; simp
  have h0 : chs (a ++ none :: b) = chs ((a ++ b).take a.length ++ none :: (a ++ b).drop a.length) := by rw [List.take_left, List.drop_left]
  rw [h0] at hx
  obtain ⟨A, hA⟩ : ∃ A, a.length = A := ⟨_, rfl⟩
  obtain ⟨ab, hab'⟩ : ∃ ab, a ++ b = ab := ⟨_, rfl⟩
  rw [hab'] at hx hab hall ⊢
  rw [hA] at hx hal IDX
  replace hx := Lib.hid hx
  replace IDX := Lib.hid IDX
  unfold maxLen at hcm
  replace hn := Lib.hid hn
  replace hab := Lib.hid hab
  clear hl ha hb h0 hA hab' hnm
  have ha1 : ((A : Int) == -1) = false := by simp
  have hw1 : IntKind.i64.wrap ((A : Int) + 1) = ((A + 1 : Nat) : Int) := by rw [IntWalk.i64_in _ (by omega)]; omega
  go_enter Try.func56, Try.ntmps56
  go_wp2_with (go_at_call 72; (with_reducible refine (IDX.out _).mono ?_); rintro e' w2 ⟨rfl, hw2⟩; replace hw2 := hw2.symm; subst hw2)
  go_loopw [5, 6] (fun iv jv wr => ∃ (i : Nat) (x : CP), A ≤ i ∧ i ≤ n ∧ iv = .int .i64 i ∧ jv = .int .i64 ((i + 1 : Nat) : Int) ∧ Bx wr g (chs (ab.take i ++ x :: ab.drop i)) ∧ Below 0 w wr ∧ Keeps (fun x => x ≠ g) w wr) (fun iv _ _ => n - (intOf iv).toNat)
  case atStart => exact ⟨A, none, Nat.le_refl _, hal, rfl, by go_num, hx.out, Below.refl _ _, Keeps.refl _ _⟩
  case round =>
    obtain ⟨i, x, hai, hin, rfl, rfl, hx, hbr, hkr⟩ := hrel
    by_cases hlt : i < n
    · obtain ⟨y, hy⟩ : ∃ y, ab[i]? = some y := ⟨_, List.getElem?_eq_getElem (by rw [← hab.out]; exact hlt)⟩
      have hg1 := hole_get (x := x) (show i ≤ ab.length by rw [← hab.out]; omega)
      rw [hy] at hg1
      obtain ⟨⟨b', r', c'⟩, rfl⟩ : ∃ z, y = some z := by
        rcases y with _ | z
        · exact absurd rfl (hall.out none (List.mem_of_getElem? hy))
        · exact ⟨z, rfl⟩
      have hcx : wr.cell? ⟨g, i + 1, none⟩ = some (.pointer (some ⟨b', 0, none⟩)) := (hx.2 (i + 1) _ (by unfold chs; rw [List.getElem?_map, hg1]; rfl)).1
      have hil : i < (chs (ab.take i ++ x :: ab.drop i)).length := by have := hab.out; simp [chs]; omega
      obtain ⟨hci, hfi⟩ := hx.2 i _ (List.getElem?_eq_getElem hil)
      have hnew : Hid (Bx (wr.setCell ⟨g, i, none⟩ (.pointer (some ⟨b', 0, none⟩))) g (chs (ab.take (i + 1) ++ some (b', r', c') :: ab.drop (i + 1)))) := hx.put (by rw [← hole_set hy, ← chs_set]; rfl)
      generalize (chs (ab.take i ++ x :: ab.drop i))[i] = u at hci
      have ltg := hx.lt
      replace hy := Lib.hid hy
      have hi1 : i + 1 < n + 1 := by omega
      have hi2 : i < n + 1 := by omega
      clear hg1 hil hx
      go_wp2_with (go_at_call 58; (with_reducible refine (isnil_any _ b').mono ?_); rintro e' w2 ⟨rfl, rfl⟩)
      go_roundw
      case rel => exact ⟨i + 1, some (b', r', c'), by omega, by omega, by go_num, by go_num, hnew.out, hbr.setCell (Nat.zero_le _) _, hkr.setCell (fun h => h rfl) _⟩
      case measure => simp [intOf]; omega
    · obtain rfl : i = n := by omega
      have ht : ab.take i = ab := List.take_of_length_le (by rw [← hab.out]; exact Nat.le_refl _)
      have hd : ab.drop i = [] := List.drop_eq_nil_of_le (by rw [← hab.out]; exact Nat.le_refl _)
      rw [ht, hd] at hx
      have hlen : (chs ab).length = i := by unfold chs; rw [List.length_map]; exact hab.out.symm
      have hce : chs (ab ++ [x]) = chs ab ++ [chv x] := by simp [chs]
      rw [hce] at hx
      obtain ⟨hci, hfi⟩ := hx.2 i (chv x) (by rw [List.getElem?_append_right (by omega), hlen, Nat.sub_self]; rfl)
      have hc1 : ∀ j, j < 1 → (wr.cell? ⟨g, i + j, none⟩).isSome = true := fun j hj => by
        obtain rfl : j = 0 := by omega
        rw [Nat.add_zero, hci]; rfl
      have hf1 : ∀ j, j < 1 → wr.frozen? ⟨g, i + j, none⟩ = false := fun j hj => by
        obtain rfl : j = 0 := by omega
        rw [Nat.add_zero]; exact hfi
      have hcl := fun ty cc => Lib.run_clear_slice (P := Try.prog) wr 64 45 ty (.pointer none) Try.underlying64 zero_ptr rfl rfl g i 1 cc (by decide) hc1 hf1
      simp only [List.replicate_one] at hcl
      have hsl : Hid (Sl (wr.setCells g i [.pointer none]) (some ⟨g, 0, none⟩) i (chs ab)) := ⟨hlen, fun hp => ⟨g, 0, rfl, Nat.lt_of_lt_of_le hx.lt (Below.setCells' (Nat.zero_le _) _ _ _ (Below.refl 0 wr)).size, fun j u hu => by
        have hj := (List.getElem?_eq_some_iff.1 hu).1
        rw [World.cell?_setCells_out g _ _ _ _ (fun _ _ => .inl (by simp; omega)), Nat.zero_add]
        exact (hx.2 j u (by rw [List.getElem?_append_left hj]; exact hu)).1⟩⟩
      have hfin : Hid (Below 0 w (wr.setCells g i [.pointer none]) ∧ Keeps (fun x => x ≠ g) w (wr.setCells g i [.pointer none])) := ⟨Below.setCells' (Nat.zero_le _) _ _ _ hbr, Keeps.setCells (fun h => h rfl) _ _ _ hkr⟩
      have hn1 : i + 1 - i = 1 := by omega
      have hn2 : i < i + 1 := by omega
      have hn3 : ¬ c - i = 0 := by omega
      have hn4 : ¬ c = i := by omega
      clear hx hci hce hc1 hf1
      go_wp2_with fail
      go_ret
      exact ⟨rfl, hsl.out, hfin.out.1, hfin.out.2⟩
set_option maxRecDepth 20000 in set_option maxHeartbeats 1000000 in
theorem frontier1_any {ok : Nat → Prop} {w : World} {P : Option Addr} {n c : Nat} {m0 : Nat × Nat × Ch} {l a b : List CP} (hl : Sl w P (n + 1) (chs (a ++ none :: b))) (hab : a ++ b = some m0 :: l) (hnc : n + 1 ≤ c) (hcm : c ≤ maxLen) (hn8 : (n + 1) * 8 ≤ 140737488355328) (hc : ChansAt ok w (some m0 :: l)) (ha : ∀ x ∈ a, x ≠ none) (hb : ∀ x ∈ b, x ≠ none) :
    Calls Try.prog 31 #[.slice P (n + 1) c] w (RetF (leE (minL m0 l).2.2) (leP (minL m0 l).2.2) w) := by
  have HC := Lib.hid hc
  have hlen := hl.lenC
  have hs : ∀ x ∈ l, x ≠ none := fun x hx => by
    have : x ∈ a ++ b := by rw [hab]; exact List.mem_cons_of_mem _ hx
    rcases List.mem_append.1 this with h | h
    · exact ha x h
    · exact hb x h
  have hM : some (minL m0 l) ∈ some m0 :: l := by
    rcases minL_mem l m0 with h | h
    · rw [h]; simp
    · exact List.mem_cons_of_mem _ h
  have HM : Hid (ChanAt ok w (minL m0 l).1 (minL m0 l).2.1 (minL m0 l).2.2) := hc _ _ _ hM
  obtain ⟨M, hMM⟩ : ∃ M, minL m0 l = M := ⟨_, rfl⟩
  have MIN := fun (w' : World) P n c (h1 : Sl w' P n (chs (some m0 :: l))) (h2 : n ≤ maxLen) (hb : Below w.heap.size w w') => min_any (ok := ok) (c := c) h1 h2 (HC.out.grow hb) hs
  rw [hMM] at HM MIN ⊢
  replace MIN := Lib.hid MIN
  have hn0 : ¬ n = 0 := by
    have h1 : (a ++ b).length = l.length + 1 := by rw [hab]; rfl
    simp at h1 hlen
    omega
  have hleq : Hid (n + 1 = (a ++ none :: b).length) := hlen.symm
  clear hM hc hMM
  replace hab := Lib.hid hab
  have hle := Lib.hid hlen
  clear hlen
  go_enter Try.func31, Try.ntmps31
  go_wp2_with fail
  refine (cloneW_any (hl.alloc _) hnc hcm hn8).mono ?_
  rintro e1 w1 ⟨A1, c1, rfl, hl1, hc1, hm1, hb1, hbx⟩
  obtain ⟨g, rfl, hg, hx1⟩ := hbx (by rw [hle.out]; omega)
  rw [hle.out] at hl1 hc1 ⊢
  have x2 : Bx w1 w.heap.size [.int .i64 0, .slice none 0 0] := Bx.grow (by repeat (first | with_reducible assumption | (with_reducible exact Bx.new (by simp; done) (by rfl)) | (with_reducible refine Bx.alloc ?_ _) | (with_reducible refine Bx.drewN ?_ _) | ((with_reducible apply Bx.put); rotate_right; (first | rfl | skip)) | (with_reducible refine Bx.other ?_ (by first | (simp; done) | (simp; omega)) _))) hb1
  have hbw : Below w.heap.size w w1 := G.trans (by repeat (first | with_reducible assumption | with_reducible exact G.refl _ | with_reducible refine G.drew ?_ | with_reducible refine G.drewN ?_ _ | with_reducible refine G.alloc ?_ _ | with_reducible refine Below.setCell ?_ (by first | (simp; done) | (simp; omega)) _ | with_reducible refine G.trans ?_ hb12 | with_reducible refine G.trans ?_ hb11 | with_reducible refine G.trans ?_ hb10 | with_reducible refine G.trans ?_ hb9 | with_reducible refine G.trans ?_ hb8 | with_reducible refine G.trans ?_ hb7 | with_reducible refine G.trans ?_ hb6 | with_reducible refine G.trans ?_ hb5 | with_reducible refine G.trans ?_ hb4 | with_reducible refine G.trans ?_ hb3 | with_reducible refine G.trans ?_ hb2 | with_reducible refine G.trans ?_ hb1 | with_reducible refine G.trans ?_ hb | assumption)) hb1
  have hgne : Hid (w.heap.size < g) := by unfold Hid; simp at hg; omega
  go_wp2_with fail
  refine (del1_any hx1 hleq.out hc1 hm1 ha hb).mono ?_
  rintro e2 w2 ⟨rfl, hsl2, hb2, hk2⟩
  have hbw2 : Below w.heap.size w w2 := hbw.trans ⟨hb2.os, hb2.tape, hb2.output, hb2.size, fun k hk => hk2.2 k (by have := hgne.out; omega) (by have := hbw.size; omega)⟩
  replace x2 : Bx w2 w.heap.size [.int .i64 0, .slice none 0 0] := x2.keep hk2 (by have := hgne.out; omega)
  rw [hab.out] at hsl2
  have hn9 : n ≤ maxLen := by omega
  clear hl1 hx1 hk2 hb2 hb1 hbx hg
  go_wp2_with fail
  refine (MIN.out w2 (some ⟨g, 0, none⟩) n c1 hsl2 hn9 hbw2).mono ?_
  rintro e3 w3 ⟨rfl, hb3⟩
  have hbw3 := G.trans hbw2 hb3
  replace x2 := x2.grow hb3
  go_wp2_with fail
  refine (least_any (HM.out.grow hbw3)).mono ?_
  rintro e4 w4 ⟨A4, c4, rfl, hp4, hb4⟩
  have hbw4 := G.trans hbw3 hb4
  have hs3 := x2.lt
  replace x2 := x2.grow hb4
  obtain ⟨m0', g0⟩ := x2.2 0 _ rfl
  obtain ⟨m1, g1⟩ := x2.2 1 _ rfl
  go_wp2_with fail
  exact bodyPost_ret (v := .tuple #[.agg #[.int .i64 (leE M.2.2), .slice A4 (leP M.2.2).length c4], .int .i64 0]) (by simp only [results, Try.results31]; go_simp) rfl ⟨A4, c4, rfl, hp4.back (((Keeps.refl _ _).setCell (by simp; omega) _).setCell (by simp; omega) _) (by omega), (hbw4.setCell (by simp) _).setCell (by simp) _⟩
/-- Nothing there. -/
def RetF0 (w : World) (e : Ending) (w' : World) : Prop := e = .returned (.tuple #[.agg #[.int .i64 0, .slice none 0 0], .int .i64 4]) ∧ Below w.heap.size w w'
set_option maxRecDepth 20000 in set_option maxHeartbeats 1000000 in
theorem frontier00_any {w : World} {P : Option Addr} {c : Nat} (hcm : c ≤ maxLen) : Calls Try.prog 31 #[.slice P 0 c] w (RetF0 w) := by
  go_enter Try.func31, Try.ntmps31
  go_wp2_with fail
  refine (cloneC_any (l := []) (Sl.nil _ _) (Nat.zero_le _) hcm (by decide)).mono ?_
  rintro e1 w1 ⟨A1, c1, rfl, hl1, hc1, hm1, hb1⟩
  have x2 : Bx w1 w.heap.size [.int .i64 0, .slice none 0 0] := Bx.grow (by repeat (first | with_reducible assumption | (with_reducible exact Bx.new (by simp; done) (by rfl)) | (with_reducible refine Bx.alloc ?_ _) | (with_reducible refine Bx.drewN ?_ _) | ((with_reducible apply Bx.put); rotate_right; (first | rfl | skip)) | (with_reducible refine Bx.other ?_ (by first | (simp; done) | (simp; omega)) _))) hb1
  have hbw : Below w.heap.size w w1 := G.trans (by repeat (first | with_reducible assumption | with_reducible exact G.refl _ | with_reducible refine G.drew ?_ | with_reducible refine G.drewN ?_ _ | with_reducible refine G.alloc ?_ _ | with_reducible refine Below.setCell ?_ (by first | (simp; done) | (simp; omega)) _ | with_reducible refine G.trans ?_ hb12 | with_reducible refine G.trans ?_ hb11 | with_reducible refine G.trans ?_ hb10 | with_reducible refine G.trans ?_ hb9 | with_reducible refine G.trans ?_ hb8 | with_reducible refine G.trans ?_ hb7 | with_reducible refine G.trans ?_ hb6 | with_reducible refine G.trans ?_ hb5 | with_reducible refine G.trans ?_ hb4 | with_reducible refine G.trans ?_ hb3 | with_reducible refine G.trans ?_ hb2 | with_reducible refine G.trans ?_ hb1 | with_reducible refine G.trans ?_ hb | assumption)) hb1
  go_wp2_with fail
  refine (del_any (l := []) hl1 (Nat.zero_le _) (fun x h => (List.not_mem_nil h).elim)).mono ?_
  rintro e2 w2 ⟨rfl, hw2⟩
  subst hw2
  obtain ⟨m0', g0⟩ := x2.2 0 _ rfl
  obtain ⟨m1, g1⟩ := x2.2 1 _ rfl
  have ltx := x2.lt
  go_wp2_with fail
  exact bodyPost_ret (v := .tuple #[.agg #[.int .i64 0, .slice none 0 0], .int .i64 4]) (by simp only [results, Try.results31]; go_simp) rfl ⟨rfl, (hbw.setCell (by simp) _).setCell (by simp) _⟩
set_option maxRecDepth 20000 in set_option maxHeartbeats 1000000 in
theorem frontier01_any {w : World} {P : Option Addr} {c : Nat} (hl : Sl w P 1 (chs [none])) (hnc : 1 ≤ c) (hcm : c ≤ maxLen) : Calls Try.prog 31 #[.slice P 1 c] w (RetF0 w) := by
  go_enter Try.func31, Try.ntmps31
  go_wp2_with fail
  refine (cloneW_any (hl.alloc _) hnc hcm (by decide)).mono ?_
  rintro e1 w1 ⟨A1, c1, rfl, hl1, hc1, hm1, hb1, hbx⟩
  obtain ⟨g, rfl, hg, hx1⟩ := hbx (by decide)
  have x2 : Bx w1 w.heap.size [.int .i64 0, .slice none 0 0] := Bx.grow (by repeat (first | with_reducible assumption | (with_reducible exact Bx.new (by simp; done) (by rfl)) | (with_reducible refine Bx.alloc ?_ _) | (with_reducible refine Bx.drewN ?_ _) | ((with_reducible apply Bx.put); rotate_right; (first | rfl | skip)) | (with_reducible refine Bx.other ?_ (by first | (simp; done) | (simp; omega)) _))) hb1
  have hbw : Below w.heap.size w w1 := G.trans (by repeat (first | with_reducible assumption | with_reducible exact G.refl _ | with_reducible refine G.drew ?_ | with_reducible refine G.drewN ?_ _ | with_reducible refine G.alloc ?_ _ | with_reducible refine Below.setCell ?_ (by first | (simp; done) | (simp; omega)) _ | with_reducible refine G.trans ?_ hb12 | with_reducible refine G.trans ?_ hb11 | with_reducible refine G.trans ?_ hb10 | with_reducible refine G.trans ?_ hb9 | with_reducible refine G.trans ?_ hb8 | with_reducible refine G.trans ?_ hb7 | with_reducible refine G.trans ?_ hb6 | with_reducible refine G.trans ?_ hb5 | with_reducible refine G.trans ?_ hb4 | with_reducible refine G.trans ?_ hb3 | with_reducible refine G.trans ?_ hb2 | with_reducible refine G.trans ?_ hb1 | with_reducible refine G.trans ?_ hb | assumption)) hb1
  have hgne : Hid (w.heap.size < g) := by unfold Hid; simp at hg; omega
  go_wp2_with fail
  refine (del1_any (n := 0) (a := []) (b := []) hx1 rfl hc1 hm1 (fun x h => (List.not_mem_nil h).elim) (fun x h => (List.not_mem_nil h).elim)).mono ?_
  rintro e2 w2 ⟨rfl, hsl2, hb2, hk2⟩
  have hbw2 : Below w.heap.size w w2 := hbw.trans ⟨hb2.os, hb2.tape, hb2.output, hb2.size, fun k hk => hk2.2 k (by have := hgne.out; omega) (by have := hbw.size; omega)⟩
  replace x2 : Bx w2 w.heap.size [.int .i64 0, .slice none 0 0] := x2.keep hk2 (by have := hgne.out; omega)
  obtain ⟨m0', g0⟩ := x2.2 0 _ rfl
  obtain ⟨m1, g1⟩ := x2.2 1 _ rfl
  have ltx := x2.lt
  clear hl1 hx1 hk2 hb2 hb1 hbx hg hbw hsl2
  go_wp2_with fail
  exact bodyPost_ret (v := .tuple #[.agg #[.int .i64 0, .slice none 0 0], .int .i64 4]) (by simp only [results, Try.results31]; go_simp) rfl ⟨rfl, (hbw2.setCell (by simp) _).setCell (by simp) _⟩
end Go.Proofs.Ytjldpodehffbnaa
