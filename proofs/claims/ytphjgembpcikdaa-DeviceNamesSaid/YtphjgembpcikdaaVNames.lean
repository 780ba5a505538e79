/- The law DeviceNames returns true: the walk. -/
import Derived.Test.YtphjgembpcikdaaVNm0
import Derived.Test.YtphjgembpcikdaaVFr2
namespace Go.Proofs.Ytphjgembpcikdaa
set_option linter.unusedVariables false
set_option linter.unnecessarySimpa false
set_option linter.unusedSimpArgs false
open Go.RowKit

section
variable {w : World}
set_option maxRecDepth 20000 in set_option maxHeartbeats 2000000 in
theorem deviceNames_any (s1 s2 : ByteArray) (hs1 : s1.size ≤ maxLen) (hs2 : s2.size ≤ maxLen) {x y : ByteArray} (hd : x.size ≤ maxLen ∧ y.size ≤ maxLen) :
    Calls Try.prog 4 #[.string s1, .string s2, .agg #[.string x, .string y]] w fun e w' => e = .returned (.bool true) ∧ Below w.heap.size w w' := by
  obtain ⟨hx, hy⟩ := hd
  unfold maxLen at hs1 hs2 hx hy
  obtain ⟨z1, hz1⟩ : ∃ z : Nat, min s1.size 70 = z := ⟨_, rfl⟩
  obtain ⟨z2, hz2⟩ : ∃ z : Nat, min s2.size 70 = z := ⟨_, rfl⟩
  obtain ⟨z3, hz3⟩ : ∃ z : Nat, min x.size 50 = z := ⟨_, rfl⟩
  obtain ⟨z4, hz4⟩ : ∃ z : Nat, min y.size 50 = z := ⟨_, rfl⟩
  have hi1 : min (s1.size : Int) 70 = (z1 : Int) := by omega
  have hi2 : min (s2.size : Int) 70 = (z2 : Int) := by omega
  have hi3 : min (x.size : Int) 50 = (z3 : Int) := by omega
  have hi4 : min (y.size : Int) 50 = (z4 : Int) := by omega
  obtain ⟨F, hF⟩ : ∃ t, s1.extract 0 z1 = t := ⟨_, rfl⟩
  obtain ⟨T, hT⟩ : ∃ t, s2.extract 0 z2 = t := ⟨_, rfl⟩
  obtain ⟨a, ha⟩ : ∃ t, x.extract 0 z3 = t := ⟨_, rfl⟩
  obtain ⟨b, hb⟩ : ∃ t, y.extract 0 z4 = t := ⟨_, rfl⟩
  have lF : F.size ≤ 70 := by rw [← hF, ByteArray.size_extract]; omega
  have lT : T.size ≤ 70 := by rw [← hT, ByteArray.size_extract]; omega
  have la : a.size ≤ 50 := by rw [← ha, ByteArray.size_extract]; omega
  have lb : b.size ≤ 50 := by rw [← hb, ByteArray.size_extract]; omega
  have LA := Lib.hid (show a.data.toList.length ≤ 50 from la)
  have LB := Lib.hid (show b.data.toList.length ≤ 50 from lb)
  have k1 : z1 ≤ s1.size := by omega
  have k2 : z2 ≤ s2.size := by omega
  have k3 : z3 ≤ x.size := by omega
  have k4 : z4 ≤ y.size := by omega
  have j1 : (z1 : Int) ≤ (s1.size : Int) := by omega
  have j2 : (z2 : Int) ≤ (s2.size : Int) := by omega
  have j3 : (z3 : Int) ≤ (x.size : Int) := by omega
  have j4 : (z4 : Int) ≤ (y.size : Int) := by omega
  clear hz1 hz2 hz3 hz4
  go_enter Try.func4, Try.ntmps4
  go_wp2_with fail
  refine wp_name (fun wx => Below w.heap.size w wx ∧ Bx wx w.heap.size [.string x, .string y]) ⟨by repeat (first | with_reducible assumption | with_reducible exact G.refl _ | with_reducible refine G.drew ?_ | with_reducible refine G.drewN ?_ _ | with_reducible refine G.alloc ?_ _ | with_reducible refine Below.setCell ?_ (by first | (simp; done) | (simp; omega)) _ | with_reducible refine G.trans ?_ hb12 | with_reducible refine G.trans ?_ hb11 | with_reducible refine G.trans ?_ hb10 | with_reducible refine G.trans ?_ hb9 | with_reducible refine G.trans ?_ hb8 | with_reducible refine G.trans ?_ hb7 | with_reducible refine G.trans ?_ hb6 | with_reducible refine G.trans ?_ hb5 | with_reducible refine G.trans ?_ hb4 | with_reducible refine G.trans ?_ hb3 | with_reducible refine G.trans ?_ hb2 | with_reducible refine G.trans ?_ hb1 | with_reducible refine G.trans ?_ hb | assumption), by repeat (first | with_reducible assumption | (with_reducible exact Bx.new (by simp; done) (by rfl)) | (with_reducible refine Bx.alloc ?_ _) | (with_reducible refine Bx.drewN ?_ _) | ((with_reducible apply Bx.put); rotate_right; (first | rfl | skip)) | (with_reducible refine Bx.other ?_ (by first | (simp; done) | (simp; omega)) _))⟩ ?_
  rintro w1 ⟨hb1, x1⟩
  refine wp_region_ord [(0, 1), (1, 1), (2, 1), (3, 1), (4, 1), (5, 1), (6, 1), (7, 1), (8, 1), (9, 1), (10, 1), (11, 1)] [] 5 (by kernel_rfl) (by decide +kernel) ?_
  simp only [pickO, List.append_eq, List.cons_append, List.nil_append, List.getElem?_cons_succ, List.getElem?_cons_zero]
  intro w0 hG
  (repeat ((first | (with_reducible refine ord_q1 ?_) | (with_reducible refine ord_q0 ?_)); intro K hK; first | (refine Or.inr ⟨?_, ?_⟩; (focus (go_simp; first | done | (simp [undef]; done))); go_simp; (with_reducible refine hK _ ?_); clear hK K) | (refine Or.inl ⟨?_, ?_⟩; (focus (go_simp; done)); apply Exists.intro; refine And.intro ?_ ?_; (focus (first | (intro wq hq; obtain ⟨hcq, hfq⟩ := G.old hq; go_simp; (first | done | exact rfl); done) | (intro wq; go_simp; (first | done | exact rfl); done))); go_simp; (with_reducible refine hK _ ?_); clear hK K) | fail))
  (with_reducible refine ord_nil ?_)
  replace hF := Lib.hid hF
  replace hT := Lib.hid hT
  clear hi1 hi2 k1 k2 j1 j2
  have hb2 := G.trans hb1 hG.b
  have x2 := x1.grow hG.b
  have c0 := (x2.2 0 _ rfl).1
  have c1 := (x2.2 1 _ rfl).1
  have lt1 := x2.lt
  clear hG x1 hb1
  go_wp2_with fail
  refine wp_region_ord [(0, 1), (1, 1), (2, 1), (3, 1), (4, 1), (5, 1), (6, 1), (7, 1), (8, 1), (9, 1), (10, 1), (11, 1), (12, 1), (13, 1), (14, 1), (15, 1)] [] 5 (by kernel_rfl) (by decide +kernel) ?_
  simp only [pickO, List.append_eq, List.cons_append, List.nil_append, List.getElem?_cons_succ, List.getElem?_cons_zero]
  intro w0 hG
  (repeat ((first | (with_reducible refine ord_q1 ?_) | (with_reducible refine ord_q0 ?_)); intro K hK; first | (refine Or.inr ⟨?_, ?_⟩; (focus (go_simp; first | done | (simp [undef]; done))); go_simp; (with_reducible refine hK _ ?_); clear hK K) | (refine Or.inl ⟨?_, ?_⟩; (focus (go_simp; done)); apply Exists.intro; refine And.intro ?_ ?_; (focus (first | (intro wq hq; obtain ⟨hcq, hfq⟩ := G.old hq; go_simp; (first | done | exact rfl); done) | (intro wq; go_simp; (first | done | exact rfl); done))); go_simp; (with_reducible refine hK _ ?_); clear hK K) | fail))
  (with_reducible refine ord_nil ?_)
  replace ha := Lib.hid ha
  replace hb := Lib.hid hb
  replace hb2 := Lib.hid (G.trans hb2 hG.b)
  clear hG c0 c1 lt1 x2 hi3 hi4 k3 k4 j3 j4 hs1 hs2 hx hy
  go_wp2_with fail
  refine (new_any 100 (by decide) (by decide)).mono ?_
  intro e w1 hr
  obtain ⟨d, rfl, F0⟩ := FD.new (w0 := w) hb2.out hr
  replace F0 := Lib.hid F0
  clear hr
  go_wp2_with fail
  refine (known_any _).mono ?_
  rintro e w2 ⟨rfl, hb2⟩
  replace F0 := Lib.hid (F0.out.grow hb2)
  clear hb2
  go_wp2_with fail
  have mF : F.size ≤ maxLen := by unfold maxLen; omega
  have mT : T.size ≤ maxLen := by unfold maxLen; omega
  replace mF := Lib.hid mF
  replace mT := Lib.hid mT
  refine (lawnamed_any F mF.out _).mono ?_
  rintro e w3 ⟨rfl, hw⟩
  subst hw
  have okF : okName [97] = true := by decide
  rcases hok : okName F.data.toList with _ | _
  · replace hok := Lib.hid hok
    go_wp2_with fail
    refine (FD.runE (r := (12, newD 100)) F0.out fun S h => nc1x hok.out ▸ create_any h F mF.out).mono ?_
    rintro e w4 ⟨rfl, F1⟩
    replace F1 := Lib.hid F1
    clear F0
    go_wp2_with fail
    refine (FD.runE (r := (8, newD 100)) F1.out fun S h => nr0 _ ▸ rename_any h ng0.ok (bs [97]) T (by decide) mT.out).mono ?_
    rintro e w5 ⟨rfl, F2⟩
    replace F2 := Lib.hid F2
    clear F1
    go_wp2_with fail
    refine (lawnamed_any F mF.out _).mono ?_
    rintro e w6 ⟨he, hw⟩
    subst hw
    rw [hok.out] at he
    subst he
    go_wp2_with fail
    go_ret
    exact ⟨rfl, F2.out.below⟩
  · replace hok := Lib.hid hok
    go_wp2_with fail
    refine (lawnamed_any T mT.out _).mono ?_
    rintro e w4 ⟨rfl, hw⟩
    subst hw
    rcases hokT : okName T.data.toList with _ | _
    · replace hokT := Lib.hid hokT
      go_wp2_with fail
      refine (FD.runE (r := (0, n1 F.data.toList)) F0.out fun S h => nc1 hok.out ▸ create_any h F mF.out).mono ?_
      rintro e w5 ⟨rfl, F1⟩
      replace F1 := Lib.hid F1
      clear F0
      go_wp2_with fail
      by_cases hFa : F.data.toList = [97]
      · have hFe : F = ⟨#[97]⟩ := Go.WideShapes.bytes_inj hFa
        subst hFe
        refine (FD.runE (r := (12, n1 [97])) F1.out fun S h => nr2 hokT.out ▸ rename_any h (ng1 (by decide)).ok (bs [97]) T (by decide) mT.out).mono ?_
        rintro e w6 ⟨rfl, F2⟩
        replace F2 := Lib.hid F2
        clear F1
        go_wp2_with fail
        refine (lawnamed_any _ mF.out _).mono ?_
        rintro e w7 ⟨he, hw⟩
        subst hw
        rw [hok.out] at he
        subst he
        go_wp2_with fail
        refine (lawnamed_any _ mF.out _).mono ?_
        rintro e w8 ⟨he, hw⟩
        subst hw
        rw [hok.out] at he
        subst he
        go_wp2_with fail
        go_ret
        exact ⟨rfl, F2.out.below⟩
      · refine (FD.runE (r := (8, n1 F.data.toList)) F1.out fun S h => nr1 hFa ▸ rename_any h (ng1 hok.out).ok (bs [97]) T (by decide) mT.out).mono ?_
        rintro e w6 ⟨rfl, F2⟩
        replace F2 := Lib.hid F2
        clear F1
        go_wp2_with fail
        refine (lawnamed_any F mF.out _).mono ?_
        rintro e w7 ⟨he, hw⟩
        subst hw
        rw [hok.out] at he
        subst he
        go_wp2_with fail
        go_ret
        exact ⟨rfl, F2.out.below⟩
    · replace hokT := Lib.hid hokT
      have mA : Hid (a.size ≤ 1099511627776) := by unfold Hid; omega
      have mB : Hid (b.size ≤ 1099511627776) := by unfold Hid; omega
      go_wp2_with fail
      refine (FD.runE (r := (0, n1 F.data.toList)) F0.out fun S h => nc1 hok.out ▸ create_any h F mF.out).mono ?_
      rintro e w5 ⟨rfl, F1⟩
      replace F1 := Lib.hid F1
      clear F0
      go_wp2_with fail
      refine (FD.runE (r := (0, n2 F.data.toList a.data.toList)) F1.out fun S h => nc2 LA.out ▸ append_any h (ng1 hok.out).ok F a mF.out mA.out).mono ?_
      rintro e w6 ⟨rfl, F2⟩
      replace F2 := Lib.hid F2
      clear F1
      by_cases hFT : F.data.toList = T.data.toList
      · have hFe : F = T := Go.WideShapes.bytes_inj hFT
        subst hFe
        go_wp2_with fail
        refine (FD.runE (r := (0, n5 F.data.toList a.data.toList (-3))) F2.out fun S h => nc5s hok.out ▸ rename_any h (ng2 hok.out LA.out).ok F F mF.out mF.out).mono ?_
        rintro e w7 ⟨rfl, F5⟩
        replace F5 := Lib.hid F5
        have hG5 := Lib.hid (ng5 (T := F.data.toList) LA.out (-3)).ok
        have hw1 : IntKind.i64.wrap ((100 : Int) - (a.size : Int)) = (100 : Int) - (a.size : Int) := by rw [IntWalk.i64_in _ (by omega)]
        go_wp2_with fail
        obtain ⟨S, D, hS⟩ := F5.out.dev
        refine (free_any D hG5.out).mono ?_
        rintro e w8 ⟨he, hb8⟩
        rw [nf5] at he
        replace he : e = .returned (.int .i64 (100 - (a.size : Int))) := he
        subst he
        replace F5 := Lib.hid (F5.out.grow hb8)
        clear hb8 D hS
        go_wp2_with fail
        obtain ⟨S, D, hS⟩ := F5.out.dev
        have hrd := read_any D hG5.out F mT.out 0 a.size (by decide)
        rw [show readD (n5 F.data.toList a.data.toList (-3)) F.data.toList 0 a.size = (a.data.toList, 0) from nr5 _] at hrd
        refine hrd.mono ?_
        clear hrd D hS
        rintro e w9 ⟨he, hb9⟩
        replace he : e = .returned (.tuple #[.string (BA a.data.toList), .int .i64 0]) := he
        rw [BA_id] at he
        subst he
        replace F5 := Lib.hid (F5.out.grow hb9)
        clear hb9
        go_wp2_with fail
        obtain ⟨S, D, hS⟩ := F5.out.dev
        have hsz := size_any D F mF.out
        rw [show sizeD (n5 F.data.toList a.data.toList (-3)) F.data.toList = (((a.size : Int)), (0)) from ns5 _] at hsz
        refine hsz.mono ?_
        clear hsz D hS
        rintro e wA ⟨he, hw⟩
        subst hw
        replace he : e = .returned (.tuple #[.int .i64 (a.size : Int), .int .i64 0]) := he
        subst he
        go_wp2_with fail
        refine (FD.runE (r := (0, n6 (-4))) F5.out fun S h => nc6 (-3) ▸ remove_any h F mT.out).mono ?_
        rintro e wB ⟨rfl, F6⟩
        replace F6 := Lib.hid F6
        clear F5
        go_wp2_with fail
        refine (FD.runE (r := (8, n6 (-4))) F6.out fun S h => nc7 (T := F.data.toList) (-4) ▸ remove_any h F mT.out).mono ?_
        rintro e wC ⟨rfl, F7⟩
        replace F7 := Lib.hid F7
        clear F6
        go_wp2_with fail
        obtain ⟨S, D, hS⟩ := F7.out.dev
        refine (free_any D (ng6 _).ok).mono ?_
        rintro e wD ⟨he, hbD⟩
        rw [nf6] at he
        subst he
        replace F7 := Lib.hid (F7.out.grow hbD)
        clear hbD D hS
        go_wp2_with fail
        go_ret
        exact ⟨rfl, F7.out.below⟩
      · have hne : (F.toList == T.toList) = false := by rw [ByteArray.toList_eq, ByteArray.toList_eq]; simpa using hFT
        replace hFT := Lib.hid hFT
        go_wp2_with fail
        refine (FD.runE (r := (0, n3 F.data.toList T.data.toList a.data.toList)) F2.out fun S h => nc3 hokT.out hFT.out ▸ create_any h T mT.out).mono ?_
        rintro e w7 ⟨rfl, F3⟩
        replace F3 := Lib.hid F3
        clear F2
        go_wp2_with fail
        refine (FD.runE (r := (0, n4 F.data.toList T.data.toList a.data.toList b.data.toList)) F3.out fun S h => nc4 LA.out LB.out hFT.out ▸ append_any h (ng3 hok.out LA.out hokT.out hFT.out).ok T b mT.out mB.out).mono ?_
        rintro e w7 ⟨rfl, F4⟩
        replace F4 := Lib.hid F4
        clear F3
        go_wp2_with fail
        refine (FD.runE (r := (0, n5 T.data.toList a.data.toList (-5))) F4.out fun S h => nc5 hokT.out hFT.out ▸ rename_any h (ng4 hok.out LA.out hokT.out hFT.out LB.out).ok F T mF.out mT.out).mono ?_
        rintro e w7 ⟨rfl, F5⟩
        clear F4
        replace F5 := Lib.hid F5
        have hG5 := Lib.hid (ng5 (T := T.data.toList) LA.out (-5)).ok
        have hw1 : IntKind.i64.wrap ((100 : Int) - (a.size : Int)) = (100 : Int) - (a.size : Int) := by rw [IntWalk.i64_in _ (by omega)]
        go_wp2_with fail
        obtain ⟨S, D, hS⟩ := F5.out.dev
        refine (free_any D hG5.out).mono ?_
        rintro e w8 ⟨he, hb8⟩
        rw [nf5] at he
        replace he : e = .returned (.int .i64 (100 - (a.size : Int))) := he
        subst he
        replace F5 := Lib.hid (F5.out.grow hb8)
        clear hb8 D hS
        go_wp2_with fail
        obtain ⟨S, D, hS⟩ := F5.out.dev
        have hrd := read_any D hG5.out T mT.out 0 a.size (by decide)
        rw [show readD (n5 T.data.toList a.data.toList (-5)) T.data.toList 0 a.size = (a.data.toList, 0) from nr5 _] at hrd
        refine hrd.mono ?_
        clear hrd D hS
        rintro e w9 ⟨he, hb9⟩
        replace he : e = .returned (.tuple #[.string (BA a.data.toList), .int .i64 0]) := he
        rw [BA_id] at he
        subst he
        replace F5 := Lib.hid (F5.out.grow hb9)
        clear hb9
        go_wp2_with fail
        obtain ⟨S, D, hS⟩ := F5.out.dev
        have hsz := size_any D F mF.out
        rw [show sizeD (n5 T.data.toList a.data.toList (-5)) F.data.toList = ((0), (8)) from ns5' _ hFT.out] at hsz
        refine hsz.mono ?_
        clear hsz D hS
        rintro e wA ⟨he, hw⟩
        subst hw
        replace he : e = .returned (.tuple #[.int .i64 0, .int .i64 8]) := he
        subst he
        go_wp2_with fail
        refine (FD.runE (r := (0, n6 (-6))) F5.out fun S h => nc6 (-5) ▸ remove_any h T mT.out).mono ?_
        rintro e wB ⟨rfl, F6⟩
        replace F6 := Lib.hid F6
        clear F5
        go_wp2_with fail
        refine (FD.runE (r := (8, n6 (-6))) F6.out fun S h => nc7 (T := T.data.toList) (-6) ▸ remove_any h T mT.out).mono ?_
        rintro e wC ⟨rfl, F7⟩
        replace F7 := Lib.hid F7
        clear F6
        go_wp2_with fail
        obtain ⟨S, D, hS⟩ := F7.out.dev
        refine (free_any D (ng6 _).ok).mono ?_
        rintro e wD ⟨he, hbD⟩
        rw [nf6] at he
        subst he
        replace F7 := Lib.hid (F7.out.grow hbD)
        clear hbD D hS
        go_wp2_with fail
        go_ret
        exact ⟨rfl, F7.out.below⟩
end
end Go.Proofs.Ytphjgembpcikdaa
