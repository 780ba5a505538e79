/- device laws: the model's start. -/
import Derived.Test.YtphjgembpcikdaaRn7
namespace Go.Proofs.Ytphjgembpcikdaa
set_option linter.unusedVariables false
set_option linter.unnecessarySimpa false
set_option linter.unusedSimpArgs false
open Go.RowKit

/-- The model while it starts: the files before i are done. -/
structure MI (w wr : World) (M : Nat) (m : Md) (A : Option Addr) (c i : Nat) (ch ci : List UInt8) (fi : List Fl) : Prop where
  md : MdR wr M ⟨m.room, -1, false, fi⟩ A c
  todo : fi.drop i = m.fs.drop i
  len : fi.length = m.fs.length
  done : startL m.fs ch = fi.take i ++ startL (m.fs.drop i) ci
  chg : DChg (hasM M A) w wr
def startM (m : Md) (ch : List UInt8) : Md := if m.down = true then ⟨m.room, -1, false, startL m.fs ch⟩ else m
section
variable {w w' w1 wc wr : World} {M : Nat} {m m' : Md} {T : Nat → Prop} {A : Option Addr} {c i : Nat} {f y z : Fl} {ch ci cj : List UInt8} {fi : List Fl}
theorem MI.at_ (h : MI w wr M m A c i ch ci fi) (hi : i < m.fs.length) : ∃ y, fi[i]? = some y ∧ m.fs[i]? = some y ∧ m.fs.drop i = y :: m.fs.drop (i + 1) := by
  have e1 : (fi.drop i)[0]? = (m.fs.drop i)[0]? := by rw [h.todo]
  rw [List.getElem?_drop, List.getElem?_drop, Nat.add_zero] at e1
  have hy := List.getElem?_eq_getElem hi
  exact ⟨m.fs[i], e1.trans hy, hy, List.drop_eq_getElem_cons hi⟩
theorem MI.fin (h : MI w wr M m A c i ch ci fi) (hy : fi[i]? = some y) (hd : m.fs.drop i = y :: m.fs.drop (i + 1)) (hR : MdR w' M ⟨m.room, -1, false, fi.set i z⟩ A c) (hc : DChg (hasM M A) wr w')
    (hst : startL (y :: m.fs.drop (i + 1)) ci = z :: startL (m.fs.drop (i + 1)) cj) : MI w w' M m A c (i + 1) ch cj (fi.set i z) := by
  have hil := (List.getElem?_eq_some_iff.1 hy).1
  refine ⟨hR, ?_, by rw [List.length_set]; exact h.len, ?_, h.chg.trans hc fun x hx => .inl hx⟩
  · rw [List.drop_set_of_lt (by omega)]
    have := congrArg (List.drop 1) h.todo
    rwa [List.drop_drop, List.drop_drop] at this
  · rw [h.done, hd, hst, List.take_set, List.take_add_one, hy]
    rw [List.set_append_right _ _ (by rw [List.length_take]; omega)]
    have : i - (fi.take i).length = 0 := by rw [List.length_take]; omega
    rw [this]
    simp
theorem flip_app {l : List UInt8} {j : Nat} {v : UInt8} (hl : l.length = j + 1) (hv : l[j]? = some v) : l.take j ++ [255 - v] = flipB l := by
  unfold flipB
  have e1 : l.length - 1 = j := by omega
  have e2 : l.getD j 0 = v := by rw [List.getD_eq_getElem?_getD, hv]; rfl
  rw [e1, e2, List.set_eq_take_append_cons_drop, if_pos (by omega), List.drop_of_length_le (by omega)]
theorem BA_get {l : List UInt8} {j : Nat} {v : UInt8} (h : l[j]? = some v) (hj : j < (BA l).size) : (BA l)[j] = v := by
  obtain ⟨h1, h2⟩ := List.getElem?_eq_some_iff.1 h
  rw [← h2]
  rfl
set_option maxRecDepth 20000 in set_option maxHeartbeats 8000000 in
theorem mstart_any (h : MdW w M T m) (hm : m.Fine) (hsm : ∀ f ∈ m.fs, f.data.length ≤ 1000000 ∧ f.dur ≤ f.data.length) {B : Option Addr} {bn bc : Nat} {ch : List UInt8} (hx : Sl w B bn (u8s ch)) (hnc : bn ≤ bc) (hcm : bc ≤ maxLen) (hB : ∀ ad, B = some ad → ¬ T ad.block) :
    Calls Try.prog 55 #[.pointer (some ⟨M, 0, none⟩), .slice B bn bc] w fun e w' => e = .returned (.tuple #[]) ∧ RetM M T (startM m ch) w w' := by
  have H := Lib.hid h
  have hml := hm.len
  unfold maxLen at hcm
  obtain ⟨R, hr⟩ : ∃ R, startM m ch = R := ⟨_, rfl⟩
  rw [hr]
  unfold startM at hr
  obtain ⟨A, c, hR, hT⟩ := h
  obtain ⟨k2, f2⟩ := hR.box.2 2 _ rfl
  obtain ⟨k1, f1⟩ := hR.box.2 1 _ rfl
  have ltM := hR.box.lt
  rcases hd : m.down with _ | _
  · rw [hd, if_neg (by simp)] at hr
    rw [hd] at k2
    subst hr
    clear hR
    replace hd := Lib.hid hd
    go_enter Try.func55, Try.ntmps55
    go_wp2_with fail
    exact bodyPost_ret (v := .tuple #[]) (by simp only [results, Try.results55]; go_simp) rfl ⟨rfl, RetM.refl H.out⟩
  · rw [hd, if_pos rfl] at hr
    rw [hd] at k2
    replace hr := Lib.hid hr
    replace hd := Lib.hid hd
    have HS := Lib.hid (show (∀ f ∈ m.fs, f.data.length ≤ 1000000 ∧ f.dur ≤ f.data.length) from hsm)
    have hMM : hasM M A M := .inl rfl
    have hR0 : MdR ((w.setCell ⟨M, 2, none⟩ (.bool false)).setCell ⟨M, 1, none⟩ (.int .i64 (-1))) M ⟨m.room, -1, false, m.fs⟩ A c := (hR.cell (m' := ⟨m.room, m.limit, false, m.fs⟩) (fun A k => rfl) rfl).cell (fun A k => rfl) rfl
    have hch0 : DChg (hasM M A) w ((w.setCell ⟨M, 2, none⟩ (.bool false)).setCell ⟨M, 1, none⟩ (.int .i64 (-1))) := ((DChg.refl _ _).setCell hMM _ _).setCell hMM _ _
    have hMI0 := Lib.hid (show MI w ((w.setCell ⟨M, 2, none⟩ (.bool false)).setCell ⟨M, 1, none⟩ (.int .i64 (-1))) M m A c 0 ch ch m.fs from ⟨hR0, rfl, rfl, rfl, hch0⟩)
    have hB0 : ∀ ad, B = some ad → ¬ hasM M A ad.block := fun ad e hh => hB ad e ((hT _).2 hh)
    have hx0 := Lib.hid (And.intro (hx.keep (ok := fun z => ¬ hasM M A z) hB0 hch0.2) (And.intro hnc (And.intro (show bc ≤ maxLen from hcm) hB0)))
    have HT := Lib.hid hT
    obtain ⟨n, hn⟩ : ∃ n, m.fs.length = n := ⟨_, rfl⟩
    rw [hn] at hml
    have hn0 := Lib.hid hn
    clear hR hR0 hch0 hsm hx hT hB hB0 hn
    go_enter Try.func55, Try.ntmps55
    go_wp2_with fail
    go_loopw [1, 4] (fun cv iv wr => ∃ (i : Nat) (ci : List UInt8) (Ac : Option Addr) (nc cc : Nat) (fi : List Fl), i ≤ n ∧ iv = .int .i64 i ∧ cv = .slice Ac nc cc ∧ Hid (MI w wr M m A c i ch ci fi) ∧ Hid (Sl wr Ac nc (u8s ci) ∧ nc ≤ cc ∧ cc ≤ maxLen ∧ ∀ ad, Ac = some ad → ¬ hasM M A ad.block)) (fun _ iv _ => n - (intOf iv).toNat)
    case atStart => exact ⟨0, ch, B, bn, bc, m.fs, Nat.zero_le _, rfl, rfl, hMI0, hx0⟩
    case round =>
      obtain ⟨i, ci, Ac, nc, cc, fi, hi, rfl, rfl, hI, hC⟩ := hrel
      have k3 := (hI.out.md.box.2 3 _ rfl).1
      have ltr := hI.out.md.box.lt
      have hfl : fi.length = n := by rw [hI.out.len]; exact hn0.out
      rw [show (⟨m.room, -1, false, fi⟩ : Md).fs.length = n from hfl] at k3
      by_cases hlt : i < n
      · obtain ⟨y, hy, hym, hdy⟩ := hI.out.at_ (by rw [hn0.out]; exact hlt)
        obtain ⟨hy1, hy2⟩ := HS.out y (List.mem_of_getElem? hym)
        obtain ⟨g, rfl, hgM, hbx, d0, d1, d2, ltg⟩ := hI.out.md.file hy
        have hbz := BA_size y.data
        have hTg : hasM M (some ⟨g, 0, none⟩) g := .inr rfl
        have hidx2 : i * 3 + 2 < (⟨m.room, -1, false, fi⟩ : Md).fs.length * 3 := by show _ < fi.length * 3; omega
        have hidx1 : i * 3 + 1 < (⟨m.room, -1, false, fi⟩ : Md).fs.length * 3 := by show _ < fi.length * 3; omega
        replace hdy := Lib.hid hdy
        replace hym := Lib.hid hym
        replace hy := Lib.hid hy
        replace hidx1 := Lib.hid hidx1
        replace hidx2 := Lib.hid hidx2
        obtain ⟨u, hu⟩ : ∃ u : Nat, (y.data.length : Int) - (y.dur : Int) = (u : Int) := ⟨y.data.length - y.dur, by omega⟩
        have hu0 : y.data.length - y.dur = u := by omega
        have hw0 : IntKind.i64.wrap ((y.data.length : Int) - (y.dur : Int)) = (u : Int) := by rw [hu, IntWalk.i64_in _ (by omega)]
        replace hbx := Lib.hid hbx
        clear d0
        go_wp2_with fail
        refine wp_region_ord [(0, 1), (1, 1), (2, 1), (3, 1), (4, 1), (5, 1), (6, 1), (7, 1), (8, 1), (9, 1), (10, 1)] [] 5 (by kernel_rfl) (by decide +kernel) ?_
        simp only [pickO, List.append_eq, List.cons_append, List.nil_append, List.getElem?_cons_succ, List.getElem?_cons_zero]
        intro w0 hG
        (repeat ((first | (with_reducible refine ord_q1 ?_) | (with_reducible refine ord_q0 ?_)); intro K hK; first | (refine Or.inr ⟨?_, ?_⟩; (focus (go_simp; first | done | (simp [undef]; done))); go_simp; (with_reducible refine hK _ ?_); clear hK K) | (refine Or.inl ⟨?_, ?_⟩; (focus (go_simp; done)); apply Exists.intro; refine And.intro ?_ ?_; (focus (first | (intro wq hq; obtain ⟨hcq, hfq⟩ := G.old hq; go_simp; (first | done | exact rfl); done) | (intro wq; go_simp; (first | done | exact rfl); done))); go_simp; (with_reducible refine hK _ ?_); clear hK K) | fail))
        (with_reducible refine ord_nil ?_)
        have hIg := Lib.hid (show MI w w0 M m (some ⟨g, 0, none⟩) c i ch ci fi from ⟨hI.out.md.grow hG.b, hI.out.todo, hI.out.len, hI.out.done, hI.out.chg.trans (DChg.of_below (S := hasM M (some ⟨g, 0, none⟩)) hG.b) fun x hx => .inl hx⟩)
        have hCg := Lib.hid (And.intro (hC.out.1.grow hG.b) hC.out.2)
        have hbx0 := Lib.hid (hbx.out.grow hG.b)
        obtain ⟨e1, r1⟩ := hbx0.out.2 _ _ (fcells_get hy.out).2.1
        obtain ⟨e2, r2⟩ := hbx0.out.2 _ _ (fcells_get hy.out).2.2
        have ltg0 := hbx0.out.lt
        clear hG hI hC hbx k3 ltr d1 d2 ltg hw0
        obtain ⟨wa, rfl⟩ : ∃ wa, wa = w0 := ⟨_, rfl⟩
        by_cases hu1 : 0 < u
        · have hpos : (0 : Int) < (u : Int) := by omega
          have hd1 : y.dur ≤ y.data.length := hy2
          have hwu : IntKind.i64.wrap ((u : Int) + 1) = (u : Int) + 1 := by rw [IntWalk.i64_in _ (by omega)]
          have hwd : IntKind.i64.wrap (y.dur : Int) = (y.dur : Int) := by rw [IntWalk.i64_in _ (by omega)]
          rcases ci with _ | ⟨b, rest⟩
          · have hnc0 : nc = 0 := by have := hCg.out.1.1; simpa [u8s] using this.symm
            subst hnc0
            have hk1 : y.dur ≤ (BA y.data).size := by rw [hbz]; exact hd1
            have hk2 : (y.dur : Int) ≤ ((BA y.data).size : Int) := by omega
            have htk := BA_take y.data y.dur
            go_wp2_with fail
            refine wp_region_ord [(0, 1), (1, 1), (2, 1), (3, 1), (4, 1), (5, 1), (6, 1), (7, 1), (8, 1), (9, 1), (10, 1), (11, 1), (12, 1), (13, 1), (14, 3)] [14] 5 (by kernel_rfl) (by decide +kernel) ?_
            simp only [pickO, List.append_eq, List.cons_append, List.nil_append, List.getElem?_cons_succ, List.getElem?_cons_zero]
            intro w0 hG
            (repeat ((first | (with_reducible refine ord_q1 ?_) | (with_reducible refine ord_q0 ?_)); intro K hK; first | (refine Or.inr ⟨?_, ?_⟩; (focus (go_simp; first | done | (simp [undef]; done))); go_simp; (with_reducible refine hK _ ?_); clear hK K) | (refine Or.inl ⟨?_, ?_⟩; (focus (go_simp; done)); apply Exists.intro; refine And.intro ?_ ?_; (focus (first | (intro wq hq; obtain ⟨hcq, hfq⟩ := G.old hq; go_simp; (first | done | exact rfl); done) | (intro wq; go_simp; (first | done | exact rfl); done))); go_simp; (with_reducible refine hK _ ?_); clear hK K) | fail))
            have hR9 := hIg.out.md.grow hG.b
            have hbx9 := hbx0.out.grow hG.b
            have u9 := (hbx9.2 _ _ (fcells_get hy.out).2.1).1
            have r9 := (hbx9.2 _ _ (fcells_get hy.out).2.1).2
            have ltg9 := hbx9.lt
            have hR1 := (RetM.file (T := hasM M (some ⟨g, 0, none⟩)) (RetM.refl ⟨_, c, hR9, fun x => Iff.rfl⟩) hR9 rfl hidx1.out (fcells_set1 (y.data.take (y.dur)) hy.out)).2
            have hc1 : DChg (hasM M (some ⟨g, 0, none⟩)) wa (w0.setCell ⟨g, i * 3 + 1, none⟩ (.string (BA (y.data.take (y.dur))))) := (DChg.of_below hG.b).setCell hTg _ _
            replace hR1 := Lib.hid hR1
            ((with_reducible refine ord_tail ?_); intro K hK; go_simp; (with_reducible refine hK _ _ ?_); clear hK K)
            (with_reducible refine ord_nil ?_)
            generalize (w0.setCell ⟨g, i * 3 + 1, none⟩ (.string (BA (y.data.take (y.dur))))) = wx at hR1 hc1 ⊢
            clear hR9 hbx9 u9 r9 ltg9 hG e1 e2 r1 r2 ltg0
            have hil := (List.getElem?_eq_some_iff.1 hy.out).1
            have hy1 : (fi.set i ⟨y.name, y.data.take (y.dur), y.dur⟩)[i]? = some ⟨y.name, y.data.take (y.dur), y.dur⟩ := List.getElem?_set_self hil
            obtain ⟨g', hgg, _, hbx1, _, e1, e2, ltg1⟩ := hR1.out.file hy1
            cases hgg
            have r2 := (hbx1.2 _ _ (fcells_get hy1).2.2).2
            have r1 := (hbx1.2 _ _ (fcells_get hy1).2.1).2
            have hbz1 : (BA (y.data.take (y.dur))).size = y.dur := by rw [BA_size, List.length_take]; omega
            replace hbx1 := Lib.hid hbx1
            replace hy1 := Lib.hid hy1
            have hcA := Lib.hid (And.intro (hCg.out.1.keep (ok := fun z => ¬ hasM M (some ⟨g, 0, none⟩) z) hCg.out.2.2.2 hc1.2) hCg.out.2)
            have hst : Hid (startL (y :: m.fs.drop (i + 1)) [] = ⟨y.name, y.data.take y.dur, y.dur⟩ :: startL (m.fs.drop (i + 1)) []) := by
              unfold Hid
              show (if y.data.length ≤ y.dur then _ else _) = _
              rw [if_neg (by omega)]
              have e1 : chopB y 0 = y.data.take y.dur := by
                unfold chopB keptB
                simp
              show (⟨y.name, chopB y 0, (chopB y 0).length⟩ : Fl) :: startL _ [] = _
              rw [e1, List.length_take]
              congr 2
              omega
            have hR2 := (RetM.file (T := hasM M (some ⟨g, 0, none⟩)) (RetM.refl ⟨_, c, hR1.out, fun x => Iff.rfl⟩) hR1.out rfl (show i * 3 + 2 < (fi.set i ⟨y.name, y.data.take y.dur, y.dur⟩).length * 3 by rw [List.length_set]; omega) (fcells_set2 (y.dur) hy1.out)).2
            rw [show (fi.set i ⟨y.name, y.data.take y.dur, y.dur⟩).set i ({ (⟨y.name, y.data.take y.dur, y.dur⟩ : Fl) with dur := y.dur }) = fi.set i ⟨y.name, y.data.take y.dur, y.dur⟩ from List.set_set ..] at hR2
            have hfin := Lib.hid (hIg.out.fin hy.out hdy.out (z := ⟨y.name, y.data.take y.dur, y.dur⟩) hR2 (hc1.setCell hTg _ _) hst.out)
            have hC3 := Lib.hid (And.intro (hcA.out.1.keep (ok := fun z => ¬ hasM M (some ⟨g, 0, none⟩) z) hcA.out.2.2.2 ((DChg.refl (hasM M (some ⟨g, 0, none⟩)) wx).setCell hTg (i * 3 + 2) (.int .i64 (y.dur : Nat))).2) hcA.out.2)
            clear hR2 hst hc1
            go_wp2_with fail
            go_roundw
            case rel => exact ⟨i + 1, [], Ac, 0, cc, _, by omega, by go_num, rfl, hfin, hC3⟩
            case measure => simp [intOf]; omega
          · have hn1 : nc = rest.length + 1 := by have := hCg.out.1.1; simpa [u8s] using this.symm
            obtain ⟨b8, o8, rfl, hl8, hc8⟩ := hCg.out.1.2 (by omega)
            have hc80 := hc8 0 (.int .u8 b.toNat) rfl
            rw [Nat.add_zero] at hc80
            have hb256 : b.toNat < 256 := b.toNat_lt
            obtain ⟨P, hP⟩ : ∃ P : Nat, b.toNat * (u + 1) = P := ⟨_, rfl⟩
            have hP1 : P ≤ 255 * (u + 1) := by rw [← hP]; exact Nat.mul_le_mul_right _ (by omega)
            have hPi : (b.toNat : Int) * ((u : Int) + 1) = (P : Int) := by rw [← hP]; push_cast; rfl
            have hwP : IntKind.i64.wrap ((b.toNat : Int) * ((u : Int) + 1)) = (P : Int) := by rw [hPi, IntWalk.i64_in _ (by omega)]
            obtain ⟨K, hKe⟩ : ∃ K : Nat, P / 256 = K := ⟨_, rfl⟩
            have hwq : IntKind.i64.wrap (Int.tdiv (P : Int) 256) = (K : Int) := by
              rw [Int.tdiv_eq_ediv_of_nonneg (by omega), IntWalk.i64_in _ (by omega)]
              omega
            have hKu : K ≤ u := by omega
            have hwb : IntKind.i64.wrap (b.toNat : Int) = (b.toNat : Int) := by rw [IntWalk.i64_in _ (by omega)]
            have hcc1 := hCg.out.2.1
            have hcc2 := hCg.out.2.2.1
            have hC3' := Lib.hid hCg.out.2.2.2
            have hS' := Lib.hid hCg.out.1
            have hpos8 : (0 : Int) < (nc : Int) := by omega
            have hle8 : (1 : Int) ≤ (nc : Int) := by omega
            have hle9 : (nc : Int) ≤ (cc : Int) := by omega
            have hle7 : (1 : Int) ≤ (rest.length : Int) + 1 := by omega
            have hq : (P : Int) / 256 = (K : Int) := by omega
            have hPn := Lib.hid hP
            clear hc8 hCg hP hPi
            go_wp2_with fail
            refine wp_region_ord [(0, 1), (1, 1), (2, 1), (3, 1), (4, 1), (5, 1), (6, 1), (7, 1)] [] 5 (by kernel_rfl) (by decide +kernel) ?_
            simp only [pickO, List.append_eq, List.cons_append, List.nil_append, List.getElem?_cons_succ, List.getElem?_cons_zero]
            intro w0 hG
            (repeat ((first | (with_reducible refine ord_q1 ?_) | (with_reducible refine ord_q0 ?_)); intro K hK; first | (refine Or.inr ⟨?_, ?_⟩; (focus (go_simp; first | done | (simp [undef]; done))); go_simp; (with_reducible refine hK _ ?_); clear hK K) | (refine Or.inl ⟨?_, ?_⟩; (focus (go_simp; done)); apply Exists.intro; refine And.intro ?_ ?_; (focus (first | (intro wq hq; obtain ⟨hcq, hfq⟩ := G.old hq; go_simp; (first | done | exact rfl); done) | (intro wq; go_simp; (first | done | exact rfl); done))); go_simp; (with_reducible refine hK _ ?_); clear hK K) | fail))
            (with_reducible refine ord_nil ?_)
            obtain ⟨A9, hA9⟩ : ∃ A9 : Option Addr, (if cc = 1 then (some ⟨b8, o8, none⟩ : Option Addr) else some ⟨b8, o8 + 1, none⟩) = A9 := ⟨_, rfl⟩
            rw [hA9]
            replace hA9 := Lib.hid hA9
            have hbg := hG.b
            have hI2 := Lib.hid (show MI w w0 M m (some ⟨g, 0, none⟩) c i ch (b :: rest) fi from ⟨hIg.out.md.grow hbg, hIg.out.todo, hIg.out.len, hIg.out.done, hIg.out.chg.trans (DChg.of_below (S := hasM M (some ⟨g, 0, none⟩)) hbg) fun x hx => .inl hx⟩)
            have hS2 := Lib.hid (hS'.out.grow hbg)
            have hbx2 := Lib.hid (hbx0.out.grow hbg)
            clear hIg hS' hbx0 e1 e2 r1 r2 ltg0
            have hIg := hI2
            have hbx0 := hbx2
            obtain ⟨e1, r1⟩ := hbx0.out.2 _ _ (fcells_get hy.out).2.1
            obtain ⟨e2, r2⟩ := hbx0.out.2 _ _ (fcells_get hy.out).2.2
            have ltg0 := hbx0.out.lt
            clear hG hbg hc80 hl8 hI2 hbx2
            obtain ⟨wb, rfl⟩ : ∃ wb, wb = w0 := ⟨_, rfl⟩
            have hSn : Hid (∀ wx, DChg (hasM M (some ⟨g, 0, none⟩)) wb wx → Sl wx A9 rest.length (u8s rest) ∧ rest.length ≤ cc - 1 ∧ cc - 1 ≤ maxLen ∧ ∀ ad, A9 = some ad → ¬ hasM M (some ⟨g, 0, none⟩) ad.block) := fun wx hc => by
              refine ⟨?_, by omega, by unfold maxLen at hcc2 ⊢; omega, fun ad e => ?_⟩
              · have h1 := hS2.out.keep (ok := fun z => ¬ hasM M (some ⟨g, 0, none⟩) z) hC3'.out hc.2
                rw [hn1] at h1
                have h2 := hA9.out
                split at h2
                · next hcc =>
                  subst h2
                  exact Sl.tl h1 (.inl (by omega))
                · subst h2
                  exact Sl.tl h1 (.inr rfl)
              · have := hA9.out
                rw [e] at this
                split at this
                · cases this; exact hC3'.out _ rfl
                · cases this; exact hC3'.out ⟨b8, o8, none⟩ rfl
            obtain ⟨q, hqm⟩ : ∃ q : Nat, y.dur + K = q := ⟨_, rfl⟩
            have hdk : (y.dur : Int) + (K : Int) = (q : Int) := by omega
            have hml2 : q ≤ y.data.length := by omega
            have hwm : IntKind.i64.wrap (q : Int) = (q : Int) := by rw [IntWalk.i64_in _ (by omega)]
            have hwl : IntKind.i64.wrap ((y.dur : Int) + (K : Int)) = (q : Int) := by rw [hdk, hwm]
            have hk1 : q ≤ (BA y.data).size := by rw [hbz]; exact hml2
            have hk2 : (q : Int) ≤ ((BA y.data).size : Int) := by omega
            have htk := BA_take y.data q
            have hkB : Hid (keptB y b.toNat = K) := by
              unfold Hid keptB
              rw [hu0, hPn.out, hKe]
            clear hS2 hC3' hPn
            go_wp2_with fail
            refine wp_region_ord [(0, 1), (1, 1), (2, 1), (3, 1), (4, 1), (5, 1), (6, 1), (7, 1), (8, 1), (9, 1), (10, 1), (11, 1), (12, 1), (13, 1), (14, 3)] [14] 5 (by kernel_rfl) (by decide +kernel) ?_
            simp only [pickO, List.append_eq, List.cons_append, List.nil_append, List.getElem?_cons_succ, List.getElem?_cons_zero]
            intro w0 hG
            (repeat ((first | (with_reducible refine ord_q1 ?_) | (with_reducible refine ord_q0 ?_)); intro K hK; first | (refine Or.inr ⟨?_, ?_⟩; (focus (go_simp; first | done | (simp [undef]; done))); go_simp; (with_reducible refine hK _ ?_); clear hK K) | (refine Or.inl ⟨?_, ?_⟩; (focus (go_simp; done)); apply Exists.intro; refine And.intro ?_ ?_; (focus (first | (intro wq hq; obtain ⟨hcq, hfq⟩ := G.old hq; go_simp; (first | done | exact rfl); done) | (intro wq; go_simp; (first | done | exact rfl); done))); go_simp; (with_reducible refine hK _ ?_); clear hK K) | fail))
            have hR9 := hIg.out.md.grow hG.b
            have hbx9 := hbx0.out.grow hG.b
            have u9 := (hbx9.2 _ _ (fcells_get hy.out).2.1).1
            have r9 := (hbx9.2 _ _ (fcells_get hy.out).2.1).2
            have ltg9 := hbx9.lt
            have hR1 := (RetM.file (T := hasM M (some ⟨g, 0, none⟩)) (RetM.refl ⟨_, c, hR9, fun x => Iff.rfl⟩) hR9 rfl hidx1.out (fcells_set1 (y.data.take (q)) hy.out)).2
            have hc1 : DChg (hasM M (some ⟨g, 0, none⟩)) wb (w0.setCell ⟨g, i * 3 + 1, none⟩ (.string (BA (y.data.take (q))))) := (DChg.of_below hG.b).setCell hTg _ _
            replace hR1 := Lib.hid hR1
            ((with_reducible refine ord_tail ?_); intro K hK; go_simp; (with_reducible refine hK _ _ ?_); clear hK K)
            (with_reducible refine ord_nil ?_)
            generalize (w0.setCell ⟨g, i * 3 + 1, none⟩ (.string (BA (y.data.take (q))))) = wx at hR1 hc1 ⊢
            clear hR9 hbx9 u9 r9 ltg9 hG e1 e2 r1 r2 ltg0
            have hil := (List.getElem?_eq_some_iff.1 hy.out).1
            have hy1 : (fi.set i ⟨y.name, y.data.take (q), y.dur⟩)[i]? = some ⟨y.name, y.data.take (q), y.dur⟩ := List.getElem?_set_self hil
            obtain ⟨g', hgg, _, hbx1, _, e1, e2, ltg1⟩ := hR1.out.file hy1
            cases hgg
            have r2 := (hbx1.2 _ _ (fcells_get hy1).2.2).2
            have r1 := (hbx1.2 _ _ (fcells_get hy1).2.1).2
            have hbz1 : (BA (y.data.take (q))).size = q := by rw [BA_size, List.length_take]; omega
            replace hbx1 := Lib.hid hbx1
            replace hy1 := Lib.hid hy1
            have hcA := Lib.hid (hSn.out _ hc1)
            clear hSn hKe hP1 hwP hwq hle7 hle8 hpos8
            by_cases hfl2 : b.toNat % 2 = 1 ∧ 0 < K
            · have hb3 : (b.toNat : Int) % 2 = 1 := by omega
              have hK1 : (0 : Int) < (K : Int) := by omega
              obtain ⟨t, ht⟩ : ∃ t, y.data.take q = t := ⟨_, rfl⟩
              have htl : t.length = q := by rw [← ht, List.length_take]; omega
              obtain ⟨j, hj⟩ : ∃ j, q = j + 1 := ⟨q - 1, by omega⟩
              obtain ⟨v, hv⟩ : ∃ v, t[j]? = some v := ⟨_, List.getElem?_eq_getElem (by omega)⟩
              have hst : Hid (startL (y :: m.fs.drop (i + 1)) (b :: rest) = ⟨y.name, flipB t, q⟩ :: startL (m.fs.drop (i + 1)) rest) := by
                unfold Hid
                show (if y.data.length ≤ y.dur then _ else _) = _
                rw [if_neg (by omega)]
                have e1 : chopB y b.toNat = flipB t := by
                  unfold chopB
                  rw [hkB.out, if_pos hfl2, hqm, ht]
                show (⟨y.name, chopB y b.toNat, (chopB y b.toNat).length⟩ : Fl) :: startL _ rest = _
                rw [e1, len_flip, htl]
              rw [ht] at hR1 hbx1 hy1 e1 hbz1
              have hfa := flip_app (l := t) (by omega) hv
              have hfz : Hid ((BA (flipB t)).size = q) := by unfold Hid; rw [BA_size, len_flip, htl]
              have hmj : (q : Int) - 1 = (j : Int) := by omega
              have hwj : IntKind.i64.wrap ((q : Int) - 1) = (j : Int) := by rw [hmj, IntWalk.i64_in _ (by omega)]
              have hwj2 : IntKind.i64.wrap (j : Int) = (j : Int) := by rw [IntWalk.i64_in _ (by omega)]
              have hjz : j < (BA t).size := by rw [hbz1]; omega
              have hjz1 : j ≤ (BA t).size := by omega
              have hjz2 : (j : Int) ≤ (q : Int) := by omega
              have hjz3 : (j : Int) < (q : Int) := by omega
              have hjz4 : j < q := by omega
              have hjz5 : j ≤ q := by omega
              have hgv := BA_get hv hjz
              have hex := BA_take t j
              have hwv := u8_flip v
              have hadd := fun (wz : World) => run_string_add_sum (P := Try.prog) wz (BA (t.take j)) ⟨#[255 - v]⟩ (by rw [BA_size, List.length_take]; show _ + 1 ≤ _; omega)
              rw [show BA (t.take j) ++ (⟨#[255 - v]⟩ : ByteArray) = BA (flipB t) from by rw [← hfa]; exact BA_app _ [255 - v]] at hadd
              replace hfa := Lib.hid hfa
              replace hv := Lib.hid hv
              replace hj := Lib.hid hj
              replace htl := Lib.hid htl
              replace ht := Lib.hid ht
              replace hst := Lib.hid hst
              have hcell := hc1
              replace hc1 := Lib.hid hc1
              clear hcell hfl2
              have ltx := hR1.out.box.lt
              go_wp2_with fail
              refine wp_region_ord [(0, 1), (1, 1), (2, 1), (3, 1), (4, 1), (5, 1), (6, 1), (7, 1), (8, 1), (9, 1), (10, 1), (11, 1), (12, 1), (13, 1), (14, 1), (15, 1), (16, 2), (17, 2), (18, 1), (19, 1), (20, 1), (21, 3)] [21] 5 (by kernel_rfl) (by decide +kernel) ?_
              simp only [pickO, List.append_eq, List.cons_append, List.nil_append, List.getElem?_cons_succ, List.getElem?_cons_zero]
              intro w0 hG
              (repeat ((first | (with_reducible refine ord_q1 ?_) | (with_reducible refine ord_q0 ?_)); intro K hK; first | (refine Or.inr ⟨?_, ?_⟩; (focus (go_simp; first | done | (simp [undef]; done))); go_simp; (with_reducible refine hK _ ?_); clear hK K) | (refine Or.inl ⟨?_, ?_⟩; (focus (go_simp; done)); apply Exists.intro; refine And.intro ?_ ?_; (focus (first | (intro wq hq; obtain ⟨hcq, hfq⟩ := G.old hq; go_simp; (first | done | exact rfl); done) | (intro wq; go_simp; (first | done | exact rfl); done))); go_simp; (with_reducible refine hK _ ?_); clear hK K) | fail))
              (with_reducible refine ord_run ?_ hG)
              intro K hK
              go_simp
              replace hG := Grew.alloc hG (.cells #[.int .u8 ((255 - v : UInt8).toNat)] 5)
              (with_reducible refine hK _ _ hG ?_)
              clear hK K
              (repeat ((first | (with_reducible refine ord_q1 ?_) | (with_reducible refine ord_q0 ?_)); intro K hK; first | (refine Or.inr ⟨?_, ?_⟩; (focus (go_simp; first | done | (simp [undef]; done))); go_simp; (with_reducible refine hK _ ?_); clear hK K) | (refine Or.inl ⟨?_, ?_⟩; (focus (go_simp; done)); apply Exists.intro; refine And.intro ?_ ?_; (focus (first | (intro wq hq; obtain ⟨hcq, hfq⟩ := G.old hq; go_simp; (first | done | exact rfl); done) | (intro wq; go_simp; (first | done | exact rfl); done))); go_simp; (with_reducible refine hK _ ?_); clear hK K) | fail))
              have hcv := run_convert_bytes_back (P := Try.prog) (w0.alloc (.cells #[.int .u8 ((255 - v : UInt8).toNat)] 5)) 39 9 5 ⟨w0.heap.size, 0, none⟩ 1 [255 - v] Try.underlying39 Try.underlying5 Try.underlying9 (fun j hj => by
                obtain rfl : j = 0 := by simpa using hj
                show World.cell? _ (Addr.add ⟨w0.heap.size, 0, none⟩ 0) = _
                rw [addr_add]
                simp only [World.cell?, heap_alloc_new]
                rfl)
              rw [show ([255 - v] : List UInt8).length = 1 from rfl] at hcv
              rw [show (([255 - v] : List UInt8).toArray) = #[255 - v] from rfl] at hcv
              (with_reducible refine ord_run ?_ hG)
              intro K hK
              go_simp
              (with_reducible refine hK _ _ hG ?_)
              clear hK K hcv
              (repeat ((first | (with_reducible refine ord_q1 ?_) | (with_reducible refine ord_q0 ?_)); intro K hK; first | (refine Or.inr ⟨?_, ?_⟩; (focus (go_simp; first | done | (simp [undef]; done))); go_simp; (with_reducible refine hK _ ?_); clear hK K) | (refine Or.inl ⟨?_, ?_⟩; (focus (go_simp; done)); apply Exists.intro; refine And.intro ?_ ?_; (focus (first | (intro wq hq; obtain ⟨hcq, hfq⟩ := G.old hq; go_simp; (first | done | exact rfl); done) | (intro wq; go_simp; (first | done | exact rfl); done))); go_simp; (with_reducible refine hK _ ?_); clear hK K) | fail))
              have hR9 := hR1.out.grow hG.b
              have hbx9 := hbx1.out.grow hG.b
              have u9 := (hbx9.2 _ _ (fcells_get hy1.out).2.1).1
              have r9 := (hbx9.2 _ _ (fcells_get hy1.out).2.1).2
              have ltg9 := hbx9.lt
              have hR3 := (RetM.file (T := hasM M (some ⟨g, 0, none⟩)) (RetM.refl ⟨_, c, hR9, fun x => Iff.rfl⟩) hR9 rfl (show i * 3 + 1 < (fi.set i ⟨y.name, t, y.dur⟩).length * 3 by rw [List.length_set]; omega) (fcells_set1 (flipB t) hy1.out)).2
              rw [show (fi.set i ⟨y.name, t, y.dur⟩).set i ({ (⟨y.name, t, y.dur⟩ : Fl) with data := flipB t }) = fi.set i ⟨y.name, flipB t, y.dur⟩ from List.set_set ..] at hR3
              have hc3 := (hc1.out.trans (DChg.of_below (S := hasM M (some ⟨g, 0, none⟩)) hG.b) fun x hx => .inl hx).setCell hTg (i * 3 + 1) (.string (BA (flipB t)))
              have hcB : Hid (Sl (w0.alloc (.cells #[.int .u8 ((255 - v : UInt8).toNat)] 5) |>.setCell ⟨g, i * 3 + 1, none⟩ (.string (BA (flipB t)))) A9 rest.length (u8s rest) ∧ rest.length ≤ cc - 1 ∧ cc - 1 ≤ maxLen ∧ ∀ ad, A9 = some ad → ¬ hasM M (some ⟨g, 0, none⟩) ad.block) := by
                refine ⟨?_, hcA.out.2⟩
                exact (hcA.out.1.grow hG.b).keep (ok := fun z => ¬ hasM M (some ⟨g, 0, none⟩) z) hcA.out.2.2.2 ((DChg.refl (hasM M (some ⟨g, 0, none⟩)) _).setCell hTg (i * 3 + 1) _).2
              replace hR3 := Lib.hid hR3
              ((with_reducible refine ord_tail ?_); intro K hK; go_simp; (with_reducible refine hK _ _ ?_); clear hK K)
              (with_reducible refine ord_nil ?_)
              generalize ((w0.alloc (.cells #[.int .u8 ((255 - v : UInt8).toNat)] 5)).setCell ⟨g, i * 3 + 1, none⟩ (.string (BA (flipB t)))) = wy at hR3 hc3 hcB ⊢
              clear hR9 hbx9 u9 r9 ltg9 hG e1 e2 r1 r2 ltg1 hR1 hc1 hcA hbx1 hadd hwv hgv hex hy1 ltx
              have hR1 := hR3
              have hc1 := hc3
              have hcA := hcB
              clear hR3 hc3 hcB
              have hy1 : (fi.set i ⟨y.name, flipB t, y.dur⟩)[i]? = some ⟨y.name, flipB t, y.dur⟩ := List.getElem?_set_self hil
              obtain ⟨g', hgg, _, hbx1, _, e1, e2, ltg1⟩ := hR1.out.file hy1
              cases hgg
              have r2 := (hbx1.2 _ _ (fcells_get hy1).2.2).2
              have hbz2 := hfz.out
              replace hbx1 := Lib.hid hbx1
              replace hy1 := Lib.hid hy1
              clear hbz1 hjz hjz1 hjz2 hjz3 hjz4 hjz5
              have hR2 := (RetM.file (T := hasM M (some ⟨g, 0, none⟩)) (RetM.refl ⟨_, c, hR1.out, fun x => Iff.rfl⟩) hR1.out rfl (show i * 3 + 2 < (fi.set i ⟨y.name, flipB t, y.dur⟩).length * 3 by rw [List.length_set]; omega) (fcells_set2 (q) hy1.out)).2
              rw [show (fi.set i ⟨y.name, flipB t, y.dur⟩).set i ({ (⟨y.name, flipB t, y.dur⟩ : Fl) with dur := q }) = fi.set i ⟨y.name, flipB t, q⟩ from List.set_set ..] at hR2
              have hfin := Lib.hid (hIg.out.fin hy.out hdy.out (z := ⟨y.name, flipB t, q⟩) hR2 (hc1.setCell hTg _ _) hst.out)
              have hC3 := Lib.hid (And.intro (hcA.out.1.keep (ok := fun z => ¬ hasM M (some ⟨g, 0, none⟩) z) hcA.out.2.2.2 ((DChg.refl (hasM M (some ⟨g, 0, none⟩)) wy).setCell hTg (i * 3 + 2) (.int .i64 (q : Nat))).2) hcA.out.2)
              clear hR2 hst hc1
              go_wp2_with fail
              go_roundw
              case rel => exact ⟨i + 1, rest, A9, rest.length, (cc - 1), _, by omega, by go_num, rfl, hfin, hC3⟩
              case measure => simp [intOf]; omega
            · have hst : Hid (startL (y :: m.fs.drop (i + 1)) (b :: rest) = ⟨y.name, y.data.take q, q⟩ :: startL (m.fs.drop (i + 1)) rest) := by
                unfold Hid
                show (if y.data.length ≤ y.dur then _ else _) = _
                rw [if_neg (by omega)]
                have e1 : chopB y b.toNat = y.data.take q := by
                  unfold chopB
                  rw [hkB.out, if_neg hfl2, hqm]
                show (⟨y.name, chopB y b.toNat, (chopB y b.toNat).length⟩ : Fl) :: startL _ rest = _
                rw [e1, List.length_take]
                congr 2
                omega
              by_cases hb2 : b.toNat % 2 = 1
              · have hK0 : K = 0 := by omega
                have hb3 : (b.toNat : Int) % 2 = 1 := by omega
                have hK1 : ¬ (0 : Int) < (K : Int) := by omega
                clear hfl2 hb2 hK0
                have hR2 := (RetM.file (T := hasM M (some ⟨g, 0, none⟩)) (RetM.refl ⟨_, c, hR1.out, fun x => Iff.rfl⟩) hR1.out rfl (show i * 3 + 2 < (fi.set i ⟨y.name, y.data.take q, y.dur⟩).length * 3 by rw [List.length_set]; omega) (fcells_set2 (q) hy1.out)).2
                rw [show (fi.set i ⟨y.name, y.data.take q, y.dur⟩).set i ({ (⟨y.name, y.data.take q, y.dur⟩ : Fl) with dur := q }) = fi.set i ⟨y.name, y.data.take q, q⟩ from List.set_set ..] at hR2
                have hfin := Lib.hid (hIg.out.fin hy.out hdy.out (z := ⟨y.name, y.data.take q, q⟩) hR2 (hc1.setCell hTg _ _) hst.out)
                have hC3 := Lib.hid (And.intro (hcA.out.1.keep (ok := fun z => ¬ hasM M (some ⟨g, 0, none⟩) z) hcA.out.2.2.2 ((DChg.refl (hasM M (some ⟨g, 0, none⟩)) wx).setCell hTg (i * 3 + 2) (.int .i64 (q : Nat))).2) hcA.out.2)
                clear hR2 hst hc1
                go_wp2_with fail
                go_roundw
                case rel => exact ⟨i + 1, rest, A9, rest.length, (cc - 1), _, by omega, by go_num, rfl, hfin, hC3⟩
                case measure => simp [intOf]; omega
              · have hb3 : (b.toNat : Int) % 2 = 0 := by omega
                clear hfl2 hb2
                have hR2 := (RetM.file (T := hasM M (some ⟨g, 0, none⟩)) (RetM.refl ⟨_, c, hR1.out, fun x => Iff.rfl⟩) hR1.out rfl (show i * 3 + 2 < (fi.set i ⟨y.name, y.data.take q, y.dur⟩).length * 3 by rw [List.length_set]; omega) (fcells_set2 (q) hy1.out)).2
                rw [show (fi.set i ⟨y.name, y.data.take q, y.dur⟩).set i ({ (⟨y.name, y.data.take q, y.dur⟩ : Fl) with dur := q }) = fi.set i ⟨y.name, y.data.take q, q⟩ from List.set_set ..] at hR2
                have hfin := Lib.hid (hIg.out.fin hy.out hdy.out (z := ⟨y.name, y.data.take q, q⟩) hR2 (hc1.setCell hTg _ _) hst.out)
                have hC3 := Lib.hid (And.intro (hcA.out.1.keep (ok := fun z => ¬ hasM M (some ⟨g, 0, none⟩) z) hcA.out.2.2.2 ((DChg.refl (hasM M (some ⟨g, 0, none⟩)) wx).setCell hTg (i * 3 + 2) (.int .i64 (q : Nat))).2) hcA.out.2)
                clear hR2 hst hc1
                go_wp2_with fail
                go_roundw
                case rel => exact ⟨i + 1, rest, A9, rest.length, (cc - 1), _, by omega, by go_num, rfl, hfin, hC3⟩
                case measure => simp [intOf]; omega
        · have hpos : ¬ (0 : Int) < (u : Int) := by omega
          have hule : y.data.length ≤ y.dur := by omega
          have hst : Hid (startL (y :: m.fs.drop (i + 1)) ci = ⟨y.name, y.data, y.data.length⟩ :: startL (m.fs.drop (i + 1)) ci) := by
            unfold Hid
            show (if y.data.length ≤ y.dur then _ else _) = _
            rw [if_pos hule]
          have hR2 := (RetM.file (T := hasM M (some ⟨g, 0, none⟩)) (RetM.refl ⟨_, c, hIg.out.md, fun x => Iff.rfl⟩) hIg.out.md rfl hidx2.out (fcells_set2 y.data.length hy.out)).2
          have hfin := Lib.hid (hIg.out.fin hy.out hdy.out (z := ⟨y.name, y.data, y.data.length⟩) hR2 ((DChg.refl _ _).setCell hTg _ _) hst.out)
          have hC3 := Lib.hid (And.intro (hCg.out.1.keep (ok := fun z => ¬ hasM M (some ⟨g, 0, none⟩) z) hCg.out.2.2.2 ((DChg.refl (hasM M (some ⟨g, 0, none⟩)) wa).setCell hTg (i * 3 + 2) (.int .i64 y.data.length)).2) hCg.out.2)
          clear hR2 hst
          go_wp2_with fail
          go_roundw
          case rel => exact ⟨i + 1, ci, Ac, nc, cc, _, by omega, by go_num, rfl, hfin, hC3⟩
          case measure => simp [intOf]; omega
      · obtain rfl : i = n := by omega
        have hfin : RetM M T R w wr := by
          have h1 := hI.out.done
          rw [List.drop_of_length_le (by rw [hn0.out]; exact Nat.le_refl _), List.take_of_length_le (by rw [hI.out.len, hn0.out]; exact Nat.le_refl _)] at h1
          have h2 : fi = startL m.fs ch := by rw [h1]; simp [startL]
          rw [← hr.out, ← h2]
          exact ⟨hasM M A, ⟨A, c, hI.out.md, fun x => Iff.rfl⟩, fun x hx => .inl ((HT.out x).2 hx), hI.out.chg.mono fun x hx => (HT.out x).2 hx⟩
        replace hfin := Lib.hid hfin
        go_wp2_with fail
        go_end0
        exact ⟨rfl, hfin.out⟩
end
end Go.Proofs.Ytphjgembpcikdaa
