/- device laws: the model's operation. -/
import Derived.Test.YtphjgembpcikdaaRm
namespace Go.Proofs.Ytphjgembpcikdaa
set_option linter.unusedVariables false
set_option linter.unnecessarySimpa false
set_option linter.unusedSimpArgs false
open Go.RowKit

def flAt (l : List Fl) (i : Nat) : Fl := (l[i]?).getD ⟨[], [], 0⟩
def rmL (l : List Fl) (i : Nat) : List Fl := l.take i ++ l.drop (i + 1)
def renL (l : List Fl) (i : Nat) (b : List UInt8) : List Fl :=
  insM (if (findL (rmL l i) b).2 = true then rmL (rmL l i) (findL (rmL l i) b).1 else rmL l i) ⟨b, (flAt l i).data, (flAt l i).dur⟩
def appL (l : List Fl) (i : Nat) (dl : List UInt8) : List Fl := l.set i ⟨(flAt l i).name, (flAt l i).data ++ dl, (flAt l i).dur⟩
def kindM (m : Md) (o : LOp) (dl : List UInt8) (i : Nat) : Md :=
  if o.kind % 12 = 0 then { m with fs := insM m.fs ⟨nameL o.name, [], 0⟩ } else if o.kind % 12 = 1 then { m with fs := appL m.fs i dl }
  else if o.kind % 12 = 2 then { m with fs := m.fs.set i ⟨(flAt m.fs i).name, (flAt m.fs i).data.take o.num.toNat, min (flAt m.fs i).dur o.num.toNat⟩ }
  else if o.kind % 12 = 3 then { m with fs := rmL m.fs i } else if o.kind % 12 = 4 then { m with fs := renL m.fs i (nameL o.other) }
  else { m with fs := m.fs.set i ⟨(flAt m.fs i).name, (flAt m.fs i).data, (flAt m.fs i).data.length⟩ }
def limM (m : Md) : Md := if 0 < m.limit then { m with limit := m.limit - 1 } else m
def operM (m : Md) (o : LOp) (dl : List UInt8) : Int × Md :=
  if faultM m o dl ≠ 0 then (faultM m o dl, m)
  else if m.limit = 0 then (31, if o.kind % 12 = 1 then ⟨m.room, m.limit, true, appL m.fs (findL m.fs (nameL o.name)).1 dl⟩ else ⟨m.room, m.limit, true, m.fs⟩)
  else (0, kindM (limM m) o dl (findL m.fs (nameL o.name)).1)
theorem fault_zero {m : Md} {o : LOp} {dl : List UInt8} (h : faultM m o dl = 0) (h0 : o.kind % 12 ≠ 0) : ∃ y, m.fs[(findL m.fs (nameL o.name)).1]? = some y ∧ flAt m.fs (findL m.fs (nameL o.name)).1 = y ∧ (o.kind % 12 = 2 → 0 ≤ o.num ∧ o.num ≤ y.data.length) := by
  unfold faultM at h
  by_cases hd : m.down = true
  · rw [if_pos hd] at h; cases h
  rw [if_neg hd, if_neg h0] at h
  by_cases hb : (findL m.fs (nameL o.name)).2 = false
  · rw [if_pos hb] at h; cases h
  rw [if_neg hb] at h
  have hb' : (findL m.fs (nameL o.name)).2 = true := by simpa using hb
  obtain ⟨y, hy, _⟩ := findL_true hb'
  have hfl : flAt m.fs (findL m.fs (nameL o.name)).1 = y := by unfold flAt; rw [hy]; rfl
  refine ⟨y, hy, hfl, fun h2 => ?_⟩
  rw [if_neg (by omega), if_pos h2] at h
  have hdl : dlen m (findL m.fs (nameL o.name)).1 = y.data.length := by unfold dlen; rw [hy]; rfl
  rw [hdl] at h
  by_cases hn : o.num < 0 ∨ (y.data.length : Int) < o.num
  · rw [if_pos hn] at h; cases h
  · omega
theorem RetM.mk {M : Nat} {T : Nat → Prop} {m' : Md} {w w' : World} {e : Ending} {v : Int} {R : Int × Md} (hR : R = (v, m')) (he : e = .returned (.int .i64 v)) (h : RetM M T m' w w') : e = .returned (.int .i64 R.1) ∧ RetM M T R.2 w w' := by
  subst hR
  exact ⟨he, h⟩
section
variable {w w' w1 : World} {M : Nat} {m m' : Md} {T : Nat → Prop} {A : Option Addr} {c : Nat} {f : Fl}
theorem BA_app (a b : List UInt8) : BA a ++ BA b = BA (a ++ b) := by
  apply ByteArray.ext
  rw [ByteArray.data_append]
  show a.toArray ++ b.toArray = (a ++ b).toArray
  simp
theorem BA_size (a : List UInt8) : (BA a).size = a.length := by show a.toArray.size = _; rw [List.size_toArray]
theorem BA_take (a : List UInt8) (k : Nat) : (BA a).extract 0 k = BA (a.take k) := by
  apply ByteArray.ext
  unfold BA
  apply Array.ext'
  simp [List.extract]
set_option maxRecDepth 20000 in set_option maxHeartbeats 8000000 in
theorem moper_any (h : MdW w M T m) (hm : m.Fine) (o : LOp) (ho : o.Fit) (hj5 : o.kind % 12 ≤ 5) (dl : List UInt8) (hdl : dl.length ≤ 64) (hsm : ∀ f ∈ m.fs, f.data.length ≤ 1000000 ∧ f.dur ≤ 1000000) (hlim : m.limit ≤ 9223372036854775807) :
    Calls Try.prog 56 #[.pointer (some ⟨M, 0, none⟩), o.val, .string (BA dl)] w fun e w' => e = .returned (.int .i64 (operM m o dl).1) ∧ RetM M T (operM m o dl).2 w w' := by
  have H := Lib.hid h
  have HO := Lib.hid ho
  have HM := Lib.hid hm
  have hn8 := ho.name
  have hk8 := ho.kind
  have ho8 := ho.other
  have hlo := ho.lo
  have hhi := ho.hi
  have hz := Lib.hid (@fault_zero m o dl)
  obtain ⟨R, hr⟩ : ∃ R, operM m o dl = R := ⟨_, rfl⟩
  rw [hr]
  unfold operM kindM at hr
  obtain ⟨j, hj⟩ : ∃ j, o.kind % 12 = j := ⟨_, rfl⟩
  have hmj : (o.kind : Int) % 12 = (j : Int) := by omega
  have hwk : IntKind.i64.wrap (o.kind : Int) = (o.kind : Int) := by rw [IntWalk.i64_in _ (by omega)]
  have FA := Lib.hid (fun (wx : World) (hb : Below w.heap.size w wx) => fault_any (h.grow hb) hm o ho hj5 dl hdl)
  rw [hj] at hr hj5 hz
  have hdz := BA_size dl
  clear hj ho h hk8 hm
  replace hr := Lib.hid hr
  replace hsm := Lib.hid hsm
  have hml := HM.out.len
  unfold LOp.val
  go_enter Try.func56, Try.ntmps56
  go_wp2_with fail
  refine calls_name (fun wx => Below w.heap.size w wx ∧ Bx wx w.heap.size o.cells) ⟨by repeat (first | with_reducible assumption | with_reducible exact G.refl _ | with_reducible refine G.drew ?_ | with_reducible refine G.drewN ?_ _ | with_reducible refine G.alloc ?_ _ | with_reducible refine Below.setCell ?_ (by first | (simp; done) | (simp; omega)) _ | with_reducible refine G.trans ?_ hb12 | with_reducible refine G.trans ?_ hb11 | with_reducible refine G.trans ?_ hb10 | with_reducible refine G.trans ?_ hb9 | with_reducible refine G.trans ?_ hb8 | with_reducible refine G.trans ?_ hb7 | with_reducible refine G.trans ?_ hb6 | with_reducible refine G.trans ?_ hb5 | with_reducible refine G.trans ?_ hb4 | with_reducible refine G.trans ?_ hb3 | with_reducible refine G.trans ?_ hb2 | with_reducible refine G.trans ?_ hb1 | with_reducible refine G.trans ?_ hb | assumption), Bx.new rfl rfl⟩ ?_
  rintro w1 ⟨hb1, x1⟩
  replace x1 := Lib.hid x1
  refine (FA.out _ hb1).mono ?_
  rintro e w2 ⟨rfl, hb2⟩
  replace hb1 := G.trans hb1 hb2
  replace x1 := Lib.hid (x1.out.grow hb2)
  clear hb2 FA
  obtain ⟨fe, hfe⟩ : ∃ fe, faultM m o dl = fe := ⟨_, rfl⟩
  rw [hfe] at hr hz ⊢
  replace hfe := Lib.hid hfe
  by_cases he : fe = 0
  · subst he
    replace hr := hr.out
    rw [if_neg (by simp)] at hr
    replace hr := Lib.hid hr
    have c0 := (x1.out.2 0 _ rfl).1
    have c1 := (x1.out.2 1 _ rfl).1
    have c2 := (x1.out.2 2 _ rfl).1
    have lt1 := x1.out.lt
    go_wp2_with fail
    refine wp_region_ord [(0, 1), (1, 1), (3, 1), (4, 1), (2, 2), (5, 2), (6, 1), (7, 1)] [] 5 (by kernel_rfl) (by decide +kernel) ?_
    simp only [pickO, List.append_eq, List.cons_append, List.nil_append, List.getElem?_cons_succ, List.getElem?_cons_zero]
    intro w0 hG
    (repeat ((first | (with_reducible refine ord_q1 ?_) | (with_reducible refine ord_q0 ?_)); intro K hK; first | (refine Or.inr ⟨?_, ?_⟩; (focus (go_simp; first | done | (simp [undef]; done))); go_simp; (with_reducible refine hK _ ?_); clear hK K) | (refine Or.inl ⟨?_, ?_⟩; (focus (go_simp; done)); apply Exists.intro; refine And.intro ?_ ?_; (focus (first | (intro wq hq; obtain ⟨hcq, hfq⟩ := G.old hq; go_simp; (first | done | exact rfl); done) | (intro wq; go_simp; (first | done | exact rfl); done))); go_simp; (with_reducible refine hK _ ?_); clear hK K) | fail))
    (with_reducible refine ord_run ?_ hG)
    intro K hK
    go_simp
    go_at_call 46; (with_reducible refine (nameOf_L o.name hn8 _).mono ?_); rintro e w2 ⟨rfl, hb⟩
    replace hG := Grew.trans hG hb
    (try dsimp only)
    (with_reducible refine hK _ _ hG ?_)
    clear hK K
    (repeat ((first | (with_reducible refine ord_q1 ?_) | (with_reducible refine ord_q0 ?_)); intro K hK; first | (refine Or.inr ⟨?_, ?_⟩; (focus (go_simp; first | done | (simp [undef]; done))); go_simp; (with_reducible refine hK _ ?_); clear hK K) | (refine Or.inl ⟨?_, ?_⟩; (focus (go_simp; done)); apply Exists.intro; refine And.intro ?_ ?_; (focus (first | (intro wq hq; obtain ⟨hcq, hfq⟩ := G.old hq; go_simp; (first | done | exact rfl); done) | (intro wq; go_simp; (first | done | exact rfl); done))); go_simp; (with_reducible refine hK _ ?_); clear hK K) | fail))
    (with_reducible refine ord_run ?_ hG)
    intro K hK
    go_simp
    go_at_call 46; (with_reducible refine (nameOf_L o.other ho8 _).mono ?_); rintro e w2 ⟨rfl, hb⟩
    replace hG := Grew.trans hG hb
    (try dsimp only)
    (with_reducible refine hK _ _ hG ?_)
    clear hK K
    (repeat ((first | (with_reducible refine ord_q1 ?_) | (with_reducible refine ord_q0 ?_)); intro K hK; first | (refine Or.inr ⟨?_, ?_⟩; (focus (go_simp; first | done | (simp [undef]; done))); go_simp; (with_reducible refine hK _ ?_); clear hK K) | (refine Or.inl ⟨?_, ?_⟩; (focus (go_simp; done)); apply Exists.intro; refine And.intro ?_ ?_; (focus (first | (intro wq hq; obtain ⟨hcq, hfq⟩ := G.old hq; go_simp; (first | done | exact rfl); done) | (intro wq; go_simp; (first | done | exact rfl); done))); go_simp; (with_reducible refine hK _ ?_); clear hK K) | fail))
    (with_reducible refine ord_nil ?_)
    have hbg := hG.b
    replace x1 := Lib.hid (x1.out.grow hbg)
    replace hb1 := G.trans hb1 hbg
    clear hG c0 c1 c2 lt1 hbg
    go_wp2_with fail
    refine (find_any (H.out.grow hb1) (nameL o.name) hml).mono ?_
    rintro e w3 ⟨rfl, hb3⟩
    replace x1 := Lib.hid (x1.out.grow hb3)
    replace hb1 := G.trans hb1 hb3
    clear hb3
    obtain ⟨⟨fi, fb⟩, hfd⟩ : ∃ p, findL m.fs (nameL o.name) = p := ⟨_, rfl⟩
    rw [hfd] at hr hz ⊢
    dsimp only at hr hz ⊢
    replace hfd := Lib.hid hfd
    have hQ := Lib.hid (RetM.grow (RetM.refl H.out) hb1)
    replace hb1 := Lib.hid hb1
    obtain ⟨A, c, hRw, _⟩ := H.out
    have hR := hRw.grow hb1.out
    have hAlt : ∀ g, A = some ⟨g, 0, none⟩ → g < w.heap.size := fun g e => hRw.lt (.inr (by rw [e]; rfl))
    replace hAlt := Lib.hid hAlt
    clear hRw
    have k0 := (hR.box.2 0 _ rfl).1
    have k1 := (hR.box.2 1 _ rfl).1
    have k3 := (hR.box.2 3 _ rfl).1
    have ltM := hR.box.lt
    have c0 := (x1.out.2 0 _ rfl).1
    have lt1 := x1.out.lt
    by_cases hl0 : m.limit = 0
    · replace hr := hr.out
      rw [if_pos hl0] at hr
      replace hr := Lib.hid hr
      have hl0' : (m.limit == 0) = true := by simp [hl0]
      obtain ⟨k2, f2⟩ := hR.box.2 2 _ rfl
      have hQ2 := Lib.hid (hQ.out.cell (m' := { m with down := true }) (i := 2) (v := .bool true) (fun A k => rfl) rfl)
      have hMw := H.out.lt (x := M) (by obtain ⟨_, _, _, hT⟩ := H.out; exact (hT M).2 (.inl rfl))
      have hMx : ¬ M = w.heap.size := by omega
      have hMx2 : ¬ w.heap.size = M := by omega
      have x2 := Lib.hid (x1.out.other (p := ⟨M, 2, none⟩) hMx2 (.bool true))
      clear hMw
      by_cases hj1 : j = 1
      · subst hj1
        simp only [Int.ofNat_zero, Int.natCast_one, Int.cast_ofNat_Int] at hmj
        replace hr := hr.out
        rw [if_pos rfl] at hr
        replace hr := Lib.hid hr
        clear hl0
        go_wp2_with fail
        refine wp_name (fun wx => RetM M T { m with down := true } w wx ∧ MdR wx M { m with down := true } A c) ⟨hQ2.out, hR.cell (fun A k => rfl) rfl⟩ ?_
        rintro w5 ⟨hQ5, hR5⟩
        replace hQ5 := Lib.hid hQ5
        clear hQ2 hQ x2 x1 c0 lt1 k0 k1 k2 k3 f2 ltM hR
        have hR := hR5
        obtain ⟨y, hy, hfl, _⟩ := hz.out (by simp) (by decide)
        have hys := (hsm.out y (List.mem_of_getElem? hy)).1
        obtain ⟨g, rfl, hgM, hbx, d0, d1, d2, ltg⟩ := hR.file hy
        have k3 := (hR.box.2 3 _ rfl).1
        have ltM := hR.box.lt
        have fr := (hbx.2 _ _ (fcells_get hy).2.1).2
        have hil := (List.getElem?_eq_some_iff.1 hy).1
        have hsz1 : (BA y.data).size + (BA dl).size ≤ 9223372036854775807 := by rw [BA_size, BA_size]; omega
        have hadd := fun (wx : World) => run_string_add_sum (P := Try.prog) wx (BA y.data) (BA dl) hsz1
        rw [BA_app] at hadd
        clear hsz1
        have hset := Lib.hid (fcells_set1 (y.data ++ dl) hy)
        replace hfl := Lib.hid hfl
        replace hbx := Lib.hid hbx
        replace hy := Lib.hid hy
        clear d0 d2 hys
        refine wp_region_ord [(0, 1), (1, 1), (2, 1), (3, 1), (4, 1), (5, 1), (6, 1), (7, 1), (8, 1), (9, 1), (10, 1), (11, 1), (12, 1), (13, 1), (14, 1), (15, 1), (16, 1), (17, 3)] [17] 5 (by kernel_rfl) (by decide +kernel) ?_
        simp only [pickO, List.append_eq, List.cons_append, List.nil_append, List.getElem?_cons_succ, List.getElem?_cons_zero]
        intro w0 hG
        (repeat ((first | (with_reducible refine ord_q1 ?_) | (with_reducible refine ord_q0 ?_)); intro K hK; first | (refine Or.inr ⟨?_, ?_⟩; (focus (go_simp; first | done | (simp [undef]; done))); go_simp; (with_reducible refine hK _ ?_); clear hK K) | (refine Or.inl ⟨?_, ?_⟩; (focus (go_simp; done)); apply Exists.intro; refine And.intro ?_ ?_; (focus (first | (intro wq hq; obtain ⟨hcq, hfq⟩ := G.old hq; go_simp; (first | done | exact rfl); done) | (intro wq; go_simp; (first | done | exact rfl); done))); go_simp; (with_reducible refine hK _ ?_); clear hK K) | fail))
        have hR0 := hR.grow hG.b
        have hbx0 := hbx.out.grow hG.b
        have u1 := (hbx0.2 _ _ (fcells_get hy.out).2.1).1
        have fr1 := (hbx0.2 _ _ (fcells_get hy.out).2.1).2
        have ltg0 := hbx0.lt
        have hQ6 := Lib.hid ((RetM.grow hQ5.out hG.b).file hR0 rfl (show fi * 3 + 1 < m.fs.length * 3 by omega) hset.out).1
        clear hR0 hbx0
        ((with_reducible refine ord_tail ?_); intro K hK; go_simp; (with_reducible refine hK _ _ ?_); clear hK K)
        (with_reducible refine ord_nil ?_)
        go_wp2_with fail
        go_ret
        exact RetM.mk (by rw [← hr.out]; unfold appL; rw [hfl.out]) rfl hQ6.out
      · replace hr := hr.out
        rw [if_neg hj1] at hr
        replace hr := Lib.hid hr
        have hj1' : ((j : Int) == 1) = false := by simp; omega
        go_wp2_with fail
        go_ret
        exact RetM.mk hr.out.symm rfl hQ2.out
    · replace hr := hr.out
      rw [if_neg hl0] at hr
      have hl0' : (m.limit == 0) = false := by simp [hl0]
      have hMw := H.out.lt (x := M) (by obtain ⟨_, _, _, hT⟩ := H.out; exact (hT M).2 (.inl rfl))
      have hMx : ¬ M = w.heap.size := by omega
      have hMx2 : ¬ w.heap.size = M := by omega
      obtain ⟨mc, hmc⟩ : ∃ mc, limM m = mc := ⟨_, rfl⟩
      have hmcf : mc.fs = m.fs := by rw [← hmc]; unfold limM; split <;> rfl
      have hmcr : mc.room = m.room := by rw [← hmc]; unfold limM; split <;> rfl
      have hmF : Hid mc.Fine := ⟨by rw [hmcf]; exact HM.out.len, by rw [hmcr]; exact HM.out.room, by rw [hmcf]; exact HM.out.used⟩
      have hzc : Hid (j ≠ 0 → ∃ y, mc.fs[fi]? = some y ∧ flAt mc.fs fi = y ∧ (j = 2 → 0 ≤ o.num ∧ o.num ≤ y.data.length) ∧ y.data.length ≤ 1000000 ∧ y.dur ≤ 1000000) := fun hj0 => by
        obtain ⟨y, h1, h2, h3⟩ := hz.out (by simp) hj0
        have := hsm.out y (List.mem_of_getElem? h1)
        rw [hmcf]
        exact ⟨y, h1, h2, h3, this.1, this.2⟩
      have hlenc : mc.fs.length ≤ 1000 := hmF.out.len
      rw [hmc] at hr
      replace hr := Lib.hid hr
      clear hz hfd hmcr hMw
      replace hmcf := Lib.hid hmcf
      replace hmc := Lib.hid hmc
      have hkk : j = 0 ∨ j = 1 ∨ j = 2 ∨ j = 3 ∨ j = 4 ∨ j = 5 := by omega
      clear hj5
      by_cases hlp : 0 < m.limit
      · have hwl : IntKind.i64.wrap (m.limit - 1) = m.limit - 1 := by rw [IntWalk.i64_in _ (by omega)]
        obtain ⟨_, f1⟩ := hR.box.2 1 _ rfl
        have hQ3 : Hid (RetM M T mc w (w3.setCell ⟨M, 1, none⟩ (.int .i64 (m.limit - 1)))) := by
          have h1 := hQ.out.cell (m' := { m with limit := m.limit - 1 }) (i := 1) (v := .int .i64 (m.limit - 1)) (fun A k => rfl) rfl
          have h2 := hmc.out
          unfold limM at h2
          rw [if_pos hlp] at h2
          rw [← h2]
          exact h1
        have x3 := Lib.hid (x1.out.other (p := ⟨M, 1, none⟩) hMx2 (.int .i64 (m.limit - 1)))
        have hR3 : Hid (MdR (w3.setCell ⟨M, 1, none⟩ (.int .i64 (m.limit - 1))) M mc A c) := by
          have h2 := hmc.out
          unfold limM at h2
          rw [if_pos hlp] at h2
          rw [← h2]
          exact hR.cell (fun A k => rfl) rfl
        clear hQ hmc
        rcases hkk with rfl | rfl | rfl | rfl | rfl | rfl
        all_goals simp only [Int.ofNat_zero, Int.natCast_one, Int.cast_ofNat_Int] at hmj
        · replace hr := hr.out
          rw [if_pos rfl] at hr
          replace hr := Lib.hid hr
          go_wp2_with fail
          refine (hQ3.out.step fun T' hM => minsert_any hM hmF.out ⟨nameL o.name, [], 0⟩).mono ?_
          rintro e w6 ⟨rfl, hQ6⟩
          replace hQ6 := Lib.hid hQ6
          go_wp2_with fail
          go_ret
          exact RetM.mk hr.out.symm rfl hQ6.out
        · replace hr := hr.out
          rw [if_neg (by decide), if_pos rfl] at hr
          replace hr := Lib.hid hr
          go_wp2_with fail
          refine wp_name (fun wx => RetM M T mc w wx ∧ MdR wx M mc A c ∧ Bx wx w.heap.size o.cells) ⟨hQ3.out, hR3.out, x3.out⟩ ?_
          rintro w5 ⟨hQ5, hR5, x5⟩
          replace hQ5 := Lib.hid hQ5
          replace x5 := Lib.hid x5
          clear hQ3 hR3 x3 x1 c0 lt1 k0 k1 k3 ltM hR
          have hR := hR5
          obtain ⟨y, hy, hfl, hnum, hys, hyd⟩ := hzc.out (by decide)
          obtain ⟨g, rfl, hgM, hbx, d0, d1, d2, ltg⟩ := hR.file hy
          have k3 := (hR.box.2 3 _ rfl).1
          have ltM := hR.box.lt
          have fr := (hbx.2 _ _ (fcells_get hy).2.1).2
          have hil := (List.getElem?_eq_some_iff.1 hy).1
          have hsz1 : (BA y.data).size + (BA dl).size ≤ 9223372036854775807 := by rw [BA_size, BA_size]; omega
          have hadd := fun (wx : World) => run_string_add_sum (P := Try.prog) wx (BA y.data) (BA dl) hsz1
          rw [BA_app] at hadd
          clear hsz1
          have hset := Lib.hid (fcells_set1 (y.data ++ dl) hy)
          replace hfl := Lib.hid hfl
          replace hbx := Lib.hid hbx
          replace hy := Lib.hid hy
          clear d0 d2 hys
          refine wp_region_ord [(0, 1), (1, 1), (2, 1), (3, 1), (4, 1), (5, 1), (6, 1), (7, 1), (8, 1), (9, 1), (10, 1), (11, 1), (12, 1), (13, 1), (14, 1), (15, 1), (16, 1), (17, 3)] [17] 5 (by kernel_rfl) (by decide +kernel) ?_
          simp only [pickO, List.append_eq, List.cons_append, List.nil_append, List.getElem?_cons_succ, List.getElem?_cons_zero]
          intro w0 hG
          (repeat ((first | (with_reducible refine ord_q1 ?_) | (with_reducible refine ord_q0 ?_)); intro K hK; first | (refine Or.inr ⟨?_, ?_⟩; (focus (go_simp; first | done | (simp [undef]; done))); go_simp; (with_reducible refine hK _ ?_); clear hK K) | (refine Or.inl ⟨?_, ?_⟩; (focus (go_simp; done)); apply Exists.intro; refine And.intro ?_ ?_; (focus (first | (intro wq hq; obtain ⟨hcq, hfq⟩ := G.old hq; go_simp; (first | done | exact rfl); done) | (intro wq; go_simp; (first | done | exact rfl); done))); go_simp; (with_reducible refine hK _ ?_); clear hK K) | fail))
          have hR0 := hR.grow hG.b
          have hbx0 := hbx.out.grow hG.b
          have u1 := (hbx0.2 _ _ (fcells_get hy.out).2.1).1
          have fr1 := (hbx0.2 _ _ (fcells_get hy.out).2.1).2
          have ltg0 := hbx0.lt
          have hQ6 := Lib.hid ((RetM.grow hQ5.out hG.b).file hR0 rfl (show fi * 3 + 1 < mc.fs.length * 3 by omega) hset.out).1
          clear hR0 hbx0
          ((with_reducible refine ord_tail ?_); intro K hK; go_simp; (with_reducible refine hK _ _ ?_); clear hK K)
          (with_reducible refine ord_nil ?_)
          go_wp2_with fail
          go_ret
          exact RetM.mk (by rw [← hr.out]; unfold appL; rw [hfl.out]) rfl hQ6.out
        · replace hr := hr.out
          rw [if_neg (by decide), if_neg (by decide), if_pos rfl] at hr
          skip
          go_wp2_with fail
          refine wp_name (fun wx => RetM M T mc w wx ∧ MdR wx M mc A c ∧ Bx wx w.heap.size o.cells) ⟨hQ3.out, hR3.out, x3.out⟩ ?_
          rintro w5 ⟨hQ5, hR5, x5⟩
          replace hQ5 := Lib.hid hQ5
          replace x5 := Lib.hid x5
          clear hQ3 hR3 x3 x1 c0 lt1 k0 k1 k3 ltM hR
          have hR := hR5
          obtain ⟨y, hy, hfl, hnum, hys, hyd⟩ := hzc.out (by decide)
          have c4 := (x5.out.2 4 _ rfl).1
          have lt5 := x5.out.lt
          obtain ⟨k, hk⟩ : ∃ k : Nat, o.num = (k : Int) := ⟨o.num.toNat, by have := hnum (by simp); omega⟩
          have hkl : k ≤ y.data.length := by have := (hnum (by simp)).2; omega
          rw [hk] at c4 hr
          rw [Int.toNat_natCast] at hr
          obtain ⟨g, rfl, hgM, hbx, d0, d1, d2, ltg⟩ := hR.file hy
          have hgx : ¬ g = w.heap.size := by have := hAlt.out g rfl; omega
          have k3 := (hR.box.2 3 _ rfl).1
          have ltM := hR.box.lt
          have fr := (hbx.2 _ _ (fcells_get hy).2.1).2
          have hil := (List.getElem?_eq_some_iff.1 hy).1
          have hbz := BA_size y.data
          have hk1 : k ≤ (BA y.data).size := by rw [hbz]; exact hkl
          have hk2 : (k : Int) ≤ ((BA y.data).size : Int) := by omega
          have htk := BA_take y.data k
          have hset := Lib.hid (fcells_set1 (y.data.take k) hy)
          replace hfl := Lib.hid hfl
          replace hbx := Lib.hid hbx
          replace hy := Lib.hid hy
          replace hr := Lib.hid hr
          replace hnum := Lib.hid hnum
          replace hk := Lib.hid hk
          clear d0 d2 hys hyd hbz hkl
          refine wp_region_ord [(0, 1), (1, 1), (2, 1), (3, 1), (4, 1), (5, 1), (6, 1), (7, 1), (8, 1), (9, 1), (10, 1), (11, 1), (12, 1), (13, 1), (14, 1), (15, 1), (16, 1), (17, 1), (18, 3)] [18] 5 (by kernel_rfl) (by decide +kernel) ?_
          simp only [pickO, List.append_eq, List.cons_append, List.nil_append, List.getElem?_cons_succ, List.getElem?_cons_zero]
          intro w0 hG
          (repeat ((first | (with_reducible refine ord_q1 ?_) | (with_reducible refine ord_q0 ?_)); intro K hK; first | (refine Or.inr ⟨?_, ?_⟩; (focus (go_simp; first | done | (simp [undef]; done))); go_simp; (with_reducible refine hK _ ?_); clear hK K) | (refine Or.inl ⟨?_, ?_⟩; (focus (go_simp; done)); apply Exists.intro; refine And.intro ?_ ?_; (focus (first | (intro wq hq; obtain ⟨hcq, hfq⟩ := G.old hq; go_simp; (first | done | exact rfl); done) | (intro wq; go_simp; (first | done | exact rfl); done))); go_simp; (with_reducible refine hK _ ?_); clear hK K) | fail))
          have hR0 := hR.grow hG.b
          have hbx0 := hbx.out.grow hG.b
          have u1 := (hbx0.2 _ _ (fcells_get hy.out).2.1).1
          have fr1 := (hbx0.2 _ _ (fcells_get hy.out).2.1).2
          have ltg0 := hbx0.lt
          obtain ⟨hQ6, hR6⟩ := (RetM.grow hQ5.out hG.b).file hR0 rfl (show fi * 3 + 1 < mc.fs.length * 3 by omega) hset.out
          replace hQ6 := Lib.hid hQ6
          replace hR6 := Lib.hid hR6
          have x6 := Lib.hid ((x5.out.grow hG.b).other (p := ⟨g, fi * 3 + 1, none⟩) (fun e => hgx e.symm) (.string (BA (y.data.take k))))
          clear hR0 hbx0
          ((with_reducible refine ord_tail ?_); intro K hK; go_simp; (with_reducible refine hK _ _ ?_); clear hK K)
          (with_reducible refine ord_nil ?_)
          clear u1 fr1 ltg0 fr d1 ltg k3 ltM c4 lt5 hR hG
          go_wp2_with fail
          refine wp_name (fun wx => RetM M T { mc with fs := mc.fs.set fi ⟨y.name, y.data.take k, y.dur⟩ } w wx ∧ MdR wx M { mc with fs := mc.fs.set fi ⟨y.name, y.data.take k, y.dur⟩ } (some ⟨g, 0, none⟩) c ∧ Bx wx w.heap.size o.cells) ⟨hQ6.out, hR6.out, x6.out⟩ ?_
          rintro w7 ⟨hQ7, hR7, x7⟩
          clear hQ6 hR6 x6
          have c4 := (x7.2 4 _ rfl).1
          rw [hk.out] at c4
          have lt5 := x7.lt
          have hy7 : (mc.fs.set fi ⟨y.name, y.data.take k, y.dur⟩)[fi]? = some ⟨y.name, y.data.take k, y.dur⟩ := List.getElem?_set_self hil
          obtain ⟨g', hgg, _, hbx7, d0, d1, d2, ltg⟩ := hR7.file hy7
          cases hgg
          have k3 := (hR7.box.2 3 _ rfl).1
          have ltM := hR7.box.lt
          have hll7 : (mc.fs.set fi ⟨y.name, y.data.take k, y.dur⟩).length = mc.fs.length := List.length_set
          have k3' : w7.cell? ⟨M, 3, none⟩ = some (.slice (some ⟨g, 0, none⟩) mc.fs.length c) := by rw [← hll7]; exact k3
          have hmin : min (y.dur : Int) (k : Int) = ((min y.dur k : Nat) : Int) := by omega
          obtain ⟨z, hzz⟩ : ∃ z, min y.dur k = z := ⟨_, rfl⟩
          rw [hzz] at hmin
          have hset7 := Lib.hid (fcells_set2 z hy7)
          replace hy7 := Lib.hid hy7
          replace hbx7 := Lib.hid hbx7
          replace hll7 := Lib.hid hll7
          replace hQ7 := Lib.hid hQ7
          replace hR7 := Lib.hid hR7
          clear k3 d0 d1 hk1 hk2 htk x5 x7 hQ5
          refine wp_region_ord [(0, 1), (1, 1), (2, 1), (3, 1), (4, 1), (5, 1), (6, 1), (7, 1), (8, 1), (9, 1), (10, 1), (11, 1), (12, 1), (13, 1), (14, 1), (15, 1), (16, 1), (17, 1), (18, 3)] [18] 5 (by kernel_rfl) (by decide +kernel) ?_
          simp only [pickO, List.append_eq, List.cons_append, List.nil_append, List.getElem?_cons_succ, List.getElem?_cons_zero]
          intro w0 hG
          (repeat ((first | (with_reducible refine ord_q1 ?_) | (with_reducible refine ord_q0 ?_)); intro K hK; first | (refine Or.inr ⟨?_, ?_⟩; (focus (go_simp; first | done | (simp [undef]; done))); go_simp; (with_reducible refine hK _ ?_); clear hK K) | (refine Or.inl ⟨?_, ?_⟩; (focus (go_simp; done)); apply Exists.intro; refine And.intro ?_ ?_; (focus (first | (intro wq hq; obtain ⟨hcq, hfq⟩ := G.old hq; go_simp; (first | done | exact rfl); done) | (intro wq; go_simp; (first | done | exact rfl); done))); go_simp; (with_reducible refine hK _ ?_); clear hK K) | fail))
          have hR0 := hR7.out.grow hG.b
          have hbx0 := hbx7.out.grow hG.b
          have u1 := (hbx0.2 _ _ (fcells_get hy7.out).2.2).1
          have fr1 := (hbx0.2 _ _ (fcells_get hy7.out).2.2).2
          have ltg0 := hbx0.lt
          have hQ8 := Lib.hid ((RetM.grow hQ7.out hG.b).file hR0 rfl (show fi * 3 + 2 < (mc.fs.set fi ⟨y.name, y.data.take k, y.dur⟩).length * 3 by rw [hll7.out]; omega) hset7.out).1
          clear hR0 hbx0
          ((with_reducible refine ord_tail ?_); intro K hK; go_simp; (with_reducible refine hK _ _ ?_); clear hK K)
          (with_reducible refine ord_nil ?_)
          go_wp2_with fail
          go_ret
          refine RetM.mk (by rw [← hr.out, hfl.out, hzz]) rfl (?_)
          have h8 := hQ8.out
          rw [show (mc.fs.set fi ⟨y.name, y.data.take k, y.dur⟩).set fi ({ (⟨y.name, y.data.take k, y.dur⟩ : Fl) with dur := z }) = mc.fs.set fi ⟨y.name, y.data.take k, z⟩ from List.set_set ..] at h8
          exact h8
        · replace hr := hr.out
          rw [if_neg (by decide), if_neg (by decide), if_neg (by decide), if_pos rfl] at hr
          replace hr := Lib.hid hr
          obtain ⟨y, hy, hfl, hnum, hys, hyd⟩ := hzc.out (by decide)
          have hil := (List.getElem?_eq_some_iff.1 hy).1
          replace hy := Lib.hid hy
          replace hfl := Lib.hid hfl
          replace hnum := Lib.hid hnum
          go_wp2_with fail
          refine (hQ3.out.step fun T' hM => mremove_any hM hmF.out fi hil).mono ?_
          rintro e w6 ⟨rfl, hQ6⟩
          replace hQ6 := Lib.hid hQ6
          go_wp2_with fail
          go_ret
          exact RetM.mk hr.out.symm rfl hQ6.out
        · replace hr := hr.out
          rw [if_neg (by decide), if_neg (by decide), if_neg (by decide), if_neg (by decide), if_pos rfl] at hr
          replace hr := Lib.hid hr
          obtain ⟨y, hy, hfl, hnum, hys, hyd⟩ := hzc.out (by decide)
          have hym : m.fs[fi]? = some y := by rw [← hmcf.out]; exact hy
          obtain ⟨g, rfl, hgM, hbx, d0, d1, d2, ltg⟩ := hR.file hym
          have hil := (List.getElem?_eq_some_iff.1 hym).1
          have hilc := (List.getElem?_eq_some_iff.1 hy).1
          have hgw := hAlt.out g rfl
          have hB := hb1.out.size
          replace hy := Lib.hid hy
          replace hym := Lib.hid hym
          replace hfl := Lib.hid hfl
          replace hnum := Lib.hid hnum
          replace hilc := Lib.hid hilc
          clear hbx
          go_wp2_with fail
          refine calls_name (fun wx => RetX M T mc w wx w3.heap.size [.string (BA y.name), .string (BA y.data), .int .i64 y.dur]) ?_ ?_
          · exact RetX.new hQ3.out (by simp) rfl
          intro w6 hX6
          replace hX6 := Lib.hid hX6
          clear d0 d1 d2 ltg k0 k1 k3 ltM c0 lt1 x1 x3 hQ3 hR3 hR
          refine (hX6.out.step fun T' hM => mremove_any hM hmF.out fi hilc.out).mono ?_
          rintro e w7 ⟨rfl, hX7⟩
          replace hX7 := Lib.hid hX7
          clear hX6
          obtain ⟨l1, hl1⟩ : ∃ l1, mc.fs.take fi ++ mc.fs.drop (fi + 1) = l1 := ⟨_, rfl⟩
          have hF1 := Lib.hid (hmF.out.rm fi)
          rw [hl1] at hX7 hF1
          have hll1 := hF1.out.len
          go_wp2_with fail
          refine (hX7.out.read fun T' hM => find_any hM (nameL o.other) hF1.out.len).mono ?_
          rintro e w8 ⟨rfl, hX8⟩
          replace hX8 := Lib.hid hX8
          clear hX7
          dsimp only
          obtain ⟨⟨k2, is2⟩, hk2⟩ : ∃ p, findL l1 (nameL o.other) = p := ⟨_, rfl⟩
          rw [hk2]
          dsimp only
          have hren : Hid (renL mc.fs fi (nameL o.other) = insM (if is2 = true then rmL l1 k2 else l1) ⟨nameL o.other, y.data, y.dur⟩) := by
            unfold Hid renL
            rw [show rmL mc.fs fi = l1 from hl1, hk2, hfl.out]
          have hk3 : Hid (is2 = true → k2 < l1.length) := fun h => by
            obtain ⟨z, hz, _⟩ := findL_true (l := l1) (n := nameL o.other) (by rw [hk2]; exact h)
            rw [hk2] at hz
            exact (List.getElem?_eq_some_iff.1 hz).1
          replace hl1 := Lib.hid hl1
          replace hk2 := Lib.hid hk2
          rcases is2 with _ | _
          · obtain ⟨u8, f8⟩ := hX8.out.box.2 0 _ rfl
            have lt8 := hX8.out.box.lt
            have hXA := Lib.hid (hX8.out.put (i := 0) (v := .string (BA (nameL o.other))) rfl)
            have y0 := (hXA.out.box.2 0 _ rfl).1
            have y1 := (hX8.out.box.2 1 _ rfl).1
            have y2 := (hX8.out.box.2 2 _ rfl).1
            go_wp2_with fail
            refine (hXA.out.ret.step fun T' hM => minsert_any hM hF1.out ⟨nameL o.other, y.data, y.dur⟩).mono ?_
            rintro e wB ⟨rfl, hQB⟩
            replace hQB := Lib.hid hQB
            go_wp2_with fail
            go_ret
            exact RetM.mk (by rw [← hr.out, hren.out]; rfl) rfl hQB.out
          · go_wp2_with fail
            refine (hX8.out.step fun T' hM => mremove_any hM hF1.out k2 (hk3.out (by simp))).mono ?_
            rintro e w8 ⟨rfl, hX9⟩
            clear hX8
            have hX8 := Lib.hid hX9
            replace hF1 := Lib.hid (hF1.out.rm k2)
            clear hX9
            obtain ⟨l2, hl2⟩ : ∃ l2, l1.take k2 ++ l1.drop (k2 + 1) = l2 := ⟨_, rfl⟩
            dsimp only at hX8 hF1
            rw [hl2] at hX8 hF1
            obtain ⟨u8, f8⟩ := hX8.out.box.2 0 _ rfl
            have lt8 := hX8.out.box.lt
            have hXA := Lib.hid (hX8.out.put (i := 0) (v := .string (BA (nameL o.other))) rfl)
            have y0 := (hXA.out.box.2 0 _ rfl).1
            have y1 := (hX8.out.box.2 1 _ rfl).1
            have y2 := (hX8.out.box.2 2 _ rfl).1
            go_wp2_with fail
            refine (hXA.out.ret.step fun T' hM => minsert_any hM hF1.out ⟨nameL o.other, y.data, y.dur⟩).mono ?_
            rintro e wB ⟨rfl, hQB⟩
            replace hQB := Lib.hid hQB
            go_wp2_with fail
            go_ret
            exact RetM.mk (by rw [← hr.out, hren.out]; rw [if_pos trivial, show rmL l1 k2 = l2 from hl2]) rfl hQB.out
        · replace hr := hr.out
          rw [if_neg (by decide), if_neg (by decide), if_neg (by decide), if_neg (by decide), if_neg (by decide)] at hr
          replace hr := Lib.hid hr
          go_wp2_with fail
          refine wp_name (fun wx => RetM M T mc w wx ∧ MdR wx M mc A c ∧ Bx wx w.heap.size o.cells) ⟨hQ3.out, hR3.out, x3.out⟩ ?_
          rintro w5 ⟨hQ5, hR5, x5⟩
          replace hQ5 := Lib.hid hQ5
          replace x5 := Lib.hid x5
          clear hQ3 hR3 x3 x1 c0 lt1 k0 k1 k3 ltM hR
          have hR := hR5
          obtain ⟨y, hy, hfl, hnum, hys, hyd⟩ := hzc.out (by decide)
          obtain ⟨g, rfl, hgM, hbx, d0, d1, d2, ltg⟩ := hR.file hy
          have k3 := (hR.box.2 3 _ rfl).1
          have ltM := hR.box.lt
          have hil := (List.getElem?_eq_some_iff.1 hy).1
          have hbz := BA_size y.data
          have hset := Lib.hid (fcells_set2 y.data.length hy)
          replace hfl := Lib.hid hfl
          replace hbx := Lib.hid hbx
          replace hy := Lib.hid hy
          replace hnum := Lib.hid hnum
          clear d0 hys hyd
          refine wp_region_ord [(0, 1), (1, 1), (2, 1), (3, 1), (4, 1), (5, 1), (6, 1), (7, 1), (8, 1), (9, 1), (10, 1), (11, 1), (12, 1), (13, 1), (14, 1), (15, 1), (16, 3)] [16] 5 (by kernel_rfl) (by decide +kernel) ?_
          simp only [pickO, List.append_eq, List.cons_append, List.nil_append, List.getElem?_cons_succ, List.getElem?_cons_zero]
          intro w0 hG
          (repeat ((first | (with_reducible refine ord_q1 ?_) | (with_reducible refine ord_q0 ?_)); intro K hK; first | (refine Or.inr ⟨?_, ?_⟩; (focus (go_simp; first | done | (simp [undef]; done))); go_simp; (with_reducible refine hK _ ?_); clear hK K) | (refine Or.inl ⟨?_, ?_⟩; (focus (go_simp; done)); apply Exists.intro; refine And.intro ?_ ?_; (focus (first | (intro wq hq; obtain ⟨hcq, hfq⟩ := G.old hq; go_simp; (first | done | exact rfl); done) | (intro wq; go_simp; (first | done | exact rfl); done))); go_simp; (with_reducible refine hK _ ?_); clear hK K) | fail))
          have hR0 := hR.grow hG.b
          have hbx0 := hbx.out.grow hG.b
          have u1 := (hbx0.2 _ _ (fcells_get hy.out).2.2).1
          have fr1 := (hbx0.2 _ _ (fcells_get hy.out).2.2).2
          have ltg0 := hbx0.lt
          have hQ6 := Lib.hid ((RetM.grow hQ5.out hG.b).file hR0 rfl (show fi * 3 + 2 < mc.fs.length * 3 by omega) hset.out).1
          clear hR0 hbx0
          ((with_reducible refine ord_tail ?_); intro K hK; go_simp; (with_reducible refine hK _ _ ?_); clear hK K)
          (with_reducible refine ord_nil ?_)
          go_wp2_with fail
          go_ret
          exact RetM.mk (by rw [← hr.out, hfl.out]) rfl hQ6.out
      · have hQ3 : Hid (RetM M T mc w w3) := by
          have h2 := hmc.out
          unfold limM at h2
          rw [if_neg hlp] at h2
          rw [← h2]
          exact hQ.out
        have x3 := x1
        have hR3 : Hid (MdR w3 M mc A c) := by
          have h2 := hmc.out
          unfold limM at h2
          rw [if_neg hlp] at h2
          rw [← h2]
          exact hR
        clear hQ hmc
        rcases hkk with rfl | rfl | rfl | rfl | rfl | rfl
        all_goals simp only [Int.ofNat_zero, Int.natCast_one, Int.cast_ofNat_Int] at hmj
        · replace hr := hr.out
          rw [if_pos rfl] at hr
          replace hr := Lib.hid hr
          go_wp2_with fail
          refine (hQ3.out.step fun T' hM => minsert_any hM hmF.out ⟨nameL o.name, [], 0⟩).mono ?_
          rintro e w6 ⟨rfl, hQ6⟩
          replace hQ6 := Lib.hid hQ6
          go_wp2_with fail
          go_ret
          exact RetM.mk hr.out.symm rfl hQ6.out
        · replace hr := hr.out
          rw [if_neg (by decide), if_pos rfl] at hr
          replace hr := Lib.hid hr
          go_wp2_with fail
          refine wp_name (fun wx => RetM M T mc w wx ∧ MdR wx M mc A c ∧ Bx wx w.heap.size o.cells) ⟨hQ3.out, hR3.out, x3.out⟩ ?_
          rintro w5 ⟨hQ5, hR5, x5⟩
          replace hQ5 := Lib.hid hQ5
          replace x5 := Lib.hid x5
          clear hQ3 hR3 x3 x1 c0 lt1 k0 k1 k3 ltM hR
          have hR := hR5
          obtain ⟨y, hy, hfl, hnum, hys, hyd⟩ := hzc.out (by decide)
          obtain ⟨g, rfl, hgM, hbx, d0, d1, d2, ltg⟩ := hR.file hy
          have k3 := (hR.box.2 3 _ rfl).1
          have ltM := hR.box.lt
          have fr := (hbx.2 _ _ (fcells_get hy).2.1).2
          have hil := (List.getElem?_eq_some_iff.1 hy).1
          have hsz1 : (BA y.data).size + (BA dl).size ≤ 9223372036854775807 := by rw [BA_size, BA_size]; omega
          have hadd := fun (wx : World) => run_string_add_sum (P := Try.prog) wx (BA y.data) (BA dl) hsz1
          rw [BA_app] at hadd
          clear hsz1
          have hset := Lib.hid (fcells_set1 (y.data ++ dl) hy)
          replace hfl := Lib.hid hfl
          replace hbx := Lib.hid hbx
          replace hy := Lib.hid hy
          clear d0 d2 hys
          refine wp_region_ord [(0, 1), (1, 1), (2, 1), (3, 1), (4, 1), (5, 1), (6, 1), (7, 1), (8, 1), (9, 1), (10, 1), (11, 1), (12, 1), (13, 1), (14, 1), (15, 1), (16, 1), (17, 3)] [17] 5 (by kernel_rfl) (by decide +kernel) ?_
          simp only [pickO, List.append_eq, List.cons_append, List.nil_append, List.getElem?_cons_succ, List.getElem?_cons_zero]
          intro w0 hG
          (repeat ((first | (with_reducible refine ord_q1 ?_) | (with_reducible refine ord_q0 ?_)); intro K hK; first | (refine Or.inr ⟨?_, ?_⟩; (focus (go_simp; first | done | (simp [undef]; done))); go_simp; (with_reducible refine hK _ ?_); clear hK K) | (refine Or.inl ⟨?_, ?_⟩; (focus (go_simp; done)); apply Exists.intro; refine And.intro ?_ ?_; (focus (first | (intro wq hq; obtain ⟨hcq, hfq⟩ := G.old hq; go_simp; (first | done | exact rfl); done) | (intro wq; go_simp; (first | done | exact rfl); done))); go_simp; (with_reducible refine hK _ ?_); clear hK K) | fail))
          have hR0 := hR.grow hG.b
          have hbx0 := hbx.out.grow hG.b
          have u1 := (hbx0.2 _ _ (fcells_get hy.out).2.1).1
          have fr1 := (hbx0.2 _ _ (fcells_get hy.out).2.1).2
          have ltg0 := hbx0.lt
          have hQ6 := Lib.hid ((RetM.grow hQ5.out hG.b).file hR0 rfl (show fi * 3 + 1 < mc.fs.length * 3 by omega) hset.out).1
          clear hR0 hbx0
          ((with_reducible refine ord_tail ?_); intro K hK; go_simp; (with_reducible refine hK _ _ ?_); clear hK K)
          (with_reducible refine ord_nil ?_)
          go_wp2_with fail
          go_ret
          exact RetM.mk (by rw [← hr.out]; unfold appL; rw [hfl.out]) rfl hQ6.out
        · replace hr := hr.out
          rw [if_neg (by decide), if_neg (by decide), if_pos rfl] at hr
          skip
          go_wp2_with fail
          refine wp_name (fun wx => RetM M T mc w wx ∧ MdR wx M mc A c ∧ Bx wx w.heap.size o.cells) ⟨hQ3.out, hR3.out, x3.out⟩ ?_
          rintro w5 ⟨hQ5, hR5, x5⟩
          replace hQ5 := Lib.hid hQ5
          replace x5 := Lib.hid x5
          clear hQ3 hR3 x3 x1 c0 lt1 k0 k1 k3 ltM hR
          have hR := hR5
          obtain ⟨y, hy, hfl, hnum, hys, hyd⟩ := hzc.out (by decide)
          have c4 := (x5.out.2 4 _ rfl).1
          have lt5 := x5.out.lt
          obtain ⟨k, hk⟩ : ∃ k : Nat, o.num = (k : Int) := ⟨o.num.toNat, by have := hnum (by simp); omega⟩
          have hkl : k ≤ y.data.length := by have := (hnum (by simp)).2; omega
          rw [hk] at c4 hr
          rw [Int.toNat_natCast] at hr
          obtain ⟨g, rfl, hgM, hbx, d0, d1, d2, ltg⟩ := hR.file hy
          have hgx : ¬ g = w.heap.size := by have := hAlt.out g rfl; omega
          have k3 := (hR.box.2 3 _ rfl).1
          have ltM := hR.box.lt
          have fr := (hbx.2 _ _ (fcells_get hy).2.1).2
          have hil := (List.getElem?_eq_some_iff.1 hy).1
          have hbz := BA_size y.data
          have hk1 : k ≤ (BA y.data).size := by rw [hbz]; exact hkl
          have hk2 : (k : Int) ≤ ((BA y.data).size : Int) := by omega
          have htk := BA_take y.data k
          have hset := Lib.hid (fcells_set1 (y.data.take k) hy)
          replace hfl := Lib.hid hfl
          replace hbx := Lib.hid hbx
          replace hy := Lib.hid hy
          replace hr := Lib.hid hr
          replace hnum := Lib.hid hnum
          replace hk := Lib.hid hk
          clear d0 d2 hys hyd hbz hkl
          refine wp_region_ord [(0, 1), (1, 1), (2, 1), (3, 1), (4, 1), (5, 1), (6, 1), (7, 1), (8, 1), (9, 1), (10, 1), (11, 1), (12, 1), (13, 1), (14, 1), (15, 1), (16, 1), (17, 1), (18, 3)] [18] 5 (by kernel_rfl) (by decide +kernel) ?_
          simp only [pickO, List.append_eq, List.cons_append, List.nil_append, List.getElem?_cons_succ, List.getElem?_cons_zero]
          intro w0 hG
          (repeat ((first | (with_reducible refine ord_q1 ?_) | (with_reducible refine ord_q0 ?_)); intro K hK; first | (refine Or.inr ⟨?_, ?_⟩; (focus (go_simp; first | done | (simp [undef]; done))); go_simp; (with_reducible refine hK _ ?_); clear hK K) | (refine Or.inl ⟨?_, ?_⟩; (focus (go_simp; done)); apply Exists.intro; refine And.intro ?_ ?_; (focus (first | (intro wq hq; obtain ⟨hcq, hfq⟩ := G.old hq; go_simp; (first | done | exact rfl); done) | (intro wq; go_simp; (first | done | exact rfl); done))); go_simp; (with_reducible refine hK _ ?_); clear hK K) | fail))
          have hR0 := hR.grow hG.b
          have hbx0 := hbx.out.grow hG.b
          have u1 := (hbx0.2 _ _ (fcells_get hy.out).2.1).1
          have fr1 := (hbx0.2 _ _ (fcells_get hy.out).2.1).2
          have ltg0 := hbx0.lt
          obtain ⟨hQ6, hR6⟩ := (RetM.grow hQ5.out hG.b).file hR0 rfl (show fi * 3 + 1 < mc.fs.length * 3 by omega) hset.out
          replace hQ6 := Lib.hid hQ6
          replace hR6 := Lib.hid hR6
          have x6 := Lib.hid ((x5.out.grow hG.b).other (p := ⟨g, fi * 3 + 1, none⟩) (fun e => hgx e.symm) (.string (BA (y.data.take k))))
          clear hR0 hbx0
          ((with_reducible refine ord_tail ?_); intro K hK; go_simp; (with_reducible refine hK _ _ ?_); clear hK K)
          (with_reducible refine ord_nil ?_)
          clear u1 fr1 ltg0 fr d1 ltg k3 ltM c4 lt5 hR hG
          go_wp2_with fail
          refine wp_name (fun wx => RetM M T { mc with fs := mc.fs.set fi ⟨y.name, y.data.take k, y.dur⟩ } w wx ∧ MdR wx M { mc with fs := mc.fs.set fi ⟨y.name, y.data.take k, y.dur⟩ } (some ⟨g, 0, none⟩) c ∧ Bx wx w.heap.size o.cells) ⟨hQ6.out, hR6.out, x6.out⟩ ?_
          rintro w7 ⟨hQ7, hR7, x7⟩
          clear hQ6 hR6 x6
          have c4 := (x7.2 4 _ rfl).1
          rw [hk.out] at c4
          have lt5 := x7.lt
          have hy7 : (mc.fs.set fi ⟨y.name, y.data.take k, y.dur⟩)[fi]? = some ⟨y.name, y.data.take k, y.dur⟩ := List.getElem?_set_self hil
          obtain ⟨g', hgg, _, hbx7, d0, d1, d2, ltg⟩ := hR7.file hy7
          cases hgg
          have k3 := (hR7.box.2 3 _ rfl).1
          have ltM := hR7.box.lt
          have hll7 : (mc.fs.set fi ⟨y.name, y.data.take k, y.dur⟩).length = mc.fs.length := List.length_set
          have k3' : w7.cell? ⟨M, 3, none⟩ = some (.slice (some ⟨g, 0, none⟩) mc.fs.length c) := by rw [← hll7]; exact k3
          have hmin : min (y.dur : Int) (k : Int) = ((min y.dur k : Nat) : Int) := by omega
          obtain ⟨z, hzz⟩ : ∃ z, min y.dur k = z := ⟨_, rfl⟩
          rw [hzz] at hmin
          have hset7 := Lib.hid (fcells_set2 z hy7)
          replace hy7 := Lib.hid hy7
          replace hbx7 := Lib.hid hbx7
          replace hll7 := Lib.hid hll7
          replace hQ7 := Lib.hid hQ7
          replace hR7 := Lib.hid hR7
          clear k3 d0 d1 hk1 hk2 htk x5 x7 hQ5
          refine wp_region_ord [(0, 1), (1, 1), (2, 1), (3, 1), (4, 1), (5, 1), (6, 1), (7, 1), (8, 1), (9, 1), (10, 1), (11, 1), (12, 1), (13, 1), (14, 1), (15, 1), (16, 1), (17, 1), (18, 3)] [18] 5 (by kernel_rfl) (by decide +kernel) ?_
          simp only [pickO, List.append_eq, List.cons_append, List.nil_append, List.getElem?_cons_succ, List.getElem?_cons_zero]
          intro w0 hG
          (repeat ((first | (with_reducible refine ord_q1 ?_) | (with_reducible refine ord_q0 ?_)); intro K hK; first | (refine Or.inr ⟨?_, ?_⟩; (focus (go_simp; first | done | (simp [undef]; done))); go_simp; (with_reducible refine hK _ ?_); clear hK K) | (refine Or.inl ⟨?_, ?_⟩; (focus (go_simp; done)); apply Exists.intro; refine And.intro ?_ ?_; (focus (first | (intro wq hq; obtain ⟨hcq, hfq⟩ := G.old hq; go_simp; (first | done | exact rfl); done) | (intro wq; go_simp; (first | done | exact rfl); done))); go_simp; (with_reducible refine hK _ ?_); clear hK K) | fail))
          have hR0 := hR7.out.grow hG.b
          have hbx0 := hbx7.out.grow hG.b
          have u1 := (hbx0.2 _ _ (fcells_get hy7.out).2.2).1
          have fr1 := (hbx0.2 _ _ (fcells_get hy7.out).2.2).2
          have ltg0 := hbx0.lt
          have hQ8 := Lib.hid ((RetM.grow hQ7.out hG.b).file hR0 rfl (show fi * 3 + 2 < (mc.fs.set fi ⟨y.name, y.data.take k, y.dur⟩).length * 3 by rw [hll7.out]; omega) hset7.out).1
          clear hR0 hbx0
          ((with_reducible refine ord_tail ?_); intro K hK; go_simp; (with_reducible refine hK _ _ ?_); clear hK K)
          (with_reducible refine ord_nil ?_)
          go_wp2_with fail
          go_ret
          refine RetM.mk (by rw [← hr.out, hfl.out, hzz]) rfl (?_)
          have h8 := hQ8.out
          rw [show (mc.fs.set fi ⟨y.name, y.data.take k, y.dur⟩).set fi ({ (⟨y.name, y.data.take k, y.dur⟩ : Fl) with dur := z }) = mc.fs.set fi ⟨y.name, y.data.take k, z⟩ from List.set_set ..] at h8
          exact h8
        · replace hr := hr.out
          rw [if_neg (by decide), if_neg (by decide), if_neg (by decide), if_pos rfl] at hr
          replace hr := Lib.hid hr
          obtain ⟨y, hy, hfl, hnum, hys, hyd⟩ := hzc.out (by decide)
          have hil := (List.getElem?_eq_some_iff.1 hy).1
          replace hy := Lib.hid hy
          replace hfl := Lib.hid hfl
          replace hnum := Lib.hid hnum
          go_wp2_with fail
          refine (hQ3.out.step fun T' hM => mremove_any hM hmF.out fi hil).mono ?_
          rintro e w6 ⟨rfl, hQ6⟩
          replace hQ6 := Lib.hid hQ6
          go_wp2_with fail
          go_ret
          exact RetM.mk hr.out.symm rfl hQ6.out
        · replace hr := hr.out
          rw [if_neg (by decide), if_neg (by decide), if_neg (by decide), if_neg (by decide), if_pos rfl] at hr
          replace hr := Lib.hid hr
          obtain ⟨y, hy, hfl, hnum, hys, hyd⟩ := hzc.out (by decide)
          have hym : m.fs[fi]? = some y := by rw [← hmcf.out]; exact hy
          obtain ⟨g, rfl, hgM, hbx, d0, d1, d2, ltg⟩ := hR.file hym
          have hil := (List.getElem?_eq_some_iff.1 hym).1
          have hilc := (List.getElem?_eq_some_iff.1 hy).1
          have hgw := hAlt.out g rfl
          have hB := hb1.out.size
          replace hy := Lib.hid hy
          replace hym := Lib.hid hym
          replace hfl := Lib.hid hfl
          replace hnum := Lib.hid hnum
          replace hilc := Lib.hid hilc
          clear hbx
          go_wp2_with fail
          refine calls_name (fun wx => RetX M T mc w wx w3.heap.size [.string (BA y.name), .string (BA y.data), .int .i64 y.dur]) ?_ ?_
          · exact RetX.new hQ3.out (by simp) rfl
          intro w6 hX6
          replace hX6 := Lib.hid hX6
          clear d0 d1 d2 ltg k0 k1 k3 ltM c0 lt1 x1 x3 hQ3 hR3 hR
          refine (hX6.out.step fun T' hM => mremove_any hM hmF.out fi hilc.out).mono ?_
          rintro e w7 ⟨rfl, hX7⟩
          replace hX7 := Lib.hid hX7
          clear hX6
          obtain ⟨l1, hl1⟩ : ∃ l1, mc.fs.take fi ++ mc.fs.drop (fi + 1) = l1 := ⟨_, rfl⟩
          have hF1 := Lib.hid (hmF.out.rm fi)
          rw [hl1] at hX7 hF1
          have hll1 := hF1.out.len
          go_wp2_with fail
          refine (hX7.out.read fun T' hM => find_any hM (nameL o.other) hF1.out.len).mono ?_
          rintro e w8 ⟨rfl, hX8⟩
          replace hX8 := Lib.hid hX8
          clear hX7
          dsimp only
          obtain ⟨⟨k2, is2⟩, hk2⟩ : ∃ p, findL l1 (nameL o.other) = p := ⟨_, rfl⟩
          rw [hk2]
          dsimp only
          have hren : Hid (renL mc.fs fi (nameL o.other) = insM (if is2 = true then rmL l1 k2 else l1) ⟨nameL o.other, y.data, y.dur⟩) := by
            unfold Hid renL
            rw [show rmL mc.fs fi = l1 from hl1, hk2, hfl.out]
          have hk3 : Hid (is2 = true → k2 < l1.length) := fun h => by
            obtain ⟨z, hz, _⟩ := findL_true (l := l1) (n := nameL o.other) (by rw [hk2]; exact h)
            rw [hk2] at hz
            exact (List.getElem?_eq_some_iff.1 hz).1
          replace hl1 := Lib.hid hl1
          replace hk2 := Lib.hid hk2
          rcases is2 with _ | _
          · obtain ⟨u8, f8⟩ := hX8.out.box.2 0 _ rfl
            have lt8 := hX8.out.box.lt
            have hXA := Lib.hid (hX8.out.put (i := 0) (v := .string (BA (nameL o.other))) rfl)
            have y0 := (hXA.out.box.2 0 _ rfl).1
            have y1 := (hX8.out.box.2 1 _ rfl).1
            have y2 := (hX8.out.box.2 2 _ rfl).1
            go_wp2_with fail
            refine (hXA.out.ret.step fun T' hM => minsert_any hM hF1.out ⟨nameL o.other, y.data, y.dur⟩).mono ?_
            rintro e wB ⟨rfl, hQB⟩
            replace hQB := Lib.hid hQB
            go_wp2_with fail
            go_ret
            exact RetM.mk (by rw [← hr.out, hren.out]; rfl) rfl hQB.out
          · go_wp2_with fail
            refine (hX8.out.step fun T' hM => mremove_any hM hF1.out k2 (hk3.out (by simp))).mono ?_
            rintro e w8 ⟨rfl, hX9⟩
            clear hX8
            have hX8 := Lib.hid hX9
            replace hF1 := Lib.hid (hF1.out.rm k2)
            clear hX9
            obtain ⟨l2, hl2⟩ : ∃ l2, l1.take k2 ++ l1.drop (k2 + 1) = l2 := ⟨_, rfl⟩
            dsimp only at hX8 hF1
            rw [hl2] at hX8 hF1
            obtain ⟨u8, f8⟩ := hX8.out.box.2 0 _ rfl
            have lt8 := hX8.out.box.lt
            have hXA := Lib.hid (hX8.out.put (i := 0) (v := .string (BA (nameL o.other))) rfl)
            have y0 := (hXA.out.box.2 0 _ rfl).1
            have y1 := (hX8.out.box.2 1 _ rfl).1
            have y2 := (hX8.out.box.2 2 _ rfl).1
            go_wp2_with fail
            refine (hXA.out.ret.step fun T' hM => minsert_any hM hF1.out ⟨nameL o.other, y.data, y.dur⟩).mono ?_
            rintro e wB ⟨rfl, hQB⟩
            replace hQB := Lib.hid hQB
            go_wp2_with fail
            go_ret
            exact RetM.mk (by rw [← hr.out, hren.out]; rw [if_pos trivial, show rmL l1 k2 = l2 from hl2]) rfl hQB.out
        · replace hr := hr.out
          rw [if_neg (by decide), if_neg (by decide), if_neg (by decide), if_neg (by decide), if_neg (by decide)] at hr
          replace hr := Lib.hid hr
          go_wp2_with fail
          refine wp_name (fun wx => RetM M T mc w wx ∧ MdR wx M mc A c ∧ Bx wx w.heap.size o.cells) ⟨hQ3.out, hR3.out, x3.out⟩ ?_
          rintro w5 ⟨hQ5, hR5, x5⟩
          replace hQ5 := Lib.hid hQ5
          replace x5 := Lib.hid x5
          clear hQ3 hR3 x3 x1 c0 lt1 k0 k1 k3 ltM hR
          have hR := hR5
          obtain ⟨y, hy, hfl, hnum, hys, hyd⟩ := hzc.out (by decide)
          obtain ⟨g, rfl, hgM, hbx, d0, d1, d2, ltg⟩ := hR.file hy
          have k3 := (hR.box.2 3 _ rfl).1
          have ltM := hR.box.lt
          have hil := (List.getElem?_eq_some_iff.1 hy).1
          have hbz := BA_size y.data
          have hset := Lib.hid (fcells_set2 y.data.length hy)
          replace hfl := Lib.hid hfl
          replace hbx := Lib.hid hbx
          replace hy := Lib.hid hy
          replace hnum := Lib.hid hnum
          clear d0 hys hyd
          refine wp_region_ord [(0, 1), (1, 1), (2, 1), (3, 1), (4, 1), (5, 1), (6, 1), (7, 1), (8, 1), (9, 1), (10, 1), (11, 1), (12, 1), (13, 1), (14, 1), (15, 1), (16, 3)] [16] 5 (by kernel_rfl) (by decide +kernel) ?_
          simp only [pickO, List.append_eq, List.cons_append, List.nil_append, List.getElem?_cons_succ, List.getElem?_cons_zero]
          intro w0 hG
          (repeat ((first | (with_reducible refine ord_q1 ?_) | (with_reducible refine ord_q0 ?_)); intro K hK; first | (refine Or.inr ⟨?_, ?_⟩; (focus (go_simp; first | done | (simp [undef]; done))); go_simp; (with_reducible refine hK _ ?_); clear hK K) | (refine Or.inl ⟨?_, ?_⟩; (focus (go_simp; done)); apply Exists.intro; refine And.intro ?_ ?_; (focus (first | (intro wq hq; obtain ⟨hcq, hfq⟩ := G.old hq; go_simp; (first | done | exact rfl); done) | (intro wq; go_simp; (first | done | exact rfl); done))); go_simp; (with_reducible refine hK _ ?_); clear hK K) | fail))
          have hR0 := hR.grow hG.b
          have hbx0 := hbx.out.grow hG.b
          have u1 := (hbx0.2 _ _ (fcells_get hy.out).2.2).1
          have fr1 := (hbx0.2 _ _ (fcells_get hy.out).2.2).2
          have ltg0 := hbx0.lt
          have hQ6 := Lib.hid ((RetM.grow hQ5.out hG.b).file hR0 rfl (show fi * 3 + 2 < mc.fs.length * 3 by omega) hset.out).1
          clear hR0 hbx0
          ((with_reducible refine ord_tail ?_); intro K hK; go_simp; (with_reducible refine hK _ _ ?_); clear hK K)
          (with_reducible refine ord_nil ?_)
          go_wp2_with fail
          go_ret
          exact RetM.mk (by rw [← hr.out, hfl.out]) rfl hQ6.out
  · have hne : (fe != 0) = true := by simp [he]
    replace hr := hr.out
    rw [if_pos he] at hr
    go_wp2_with fail
    go_ret
    exact RetM.mk hr.symm rfl (RetM.grow (RetM.refl H.out) hb1)
end
end Go.Proofs.Ytphjgembpcikdaa
