/- device laws: looks. -/
import Derived.Test.YtphjgembpcikdaaRn8
namespace Go.Proofs.Ytphjgembpcikdaa
set_option linter.unusedVariables false
set_option linter.unnecessarySimpa false
set_option linter.unusedSimpArgs false
open Go.RowKit

section
variable {w w' w1 wc wr : World} {M d : Nat} {m m' : Md} {s : Ds} {T S : Nat → Prop} {A : Option Addr} {c i : Nat} {f y z : Fl}
set_option maxRecDepth 20000 in set_option maxHeartbeats 8000000 in
theorem looks_any (h : DevW w d S s) (hg : s.Good) (hM : MdW w M T m) (hfs : m.fs = s.fs) (hdn : m.down = s.down) (hrm : m.room = s.room) (hl : m.fs.length ≤ 1000) :
    Calls Try.prog 34 #[.pointer (some ⟨d, 0, none⟩), .pointer (some ⟨M, 0, none⟩)] w fun e w' => e = .returned (.bool true) ∧ Below w.heap.size w w' := by
  have H := Lib.hid h
  have HM := Lib.hid hM
  have HG := Lib.hid hg
  obtain ⟨A, c, hR, _⟩ := hM
  have HR := Lib.hid hR
  have ltM := hR.box.lt
  have HE := Lib.hid (And.intro hfs (And.intro hdn hrm))
  clear h hg hR
  go_enter Try.func34, Try.ntmps34
  go_wp2_with fail
  refine (list_any H.out HG.out.ok).mono ?_
  rintro e w1 hlist
  unfold RetL at hlist
  rcases hd : s.down with _ | _
  · rw [hd] at hdn
    rcases hlist with ⟨hd', _⟩ | ⟨_, A2, k2, rfl, hrow, hb1⟩
    · rw [hd] at hd'; cases hd'
    have hR1 := HR.out.grow hb1
    have q2 := (hR1.box.2 2 _ rfl).1
    have q3 := (hR1.box.2 3 _ rfl).1
    rw [hdn] at q2
    replace ltM := hR1.box.lt
    obtain ⟨L, hL⟩ : ∃ L, (namesC s.fs).length = L := ⟨_, rfl⟩
    have hLt : s.fs.length = L := by rw [← hL]; unfold namesC; rw [List.length_map]
    have hLm : m.fs.length = L := by rw [hfs]; exact hLt
    rw [hL] at hrow ⊢
    rw [hLm] at q3 hl
    replace hrow := Lib.hid hrow
    have hLm' := Lib.hid hLm
    have hLt' := Lib.hid hLt
    replace hL := Lib.hid hL
    clear hR1 hLm hLt
    have husd := HG.out.ok.us
    have hr0 := HG.out.ok.r0
    have hr1 := HG.out.ok.r1
    have H1 := Lib.hid (H.out.grow hb1)
    have M1 := Lib.hid (HM.out.grow hb1)
    replace hb1 := Lib.hid hb1
    replace hd := Lib.hid hd
    go_wp2_with fail
    refine (free_any H1.out HG.out.ok).mono ?_
    rintro e w2 ⟨rfl, hb2⟩
    rw [show freeD s = s.room - usedC s.fs from by unfold freeD; rw [hd.out]; rfl]
    have H2 := Lib.hid (H1.out.grow hb2)
    have M2 := Lib.hid (M1.out.grow hb2)
    replace hrow := Lib.hid (own_grow hrow.out hb2)
    replace hb2 := Lib.hid (G.trans hb1.out hb2)
    clear H1 M1
    go_wp2_with fail
    refine (mfree_any M2.out (by rw [hLm'.out]; exact hl) (by rw [HE.out.2.2]; exact ⟨hr0, hr1⟩) (by rw [HE.out.1]; omega)).mono ?_
    rintro e w3 ⟨rfl, hb3⟩
    rw [HE.out.1, HE.out.2.2]
    have H3 := Lib.hid (H2.out.grow hb3)
    replace hrow := Lib.hid (own_grow hrow.out hb3)
    replace hb3 := Lib.hid (G.trans hb2.out hb3)
    clear H2 M2
    go_wp2_with fail
    refine (down_any H3.out).mono ?_
    rintro e w4 ⟨he, hw⟩
    subst hw
    rw [hd.out] at he
    subst he
    go_wp2_with fail
    go_loopw [7] (fun iv wr => ∃ i : Nat, i ≤ L ∧ iv = .int .i64 i ∧ Below w4.heap.size w4 wr) (fun iv _ => L - (intOf iv).toNat)
    case atStart => exact ⟨0, Nat.zero_le _, rfl, G.refl _⟩
    case round =>
      obtain ⟨i, hi, rfl, hbr⟩ := hrel
      by_cases hil : i < L
      · obtain ⟨f, hf⟩ : ∃ f, s.fs[i]? = some f := ⟨_, List.getElem?_eq_getElem (by rw [hLt'.out]; exact hil)⟩
        have hfm : m.fs[i]? = some f := by rw [HE.out.1]; exact hf
        have hRr := HR.out.grow (G.trans hb3.out hbr)
        obtain ⟨g, rfl, hgM, hbx, d0, d1, d2, ltg⟩ := hRr.file hfm
        have q3 := (hRr.box.2 3 _ rfl).1
        rw [hLm'.out] at q3
        replace ltM := hRr.box.lt
        obtain ⟨b, off, rfl, hbl, hcell⟩ := (Sl.of_own1 (own_grow hrow.out hbr)).2 (by omega)
        have k1 := hcell i _ (strs_get hf)
        have Dr := H3.out.grow hbr
        have hnl := Dr.names f (List.mem_of_getElem? hf)
        have hszf := HG.out.ok.sz f (List.mem_of_getElem? hf)
        have hre := read_at HG.out.uq hd.out hf (Nat.le_refl _)
        rw [List.take_length] at hre
        have RD := Lib.hid (show ∀ wx, Below wr.heap.size wr wx → Calls Try.prog 17 #[.pointer (some ⟨d, 0, none⟩), .string (BA f.name), .int .i64 0, .int .i64 f.data.length] wx fun e w' => e = .returned (.tuple #[.string (BA f.data), .int .i64 0]) ∧ Below wx.heap.size wx w' from fun wx hb => (read_any (Dr.grow hb) HG.out.ok (BA f.name) hnl 0 f.data.length (by decide)).mono fun e w' hh => by
          unfold RetR at hh
          rw [BA_data, hre] at hh
          exact hh)
        have hdu := dur_at HG.out.uq hd.out hf
        have DU := Lib.hid (show ∀ wx, Below wr.heap.size wr wx → Calls Try.prog 31 #[.pointer (some ⟨d, 0, none⟩), .string (BA f.name)] wx fun e w' => e = .returned (.tuple #[.int .i64 f.dur, .int .i64 0]) ∧ w' = wx from fun wx hb => (dur_any (Dr.grow hb) (BA f.name) hnl).mono fun e w' hh => by
          rw [BA_data, hdu] at hh
          exact hh)
        have hbz := BA_size f.data
        replace hre := Lib.hid hre
        replace hdu := Lib.hid hdu
        replace hf := Lib.hid hf
        replace hfm := Lib.hid hfm
        have hlo : (0 : Int) ≤ (f.data.length : Int) := by omega
        clear hRr hbx Dr hcell hnl
        go_wp2_with fail
        refine wp_name (fun wx => Below wr.heap.size wr wx ∧ Bx wx wr.heap.size [.string (BA f.name), .string (BA f.data), .int .i64 f.dur]) ⟨by repeat (first | with_reducible assumption | with_reducible exact G.refl _ | with_reducible refine G.drew ?_ | with_reducible refine G.drewN ?_ _ | with_reducible refine G.alloc ?_ _ | with_reducible refine Below.setCell ?_ (by first | (simp; done) | (simp; omega)) _ | with_reducible refine G.trans ?_ hb12 | with_reducible refine G.trans ?_ hb11 | with_reducible refine G.trans ?_ hb10 | with_reducible refine G.trans ?_ hb9 | with_reducible refine G.trans ?_ hb8 | with_reducible refine G.trans ?_ hb7 | with_reducible refine G.trans ?_ hb6 | with_reducible refine G.trans ?_ hb5 | with_reducible refine G.trans ?_ hb4 | with_reducible refine G.trans ?_ hb3 | with_reducible refine G.trans ?_ hb2 | with_reducible refine G.trans ?_ hb1 | with_reducible refine G.trans ?_ hb | assumption), Bx.new rfl rfl⟩ ?_
        rintro w5 ⟨hb5, x5⟩
        replace k1 := G.cell k1 hb5
        replace hbl := cell_lt k1
        dsimp only at hbl
        have e0 := (x5.2 0 _ rfl).1
        have e1 := (x5.2 1 _ rfl).1
        have e2 := (x5.2 2 _ rfl).1
        have lt5 := x5.lt
        clear x5 d0 d1 d2 ltg q3 ltM
        refine wp_region_ord [(0, 1), (1, 1), (2, 1), (3, 1), (4, 1), (5, 1), (6, 1), (7, 1), (8, 2), (9, 1), (10, 1), (11, 1), (12, 1), (13, 1)] [] 5 (by kernel_rfl) (by decide +kernel) ?_
        simp only [pickO, List.append_eq, List.cons_append, List.nil_append, List.getElem?_cons_succ, List.getElem?_cons_zero]
        intro w0 hG
        (repeat ((first | (with_reducible refine ord_q1 ?_) | (with_reducible refine ord_q0 ?_)); intro K hK; first | (refine Or.inr ⟨?_, ?_⟩; (focus (go_simp; first | done | (simp [undef]; done))); go_simp; (with_reducible refine hK _ ?_); clear hK K) | (refine Or.inl ⟨?_, ?_⟩; (focus (go_simp; done)); apply Exists.intro; refine And.intro ?_ ?_; (focus (first | (intro wq hq; obtain ⟨hcq, hfq⟩ := G.old hq; go_simp; (first | done | exact rfl); done) | (intro wq; go_simp; (first | done | exact rfl); done))); go_simp; (with_reducible refine hK _ ?_); clear hK K) | fail))
        (with_reducible refine ord_run ?_ hG)
        intro K hK
        go_simp
        go_at_call 17; (with_reducible refine (RD.out _ (G.trans hb5 hG.b)).mono ?_); rintro e w6 ⟨rfl, hb⟩
        replace hG := Grew.trans hG hb
        (try dsimp only)
        (with_reducible refine hK _ _ hG ?_)
        clear hK K
        (repeat ((first | (with_reducible refine ord_q1 ?_) | (with_reducible refine ord_q0 ?_)); intro K hK; first | (refine Or.inr ⟨?_, ?_⟩; (focus (go_simp; first | done | (simp [undef]; done))); go_simp; (with_reducible refine hK _ ?_); clear hK K) | (refine Or.inl ⟨?_, ?_⟩; (focus (go_simp; done)); apply Exists.intro; refine And.intro ?_ ?_; (focus (first | (intro wq hq; obtain ⟨hcq, hfq⟩ := G.old hq; go_simp; (first | done | exact rfl); done) | (intro wq; go_simp; (first | done | exact rfl); done))); go_simp; (with_reducible refine hK _ ?_); clear hK K) | fail))
        (with_reducible refine ord_nil ?_)
        have hb6 := G.trans hb5 hG.b
        replace k1 := G.cell k1 hG.b
        replace hbl := cell_lt k1
        replace e0 := G.cell e0 hG.b
        replace e1 := G.cell e1 hG.b
        replace e2 := G.cell e2 hG.b
        replace lt5 := cell_lt e0
        dsimp only at hbl lt5
        clear hG hb5
        go_wp2_with fail
        refine (DU.out _ hb6).mono ?_
        rintro e w7 ⟨rfl, hw⟩
        subst hw
        go_wp2_with fail
        refine wp_region_ord [(0, 1), (1, 1), (2, 1), (3, 1), (4, 1), (5, 1), (6, 1), (7, 1), (8, 1), (9, 1), (10, 1), (11, 1), (12, 1), (13, 1), (14, 1), (15, 1), (16, 1), (17, 1), (18, 1), (19, 1), (20, 1), (21, 1), (22, 1), (23, 1), (24, 1), (25, 1), (26, 1)] [] 5 (by kernel_rfl) (by decide +kernel) ?_
        simp only [pickO, List.append_eq, List.cons_append, List.nil_append, List.getElem?_cons_succ, List.getElem?_cons_zero]
        intro w0 hG
        (repeat ((first | (with_reducible refine ord_q1 ?_) | (with_reducible refine ord_q0 ?_)); intro K hK; first | (refine Or.inr ⟨?_, ?_⟩; (focus (go_simp; first | done | (simp [undef]; done))); go_simp; (with_reducible refine hK _ ?_); clear hK K) | (refine Or.inl ⟨?_, ?_⟩; (focus (go_simp; done)); apply Exists.intro; refine And.intro ?_ ?_; (focus (first | (intro wq hq; obtain ⟨hcq, hfq⟩ := G.old hq; go_simp; (first | done | exact rfl); done) | (intro wq; go_simp; (first | done | exact rfl); done))); go_simp; (with_reducible refine hK _ ?_); clear hK K) | fail))
        (with_reducible refine ord_nil ?_)
        go_wp2_with fail
        go_roundw
        case rel => exact ⟨i + 1, by omega, by go_num, G.trans hbr (G.trans hb6 hG.b)⟩
        case measure => simp [intOf]; omega
      · obtain rfl : i = L := by omega
        go_wp2_with fail
        go_ret
        exact ⟨rfl, G.trans hb3.out hbr⟩
  · rw [hd] at hdn
    rcases hlist with hlist | ⟨hd', _⟩
    rotate_left
    · rw [hd] at hd'; cases hd'
    obtain ⟨_, rfl, hb1⟩ := hlist
    have hR1 := HR.out.grow hb1
    have q2 := (hR1.box.2 2 _ rfl).1
    rw [hdn] at q2
    replace ltM := hR1.box.lt
    have H1 := Lib.hid (H.out.grow hb1)
    replace hb1 := Lib.hid hb1
    replace hd := Lib.hid hd
    clear hR1
    go_wp2_with fail
    refine (free_any H1.out HG.out.ok).mono ?_
    rintro e w2 ⟨rfl, hb2⟩
    rw [show freeD s = 0 from by unfold freeD; rw [hd.out]; rfl]
    have H2 := Lib.hid (H1.out.grow hb2)
    replace hb2 := Lib.hid hb2
    go_wp2_with fail
    refine (down_any H2.out).mono ?_
    rintro e w3 ⟨he, hw⟩
    subst hw
    rw [hd.out] at he
    subst he
    go_wp2_with fail
    go_ret
    exact ⟨rfl, G.trans hb1.out hb2.out⟩
end
end Go.Proofs.Ytphjgembpcikdaa
