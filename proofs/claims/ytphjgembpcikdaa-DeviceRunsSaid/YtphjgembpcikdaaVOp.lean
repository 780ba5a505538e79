/- device laws: operate. -/
import Derived.Test.YtphjgembpcikdaaVOp0
namespace Go.Proofs.Ytphjgembpcikdaa
set_option linter.unusedVariables false
set_option linter.unnecessarySimpa false
set_option linter.unusedSimpArgs false
open Go.RowKit

def LOp.val (o : LOp) : Value := .agg #[.int .u8 o.kind, .int .u8 o.name, .int .u8 o.other, .int .u8 o.data, .int .i64 o.num]
structure LOp.Fit (o : LOp) : Prop where
  kind : o.kind ≤ 255
  name : o.name ≤ 255
  other : o.other ≤ 255
  data : o.data ≤ 255
  lo : -9223372036854775808 ≤ o.num
  hi : o.num ≤ 9223372036854775807
theorem nameL_len (n : Nat) : (nameB n).size ≤ 8 := by
  unfold nameB
  split <;> decide
theorem nameB_max (n : Nat) : (nameB n).size ≤ maxLen := by have := nameL_len n; unfold maxLen; omega
theorem BA_max (k m : Nat) : (BA (dataL k (m % 64))).size ≤ 64 := by
  show (dataL k (m % 64)).toArray.size ≤ 64
  rw [List.size_toArray, dataL_len]
  omega
section
variable {w w' w1 : World} {d mb : Nat} {s s' : Ds} {fs : List FR} {r q x : FR} {S : Nat → Prop} {n : List UInt8}
set_option maxRecDepth 20000 in set_option maxHeartbeats 2000000 in
theorem operate_any (h : DevW w d S s) (hg : s.Good) (o : LOp) (ho : o.Fit) (k : Nat) (hk : k ≤ 1000) : Calls Try.prog 24 #[.pointer (some ⟨d, 0, none⟩), o.val, .int .i64 k] w (RetE d S (operD s o k) w) := by
  have H := Lib.hid h
  have hn8 := ho.name
  have hd8 := ho.data
  have ho8 := ho.other
  have hlo := ho.lo
  have hhi := ho.hi
  obtain ⟨R, hr⟩ : ∃ R, operD s o k = R := ⟨_, rfl⟩
  rw [hr]
  unfold operD at hr
  obtain ⟨kd, nm, ot, dt, nu⟩ := o
  dsimp only at *
  unfold LOp.val
  dsimp only
  obtain ⟨j, hj⟩ : ∃ j, kd % 6 = j := ⟨_, rfl⟩
  have hj6 : j < 6 := by omega
  have hm : (kd : Int) % 6 = (j : Int) := by omega
  have hwk : IntKind.i64.wrap (kd : Int) = (kd : Int) := by rw [IntWalk.i64_in _ (by have := ho.kind; dsimp only at this; omega)]
  rw [hj] at hr
  clear hj ho h
  replace hr := Lib.hid hr
  have OKG := Lib.hid hg.ok
  go_enter Try.func24, Try.ntmps24
  go_wp2_with fail
  refine wp_name (fun wx => Below w.heap.size w wx ∧ Bx wx w.heap.size [.int .u8 kd, .int .u8 nm, .int .u8 ot, .int .u8 dt, .int .i64 nu]) ⟨by repeat (first | with_reducible assumption | with_reducible exact G.refl _ | with_reducible refine G.drew ?_ | with_reducible refine G.drewN ?_ _ | with_reducible refine G.alloc ?_ _ | with_reducible refine Below.setCell ?_ (by first | (simp; done) | (simp; omega)) _ | with_reducible refine G.trans ?_ hb12 | with_reducible refine G.trans ?_ hb11 | with_reducible refine G.trans ?_ hb10 | with_reducible refine G.trans ?_ hb9 | with_reducible refine G.trans ?_ hb8 | with_reducible refine G.trans ?_ hb7 | with_reducible refine G.trans ?_ hb6 | with_reducible refine G.trans ?_ hb5 | with_reducible refine G.trans ?_ hb4 | with_reducible refine G.trans ?_ hb3 | with_reducible refine G.trans ?_ hb2 | with_reducible refine G.trans ?_ hb1 | with_reducible refine G.trans ?_ hb | assumption), by repeat (first | with_reducible assumption | (with_reducible exact Bx.new (by simp; done) (by rfl)) | (with_reducible refine Bx.alloc ?_ _) | (with_reducible refine Bx.drewN ?_ _) | ((with_reducible apply Bx.put); rotate_right; (first | rfl | skip)) | (with_reducible refine Bx.other ?_ (by first | (simp; done) | (simp; omega)) _))⟩ ?_
  rintro w1 ⟨hb1, x1⟩
  have c0 := (x1.2 0 _ rfl).1
  have c1 := (x1.2 1 _ rfl).1
  have c2 := (x1.2 2 _ rfl).1
  have c3 := (x1.2 3 _ rfl).1
  have c4 := (x1.2 4 _ rfl).1
  have lt1 := x1.lt
  clear x1
  refine wp_region_ord [(0, 1), (1, 1), (3, 1), (4, 1), (5, 1), (2, 2), (6, 2), (7, 1), (8, 1)] [] 5 (by kernel_rfl) (by decide +kernel) ?_
  simp only [pickO, List.append_eq, List.cons_append, List.nil_append, List.getElem?_cons_succ, List.getElem?_cons_zero]
  intro w0 hG
  (repeat ((first | (with_reducible refine ord_q1 ?_) | (with_reducible refine ord_q0 ?_)); intro K hK; first | (refine Or.inr ⟨?_, ?_⟩; (focus (go_simp; first | done | (simp [undef]; done))); go_simp; (with_reducible refine hK _ ?_); clear hK K) | (refine Or.inl ⟨?_, ?_⟩; (focus (go_simp; done)); apply Exists.intro; refine And.intro ?_ ?_; (focus (first | (intro wq hq; obtain ⟨hcq, hfq⟩ := G.old hq; go_simp; (first | done | exact rfl); done) | (intro wq; go_simp; (first | done | exact rfl); done))); go_simp; (with_reducible refine hK _ ?_); clear hK K) | fail))
  (with_reducible refine ord_run ?_ hG)
  intro K hK
  go_simp
  go_at_call 46; (with_reducible refine (nameOf_any nm hn8 _).mono ?_); rintro e w2 ⟨rfl, hb⟩
  replace hG := Grew.trans hG hb
  (try dsimp only)
  (with_reducible refine hK _ _ hG ?_)
  clear hK K
  (repeat ((first | (with_reducible refine ord_q1 ?_) | (with_reducible refine ord_q0 ?_)); intro K hK; first | (refine Or.inr ⟨?_, ?_⟩; (focus (go_simp; first | done | (simp [undef]; done))); go_simp; (with_reducible refine hK _ ?_); clear hK K) | (refine Or.inl ⟨?_, ?_⟩; (focus (go_simp; done)); apply Exists.intro; refine And.intro ?_ ?_; (focus (first | (intro wq hq; obtain ⟨hcq, hfq⟩ := G.old hq; go_simp; (first | done | exact rfl); done) | (intro wq; go_simp; (first | done | exact rfl); done))); go_simp; (with_reducible refine hK _ ?_); clear hK K) | fail))
  (with_reducible refine ord_run ?_ hG)
  intro K hK
  go_simp
  go_at_call 47; (with_reducible refine (dataOf_any dt k hd8 hk _).mono ?_); rintro e w2 ⟨rfl, hb⟩
  replace hG := Grew.trans hG hb
  (try dsimp only)
  (with_reducible refine hK _ _ hG ?_)
  clear hK K
  (repeat ((first | (with_reducible refine ord_q1 ?_) | (with_reducible refine ord_q0 ?_)); intro K hK; first | (refine Or.inr ⟨?_, ?_⟩; (focus (go_simp; first | done | (simp [undef]; done))); go_simp; (with_reducible refine hK _ ?_); clear hK K) | (refine Or.inl ⟨?_, ?_⟩; (focus (go_simp; done)); apply Exists.intro; refine And.intro ?_ ?_; (focus (first | (intro wq hq; obtain ⟨hcq, hfq⟩ := G.old hq; go_simp; (first | done | exact rfl); done) | (intro wq; go_simp; (first | done | exact rfl); done))); go_simp; (with_reducible refine hK _ ?_); clear hK K) | fail))
  (with_reducible refine ord_nil ?_)
  have hbg := hG.b
  replace c0 := G.cell c0 hbg
  replace c2 := G.cell c2 hbg
  replace c4 := G.cell c4 hbg
  replace lt1 := cell_lt c0
  dsimp only at lt1
  have H2 := Lib.hid (H.out.grow (G.trans hb1 hbg))
  have hbw := Lib.hid (G.trans hb1 hbg)
  clear hG c1 c3
  have hkk : j = 0 ∨ j = 1 ∨ j = 2 ∨ j = 3 ∨ j = 4 ∨ j = 5 := by omega
  clear hj6
  rcases hkk with rfl | rfl | rfl | rfl | rfl | rfl
  all_goals
    simp only [Int.ofNat_zero, Int.natCast_one, Int.cast_ofNat_Int] at hm
    replace hr := hr.out
    (try dsimp only at hr)
    replace hr := Lib.hid hr
  · go_wp2_with fail
    refine (create_any H2.out (nameB nm) (nameB_max nm)).mono ?_
    rintro e w3 ⟨rfl, h3⟩
    go_wp2_with fail
    go_ret
    exact RetE.mk (by rw [← hr.out]; rfl) rfl (h3.after (DChg.of_below hbw.out))
  · go_wp2_with fail
    refine (append_any H2.out OKG.out (nameB nm) (BA (dataL k (dt % 64))) (nameB_max nm) (by have := BA_max k dt; omega)).mono ?_
    rintro e w3 ⟨rfl, h3⟩
    go_wp2_with fail
    go_ret
    exact RetE.mk (by rw [← hr.out]; rfl) rfl (h3.after (DChg.of_below hbw.out))
  · go_wp2_with fail
    refine (trunc_any H2.out OKG.out (nameB nm) (nameB_max nm) nu).mono ?_
    rintro e w3 ⟨rfl, h3⟩
    go_wp2_with fail
    go_ret
    exact RetE.mk (by rw [← hr.out]; rfl) rfl (h3.after (DChg.of_below hbw.out))
  · go_wp2_with fail
    refine (remove_any H2.out (nameB nm) (nameB_max nm)).mono ?_
    rintro e w3 ⟨rfl, h3⟩
    go_wp2_with fail
    go_ret
    exact RetE.mk (by rw [← hr.out]; rfl) rfl (h3.after (DChg.of_below hbw.out))
  · go_wp2_with fail
    refine (nameOf_any ot ho8 _).mono ?_
    rintro e w4 ⟨rfl, hb4⟩
    replace H2 := Lib.hid (H2.out.grow hb4)
    replace hbw := Lib.hid (G.trans hbw.out hb4)
    go_wp2_with fail
    refine (rename_any H2.out OKG.out (nameB nm) (nameB ot) (nameB_max nm) (nameB_max ot)).mono ?_
    rintro e w3 ⟨rfl, h3⟩
    go_wp2_with fail
    go_ret
    exact RetE.mk (by rw [← hr.out]; rfl) rfl (h3.after (DChg.of_below hbw.out))
  · go_wp2_with fail
    refine (sync_any H2.out (nameB nm) (nameB_max nm)).mono ?_
    rintro e w3 ⟨rfl, h3⟩
    go_wp2_with fail
    go_ret
    exact RetE.mk (by rw [← hr.out]; rfl) rfl (h3.after (DChg.of_below hbw.out))
end
end Go.Proofs.Ytphjgembpcikdaa
