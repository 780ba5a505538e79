/- ChannelChecks returns true: the walk. -/
import Derived.Test.YtjldpodehffbnaaCLaw1
namespace Go.Proofs.Ytjldpodehffbnaa
set_option linter.unusedVariables false
set_option linter.unnecessarySimpa false
set_option linter.unusedSimpArgs false
open Go.RowKit

/-- One operation, made by the law. -/
theorem ops_one {ok : Nat → Prop} {w : World} {B : Nat} {cs : List Value} {it : It} {t : TypeId} (hB : B = w.heap.size) (h : ItemV ok w cs it) (ho : ok B) (hl : cs.length = 11) :
    OpsV ok (w.alloc (.cells (.int .u8 0 :: cs).toArray t)) (some ⟨B, 0, none⟩) 1 1 (.int .u8 0 :: cs) [(0, it)] := by
  refine ⟨⟨Nat.le_refl _, by unfold maxLen; omega, Sl.new hB (by simp [hl]), fun _ ad e => by cases e; exact ho⟩, rfl, fun j k it' hj => ?_⟩
  rcases j with _ | j
  · cases hj
    refine ⟨cs, ?_, h.grow (G.alloc (G.refl _) _)⟩
    rw [Nat.zero_mul, List.drop_zero, List.take_of_length_le (by simp [hl])]
  · simp at hj
theorem smallL_one (it : It) : smallL [(0, it)] = smallI it := by simp [smallL]
theorem cmpS_self (e : Int) (p : List Int) : cmpS e p e p = 0 := cmpS_zero.2 ⟨rfl, rfl⟩
set_option maxRecDepth 20000 in set_option maxHeartbeats 2000000 in
theorem channelChecks_any {w : World} {cs : List Value} {it : It} (h : ItemV (fun _ => True) w cs it) :
    Calls Try.prog 3 #[.agg cs.toArray] w fun e w' => e = .returned (.bool true) ∧ Below w.heap.size w w' := by
  obtain ⟨z0, A5, n5, c5', z1, A6, n6, c6', z2, z3, z4, z5, A7, n7, c7', A8, n8, c8', A9, n9, c9', rfl⟩ := item_cells h
  have H := Lib.hid h
  clear h
  go_enter Try.func3, Try.ntmps3
  go_wp2_with fail
  refine (known_any _).mono ?_
  rintro e1 w1 ⟨rfl, hb1⟩
  have x1 : Bx w1 w.heap.size [.int .i64 z0, .slice A5 n5 c5', .int .i64 z1, .slice A6 n6 c6', .int .i64 z2, .int .i64 z3, .int .i64 z4, .string z5, .slice A7 n7 c7', .slice A8 n8 c8', .slice A9 n9 c9'] := Bx.grow (by repeat (first | with_reducible assumption | (with_reducible exact Bx.new (by simp; done) (by rfl)) | (with_reducible refine Bx.alloc ?_ _) | (with_reducible refine Bx.drewN ?_ _) | ((with_reducible apply Bx.put); rotate_right; (first | rfl | skip)) | (with_reducible refine Bx.other ?_ (by first | (simp; done) | (simp; omega)) _))) hb1
  have hbw1 : Below w.heap.size w w1 := G.trans (by repeat (first | with_reducible assumption | with_reducible exact G.refl _ | with_reducible refine G.drew ?_ | with_reducible refine G.drewN ?_ _ | with_reducible refine G.alloc ?_ _ | with_reducible refine Below.setCell ?_ (by first | (simp; done) | (simp; omega)) _ | with_reducible refine G.trans ?_ hb12 | with_reducible refine G.trans ?_ hb11 | with_reducible refine G.trans ?_ hb10 | with_reducible refine G.trans ?_ hb9 | with_reducible refine G.trans ?_ hb8 | with_reducible refine G.trans ?_ hb7 | with_reducible refine G.trans ?_ hb6 | with_reducible refine G.trans ?_ hb5 | with_reducible refine G.trans ?_ hb4 | with_reducible refine G.trans ?_ hb3 | with_reducible refine G.trans ?_ hb2 | with_reducible refine G.trans ?_ hb1 | with_reducible refine G.trans ?_ hb | assumption)) hb1
  obtain ⟨c0, c1, c2, c3, c4, c5, c6, c7, c8, c9, c10⟩ := x1.c11
  replace H := Lib.hid (H.out.grow hbw1)
  clear hb1
  go_wp2_with fail
  refine (small_any (ops_one rfl H.out trivial rfl)).mono ?_
  rw [smallL_one]
  rintro e2 w2 ⟨rfl, hb2⟩
  have hb12 : Below w1.heap.size w1 w2 := G.trans (by repeat (first | with_reducible assumption | with_reducible exact G.refl _ | with_reducible refine G.drew ?_ | with_reducible refine G.drewN ?_ _ | with_reducible refine G.alloc ?_ _ | with_reducible refine Below.setCell ?_ (by first | (simp; done) | (simp; omega)) _ | with_reducible refine G.trans ?_ hb12 | with_reducible refine G.trans ?_ hb11 | with_reducible refine G.trans ?_ hb10 | with_reducible refine G.trans ?_ hb9 | with_reducible refine G.trans ?_ hb8 | with_reducible refine G.trans ?_ hb7 | with_reducible refine G.trans ?_ hb6 | with_reducible refine G.trans ?_ hb5 | with_reducible refine G.trans ?_ hb4 | with_reducible refine G.trans ?_ hb3 | with_reducible refine G.trans ?_ hb2 | with_reducible refine G.trans ?_ hb1 | with_reducible refine G.trans ?_ hb | assumption)) hb2
  have hbw2 := G.trans hbw1 hb12
  replace H := Lib.hid (H.out.grow hb12)
  replace x1 := x1.grow hb12
  clear hb2 hb12 c0 c1 c2 c3 c4 c5 c6 c7 c8 c9 c10
  rcases smallI it with _ | _
  · go_wp2_with fail
    refine (known_any _).mono ?_
    rintro e3 w3 ⟨rfl, hb3⟩
    go_wp2_with fail
    go_ret
    exact ⟨rfl, G.trans hbw2 hb3⟩
  · go_wp2_with fail
    obtain ⟨c0, c1, c2, c3, c4, c5, c6, c7, c8, c9, c10⟩ := x1.c11
    have lt1 := x1.lt
    obtain ⟨v, hv⟩ : ∃ v, chkI (zeroC [.int .i64 z0, .slice A5 n5 c5', .int .i64 z1, .slice A6 n6 c6', .int .i64 z2, .int .i64 z3, .int .i64 z4, .string z5, .slice A7 n7 c7', .slice A8 n8 c8', .slice A9 n9 c9']) it = v := ⟨_, rfl⟩
    have CK := fun w' (hb : Below w2.heap.size w2 w') => icheck_any (H.out.grow hb)
    have LK := fun w' (hb : Below w2.heap.size w2 w') => lcheck_any (H.out.grow hb)
    rw [hv] at CK LK
    replace CK := Lib.hid CK
    replace LK := Lib.hid LK
    clear hv
    refine wp_region_ord [(0, 1), (2, 1), (1, 2), (3, 2), (4, 1), (5, 1), (6, 1), (8, 1), (7, 2), (9, 2), (10, 2), (11, 1), (12, 1)] [] 5 (by kernel_rfl) (by decide +kernel) ?_
    simp only [pickO, List.append_eq, List.cons_append, List.nil_append, List.getElem?_cons_succ, List.getElem?_cons_zero]
    intro w0 hG
    (repeat ((first | (with_reducible refine ord_q1 ?_) | (with_reducible refine ord_q0 ?_)); intro K hK; first | (refine Or.inr ⟨?_, ?_⟩; (focus (go_simp; first | done | (simp [undef]; done))); go_simp; (with_reducible refine hK _ ?_); clear hK K) | (refine Or.inl ⟨?_, ?_⟩; (focus (go_simp; done)); apply Exists.intro; refine And.intro ?_ ?_; (focus (first | (intro wq hq; obtain ⟨hcq, hfq⟩ := G.old hq; go_simp; (first | done | exact rfl); done) | (intro wq; go_simp; (first | done | exact rfl); done))); go_simp; (with_reducible refine hK _ ?_); clear hK K) | fail))
    (with_reducible refine ord_run ?_ hG)
    intro K hK
    go_simp
    go_at_call 13; (with_reducible refine (CK.out _ hG.b).mono ?_); rintro e' w3 ⟨rfl, hb3⟩
    replace hG := Grew.trans hG hb3
    (try dsimp only)
    (with_reducible refine hK _ _ hG ?_)
    clear hK K
    (repeat ((first | (with_reducible refine ord_q1 ?_) | (with_reducible refine ord_q0 ?_)); intro K hK; first | (refine Or.inr ⟨?_, ?_⟩; (focus (go_simp; first | done | (simp [undef]; done))); go_simp; (with_reducible refine hK _ ?_); clear hK K) | (refine Or.inl ⟨?_, ?_⟩; (focus (go_simp; done)); apply Exists.intro; refine And.intro ?_ ?_; (focus (first | (intro wq hq; obtain ⟨hcq, hfq⟩ := G.old hq; go_simp; (first | done | exact rfl); done) | (intro wq; go_simp; (first | done | exact rfl); done))); go_simp; (with_reducible refine hK _ ?_); clear hK K) | fail))
    (with_reducible refine ord_run ?_ hG)
    intro K hK
    go_simp
    go_at_call 14; (with_reducible refine (LK.out _ hG.b).mono ?_); rintro e' w4 ⟨rfl, hb4⟩
    replace hG := Grew.trans hG hb4
    (try dsimp only)
    (with_reducible refine hK _ _ hG ?_)
    clear hK K
    (repeat ((first | (with_reducible refine ord_q1 ?_) | (with_reducible refine ord_q0 ?_)); intro K hK; first | (refine Or.inr ⟨?_, ?_⟩; (focus (go_simp; first | done | (simp [undef]; done))); go_simp; (with_reducible refine hK _ ?_); clear hK K) | (refine Or.inl ⟨?_, ?_⟩; (focus (go_simp; done)); apply Exists.intro; refine And.intro ?_ ?_; (focus (first | (intro wq hq; obtain ⟨hcq, hfq⟩ := G.old hq; go_simp; (first | done | exact rfl); done) | (intro wq; go_simp; (first | done | exact rfl); done))); go_simp; (with_reducible refine hK _ ?_); clear hK K) | fail))
    (with_reducible refine ord_run ?_ hG)
    intro K hK
    go_simp
    go_at_call 16; (with_reducible refine (stampc_any H.out hG.b).mono ?_); rintro e' w5 ⟨A', c', rfl, hp5, hb5⟩
    replace hG := Grew.trans hG hb5
    (try dsimp only)
    (with_reducible refine hK _ _ hG ?_)
    clear hK K
    (repeat ((first | (with_reducible refine ord_q1 ?_) | (with_reducible refine ord_q0 ?_)); intro K hK; first | (refine Or.inr ⟨?_, ?_⟩; (focus (go_simp; first | done | (simp [undef]; done))); go_simp; (with_reducible refine hK _ ?_); clear hK K) | (refine Or.inl ⟨?_, ?_⟩; (focus (go_simp; done)); apply Exists.intro; refine And.intro ?_ ?_; (focus (first | (intro wq hq; obtain ⟨hcq, hfq⟩ := G.old hq; go_simp; (first | done | exact rfl); done) | (intro wq; go_simp; (first | done | exact rfl); done))); go_simp; (with_reducible refine hK _ ?_); clear hK K) | fail))
    (with_reducible refine ord_run ?_ hG)
    intro K hK
    go_simp
    go_at_call 17; (with_reducible refine (ofc_any H.out hG.b).mono ?_); rintro e' w6 ⟨A2, n2, c2', rfl, hp6, hb6⟩
    replace hG := Grew.trans hG hb6
    (try dsimp only)
    (with_reducible refine hK _ _ hG ?_)
    clear hK K
    (repeat ((first | (with_reducible refine ord_q1 ?_) | (with_reducible refine ord_q0 ?_)); intro K hK; first | (refine Or.inr ⟨?_, ?_⟩; (focus (go_simp; first | done | (simp [undef]; done))); go_simp; (with_reducible refine hK _ ?_); clear hK K) | (refine Or.inl ⟨?_, ?_⟩; (focus (go_simp; done)); apply Exists.intro; refine And.intro ?_ ?_; (focus (first | (intro wq hq; obtain ⟨hcq, hfq⟩ := G.old hq; go_simp; (first | done | exact rfl); done) | (intro wq; go_simp; (first | done | exact rfl); done))); go_simp; (with_reducible refine hK _ ?_); clear hK K) | fail))
    (with_reducible refine ord_run ?_ hG)
    intro K hK
    go_simp
    go_at_call 15; (with_reducible refine (equal_any it.e it.e A' A2 it.p.length n2 c' c2' it.p it.p _ (hp5.sl.grow hb6) hp6.sl hp5.max).mono ?_); rintro e' w7 ⟨rfl, hb7⟩; rw [cmpS_self]
    replace hG := Grew.trans hG hb7
    (try dsimp only)
    (with_reducible refine hK _ _ hG ?_)
    clear hK K
    (repeat ((first | (with_reducible refine ord_q1 ?_) | (with_reducible refine ord_q0 ?_)); intro K hK; first | (refine Or.inr ⟨?_, ?_⟩; (focus (go_simp; first | done | (simp [undef]; done))); go_simp; (with_reducible refine hK _ ?_); clear hK K) | (refine Or.inl ⟨?_, ?_⟩; (focus (go_simp; done)); apply Exists.intro; refine And.intro ?_ ?_; (focus (first | (intro wq hq; obtain ⟨hcq, hfq⟩ := G.old hq; go_simp; (first | done | exact rfl); done) | (intro wq; go_simp; (first | done | exact rfl); done))); go_simp; (with_reducible refine hK _ ?_); clear hK K) | fail))
    (with_reducible refine ord_nil ?_)
    go_wp2_with fail
    go_ret
    exact ⟨rfl, G.trans hbw2 hG.b⟩
end Go.Proofs.Ytjldpodehffbnaa
