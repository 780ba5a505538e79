/- lexer's laws: Same (LexerSame). -/
import Derived.Test.YtmchiibbodllaaaDoorTkO
import Derived.Test.YtmchiibbodllaaaDoorLKnown
namespace Go.Proofs.YtmchiibbodllaaaDoor
set_option linter.unusedVariables false
set_option linter.unnecessarySimpa false
set_option linter.unusedSimpArgs false
open Go.RowKit

section
variable {w : World} {A A' : Option Addr} {n c m d : Nat} {ar br : List Tn}
set_option maxRecDepth 20000 in set_option maxHeartbeats 4000000 in
theorem lexerSame_w (hE : Env w) (hA : TksW w A n c ar) (hB : TksW w A' m d br) : Calls Tryd.prog 4 #[.slice A n c, .slice A' m d] w fun e w' => e = .returned (.bool true) ∧ Below w.heap.size w w' := by
  obtain ⟨K, hK⟩ : ∃ K, min n 30 = K := ⟨_, rfl⟩
  obtain ⟨L, hL⟩ : ∃ L, min m 30 = L := ⟨_, rfl⟩
  have lK : K ≤ n := by omega
  have lL : L ≤ m := by omega
  have nc : n ≤ c := hA.2.1
  have md : m ≤ d := hB.2.1
  have mK : min (n : Int) 30 = (K : Int) := by omega
  have mL : min (m : Int) 30 = (L : Int) := by omega
  have K30 : K ≤ 100000 := by omega
  have L30 : L ≤ 100000 := by omega
  have bK : (K : Int) ≤ (c : Int) := by omega
  have bL : (L : Int) ≤ (d : Int) := by omega
  have HA := Lib.hid (hA.take lK)
  have HB := Lib.hid (hB.take lL)
  have HE := Lib.hid hE
  obtain ⟨v, hv⟩ : ∃ v, sameB false (ar.take K) (br.take L) = v := ⟨_, rfl⟩
  have P1 := Lib.hid (fun (wx : World) (hA : TksW wx A K c (ar.take K)) (hB : TksW wx A' L d (br.take L)) => hv ▸ same_prog hA hB K30 L30)
  have P2 := Lib.hid (fun (wx : World) (hA : TksW wx A K c (ar.take K)) (hB : TksW wx A' L d (br.take L)) => hv ▸ same_false hA hB K30 L30)
  have P3 := Lib.hid (fun (wx : World) (hA : TksW wx A K c (ar.take K)) => sameB_self false (ar.take K) ▸ same_prog hA hA K30 K30)
  clear hA hB hE hv hK hL
  go_enter Tryd.func4, Tryd.ntmps4
  go_upto_region 1 with fail
  refine wp_region_ord [(0, 1), (1, 1), (2, 1), (3, 1), (4, 1), (5, 1), (6, 1), (7, 1), (8, 1), (9, 1), (10, 1), (11, 1)] [] 5 (by kernel_rfl) (by decide +kernel) ?_
  simp only [pickO, List.append_eq, List.cons_append, List.nil_append, List.getElem?_cons_succ, List.getElem?_cons_zero]
  intro w0 hG
  (repeat ((first | (with_reducible refine ord_q1 ?_) | (with_reducible refine ord_q0 ?_)); intro K hK; first | (refine Or.inr ⟨?_, ?_⟩; (focus (go_simp; first | done | (simp [undef]; done))); go_simp; (with_reducible refine hK _ ?_); clear hK K) | (refine Or.inl ⟨?_, ?_⟩; (focus (go_simp; done)); apply Exists.intro; refine And.intro ?_ ?_; (focus (first | (intro wq hq; obtain ⟨hcq, hfq⟩ := G.old hq; go_simp; (first | done | exact rfl); done) | (intro wq; go_simp; (first | done | exact rfl); done))); go_simp; (with_reducible refine hK _ ?_); clear hK K) | fail))
  (with_reducible refine ord_nil ?_)
  replace HA := Lib.hid (HA.out.grow hG.b)
  replace HB := Lib.hid (HB.out.grow hG.b)
  replace HE := Lib.hid (HE.out.grow hG.b)
  have HG0 := Lib.hid hG.b
  clear hG
  go_wp2_with fail
  go_at_call 6
  (with_reducible refine (known_any HE.out).mono ?_)
  rintro e1 w1 ⟨rfl, hb1⟩
  replace HA := Lib.hid (HA.out.grow hb1)
  replace HB := Lib.hid (HB.out.grow hb1)
  have HG := Lib.hid (G.trans HG0.out hb1)
  clear hb1
  go_wp2_with fail
  go_at_call 7
  (with_reducible refine (P1.out _ HA.out HB.out).mono ?_)
  rintro e1 w2 ⟨rfl, hb2⟩
  replace HA := Lib.hid (HA.out.grow hb2)
  replace HB := Lib.hid (HB.out.grow hb2)
  replace HG := Lib.hid (G.trans HG.out hb2)
  clear hb2
  go_wp2_with fail
  go_at_call 8
  (with_reducible refine (P2.out _ HA.out HB.out).mono ?_)
  rintro e1 w3 ⟨rfl, hb3⟩
  replace HA := Lib.hid (HA.out.grow hb3)
  replace HG := Lib.hid (G.trans HG.out hb3)
  clear hb3
  go_wp2_with fail
  go_at_call 7
  (with_reducible refine (P3.out _ HA.out).mono ?_)
  rintro e1 w4 ⟨rfl, hb4⟩
  replace HG := Lib.hid (G.trans HG.out hb4)
  clear hb4
  go_wp2_with fail
  go_ret
  exact ⟨rfl, HG.out⟩
end
theorem lexerSame_any (A : Option Addr) (n c : Nat) (x : List Tn) (A' : Option Addr) (m d : Nat) (y : List Tn) (W : World) (hA : TksW W A n c x) (hB : TksW W A' m d y) (hE : Env W) : Calls Tryd.prog 4 #[.slice A n c, .slice A' m d] W fun e W' => e = .returned (.bool true) ∧ Below W.heap.size W W' := lexerSame_w hE hA hB
end Go.Proofs.YtmchiibbodllaaaDoor
