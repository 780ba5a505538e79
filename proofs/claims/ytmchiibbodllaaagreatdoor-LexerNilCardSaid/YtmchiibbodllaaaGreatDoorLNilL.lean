/- lexer's laws: the methods of a nil stream. -/
import Derived.Test.YtmchiibbodllaaaGreatDoorLKnown
namespace Go.Proofs.YtmchiibbodllaaaGreatDoor
set_option linter.unusedVariables false
set_option linter.unnecessarySimpa false
set_option linter.unusedSimpArgs false
open Go.RowKit

def zT : Value := .agg #[.int .i64 0, .int .i64 0, .int .i64 0, .string ⟨#[]⟩, .string ⟨#[]⟩, .int .i64 0, .int .i64 0, .bool false]
theorem nilNe (w : World) : (binOp .neq 35 (.pointer none) (.pointer none)).run Tryz.prog w = .ok (.bool false) w := by kernel_rfl
theorem nilEq (w : World) : (binOp .eql 35 (.pointer none) (.pointer none)).run Tryz.prog w = .ok (.bool true) w := by kernel_rfl
theorem zEq (w : World) : (binOp .eql 33 (.agg #[.int .i64 0, .int .i64 0, .int .i64 0, .string ⟨#[]⟩, .string ⟨#[]⟩, .int .i64 0, .int .i64 0, .bool false]) (.agg #[.int .i64 0, .int .i64 0, .int .i64 0, .string ⟨#[]⟩, .string ⟨#[]⟩, .int .i64 0, .int .i64 0, .bool false])).run Tryz.prog w = .ok (.bool true) w := by kernel_rfl
section
variable (w : World)
set_option maxRecDepth 20000 in set_option maxHeartbeats 400000 in
theorem nok : Calls Tryz.prog 57 #[.pointer none] w fun e w' => e = .returned (.bool false) ∧ w' = w := by
  have q := nilNe
  go_enter Tryz.func57, Tryz.ntmps57
  go_wp2_with fail
  go_ret
  exact ⟨rfl, rfl⟩
set_option maxRecDepth 20000 in set_option maxHeartbeats 400000 in
theorem npeek : Calls Tryz.prog 20 #[.pointer none] w fun e w' => e = .returned zT ∧ Below w.heap.size w w' := by
  unfold zT
  go_enter Tryz.func20, Tryz.ntmps20
  go_wp2_with fail
  go_at_call 57
  (with_reducible refine (nok _).mono ?_)
  rintro e1 w1 ⟨rfl, rfl⟩
  go_wp2_with fail
  exact bodyPost_ret (v := .agg #[.int .i64 0, .int .i64 0, .int .i64 0, .string ⟨#[]⟩, .string ⟨#[]⟩, .int .i64 0, .int .i64 0, .bool false]) (by simp only [results, Tryz.results20]; go_simp) rfl ⟨rfl, by repeat (first | with_reducible assumption | with_reducible exact G.refl _ | with_reducible refine G.drew ?_ | with_reducible refine G.drewN ?_ _ | with_reducible refine G.alloc ?_ _ | with_reducible refine Below.setCell ?_ (by first | (simp; done) | (simp; omega)) _ | with_reducible refine G.trans ?_ hb12 | with_reducible refine G.trans ?_ hb11 | with_reducible refine G.trans ?_ hb10 | with_reducible refine G.trans ?_ hb9 | with_reducible refine G.trans ?_ hb8 | with_reducible refine G.trans ?_ hb7 | with_reducible refine G.trans ?_ hb6 | with_reducible refine G.trans ?_ hb5 | with_reducible refine G.trans ?_ hb4 | with_reducible refine G.trans ?_ hb3 | with_reducible refine G.trans ?_ hb2 | with_reducible refine G.trans ?_ hb1 | with_reducible refine G.trans ?_ hb | assumption)⟩
set_option maxRecDepth 20000 in set_option maxHeartbeats 1000000 in
theorem nnext : Calls Tryz.prog 21 #[.pointer none] w fun e w' => e = .returned zT ∧ Below w.heap.size w w' := by
  unfold zT
  go_enter Tryz.func21, Tryz.ntmps21
  go_wp2_with fail
  go_at_call 20
  obtain ⟨r, hr⟩ : ∃ r, w.heap.size = r := ⟨_, rfl⟩
  have hr' := Lib.hid hr
  rw [hr]
  refine calls_name (fun wx => Bx wx r [.int .i64 0, .int .i64 0, .int .i64 0, .string ⟨#[]⟩, .string ⟨#[]⟩, .int .i64 0, .int .i64 0, .bool false] ∧ Below r w wx) ⟨Bx.new hr.symm rfl, by rw [← hr]; exact G.alloc (G.refl w) _⟩ ?_
  rintro w0 ⟨hx0, hb0⟩
  clear hr
  (with_reducible refine (npeek _).mono ?_)
  unfold zT
  rintro e1 w1 ⟨rfl, hb1⟩
  have hx1 := Lib.hid (hx0.grow hb1)
  replace hb1 := Lib.hid (hb0.trans (hb1.mono (Nat.le_of_lt hx0.lt)))
  clear hx0 hb0
  go_wp2_with fail
  go_at_call 57
  (with_reducible refine (nok _).mono ?_)
  rintro e1 w2 ⟨rfl, rfl⟩
  go_upto_region 4 with fail
  obtain ⟨r3, hr3⟩ : ∃ r3, w1.heap.size = r3 := ⟨_, rfl⟩
  rw [hr3]
  refine wp_name (fun wx => Bx wx r [.int .i64 0, .int .i64 0, .int .i64 0, .string ⟨#[]⟩, .string ⟨#[]⟩, .int .i64 0, .int .i64 0, .bool false] ∧ Bx wx r3 [.int .i64 0, .int .i64 0, .int .i64 0, .string ⟨#[]⟩, .string ⟨#[]⟩, .int .i64 0, .int .i64 0, .bool false] ∧ Below r w wx) ⟨hx1.out.alloc _, Bx.new hr3.symm rfl, hb1.out.alloc (Nat.le_of_lt hx1.out.lt) _⟩ ?_
  rintro w3 ⟨hx3, hy3, hb3⟩
  have hne : ¬ r3 = r := by have := hx1.out.lt; omega
  have hne2 : ¬ r = r3 := fun e => hne e.symm
  clear hr3 hx1 hb1
  obtain ⟨k0, k1, k2, k3, k4, k5, k6, k7⟩ := hx3.c8
  obtain ⟨z0, z1, z2, z3, z4, z5, z6, z7⟩ := hx3.f8
  obtain ⟨l0, l1, l2, l3, l4, l5, l6, l7⟩ := hy3.c8
  clear hx3 hy3
  replace hb3 := Lib.hid hb3
  go_wp2_with fail
  refine bodyPost_ret (v := .agg #[.int .i64 0, .int .i64 0, .int .i64 0, .string ⟨#[]⟩, .string ⟨#[]⟩, .int .i64 0, .int .i64 0, .bool false]) (by simp only [results, Tryz.results21]; go_simp) rfl ⟨rfl, ?_⟩
  rw [hr'.out]
  exact (((((((hb3.out.setCell (Nat.le_refl r) _).setCell (Nat.le_refl r) _).setCell (Nat.le_refl r) _).setCell (Nat.le_refl r) _).setCell (Nat.le_refl r) _).setCell (Nat.le_refl r) _).setCell (Nat.le_refl r) _).setCell (Nat.le_refl r) _
set_option maxRecDepth 20000 in set_option maxHeartbeats 400000 in
theorem nis (s : ByteArray) : Calls Tryz.prog 22 #[.pointer none, .string s] w fun e w' => e = .returned (.bool false) ∧ Below w.heap.size w w' := by
  go_enter Tryz.func22, Tryz.ntmps22
  go_wp2_with fail
  go_at_call 20
  (with_reducible refine (npeek _).mono ?_)
  unfold zT
  rintro e1 w1 ⟨rfl, hb1⟩
  go_wp2_with fail
  go_at_call 57
  (with_reducible refine (nok _).mono ?_)
  rintro e1 w2 ⟨rfl, rfl⟩
  go_wp2_with fail
  go_ret
  exact ⟨rfl, by repeat (first | with_reducible assumption | with_reducible exact G.refl _ | with_reducible refine G.drew ?_ | with_reducible refine G.drewN ?_ _ | with_reducible refine G.alloc ?_ _ | with_reducible refine Below.setCell ?_ (by first | (simp; done) | (simp; omega)) _ | with_reducible refine G.trans ?_ hb12 | with_reducible refine G.trans ?_ hb11 | with_reducible refine G.trans ?_ hb10 | with_reducible refine G.trans ?_ hb9 | with_reducible refine G.trans ?_ hb8 | with_reducible refine G.trans ?_ hb7 | with_reducible refine G.trans ?_ hb6 | with_reducible refine G.trans ?_ hb5 | with_reducible refine G.trans ?_ hb4 | with_reducible refine G.trans ?_ hb3 | with_reducible refine G.trans ?_ hb2 | with_reducible refine G.trans ?_ hb1 | with_reducible refine G.trans ?_ hb | assumption)⟩
set_option maxRecDepth 20000 in set_option maxHeartbeats 400000 in
theorem naccept (s : ByteArray) : Calls Tryz.prog 23 #[.pointer none, .string s] w fun e w' => e = .returned (.bool false) ∧ Below w.heap.size w w' := by
  go_enter Tryz.func23, Tryz.ntmps23
  go_wp2_with fail
  go_at_call 22
  (with_reducible refine (nis _ _).mono ?_)
  rintro e1 w1 ⟨rfl, hb1⟩
  go_wp2_with fail
  go_ret
  exact ⟨rfl, by repeat (first | with_reducible assumption | with_reducible exact G.refl _ | with_reducible refine G.drew ?_ | with_reducible refine G.drewN ?_ _ | with_reducible refine G.alloc ?_ _ | with_reducible refine Below.setCell ?_ (by first | (simp; done) | (simp; omega)) _ | with_reducible refine G.trans ?_ hb12 | with_reducible refine G.trans ?_ hb11 | with_reducible refine G.trans ?_ hb10 | with_reducible refine G.trans ?_ hb9 | with_reducible refine G.trans ?_ hb8 | with_reducible refine G.trans ?_ hb7 | with_reducible refine G.trans ?_ hb6 | with_reducible refine G.trans ?_ hb5 | with_reducible refine G.trans ?_ hb4 | with_reducible refine G.trans ?_ hb3 | with_reducible refine G.trans ?_ hb2 | with_reducible refine G.trans ?_ hb1 | with_reducible refine G.trans ?_ hb | assumption)⟩
set_option maxRecDepth 20000 in set_option maxHeartbeats 400000 in
theorem nfail (e : Int) : Calls Tryz.prog 18 #[.pointer none, .int .i64 e] w fun e w' => e = .returned (.tuple #[]) ∧ w' = w := by
  go_enter Tryz.func18, Tryz.ntmps18
  go_wp2_with fail
  go_at_call 57
  (with_reducible refine (nok _).mono ?_)
  rintro e1 w1 ⟨rfl, rfl⟩
  go_wp2_with fail
  go_end0
  exact ⟨rfl, rfl⟩
set_option maxRecDepth 20000 in set_option maxHeartbeats 400000 in
theorem nexpect (s : ByteArray) : Calls Tryz.prog 17 #[.pointer none, .string s] w fun e w' => e = .returned (.tuple #[]) ∧ Below w.heap.size w w' := by
  go_enter Tryz.func17, Tryz.ntmps17
  go_wp2_with fail
  go_at_call 23
  (with_reducible refine (naccept _ _).mono ?_)
  rintro e1 w1 ⟨rfl, hb1⟩
  go_wp2_with fail
  go_at_call 18
  (with_reducible refine (nfail _ _).mono ?_)
  rintro e1 w2 ⟨rfl, rfl⟩
  go_wp2_with fail
  go_end0
  exact ⟨rfl, hb1⟩
set_option maxRecDepth 20000 in set_option maxHeartbeats 400000 in
theorem ntake (k : Int) : Calls Tryz.prog 24 #[.pointer none, .int .i64 k] w fun e w' => e = .returned zT ∧ Below w.heap.size w w' := by
  unfold zT
  go_enter Tryz.func24, Tryz.ntmps24
  go_wp2_with fail
  go_at_call 57
  (with_reducible refine (nok _).mono ?_)
  rintro e1 w1 ⟨rfl, rfl⟩
  go_wp2_with fail
  go_at_call 18
  (with_reducible refine (nfail _ _).mono ?_)
  rintro e1 w2 ⟨rfl, rfl⟩
  go_wp2_with fail
  exact bodyPost_ret (v := .agg #[.int .i64 0, .int .i64 0, .int .i64 0, .string ⟨#[]⟩, .string ⟨#[]⟩, .int .i64 0, .int .i64 0, .bool false]) (by simp only [results, Tryz.results24]; go_simp) rfl ⟨rfl, by repeat (first | with_reducible assumption | with_reducible exact G.refl _ | with_reducible refine G.drew ?_ | with_reducible refine G.drewN ?_ _ | with_reducible refine G.alloc ?_ _ | with_reducible refine Below.setCell ?_ (by first | (simp; done) | (simp; omega)) _ | with_reducible refine G.trans ?_ hb12 | with_reducible refine G.trans ?_ hb11 | with_reducible refine G.trans ?_ hb10 | with_reducible refine G.trans ?_ hb9 | with_reducible refine G.trans ?_ hb8 | with_reducible refine G.trans ?_ hb7 | with_reducible refine G.trans ?_ hb6 | with_reducible refine G.trans ?_ hb5 | with_reducible refine G.trans ?_ hb4 | with_reducible refine G.trans ?_ hb3 | with_reducible refine G.trans ?_ hb2 | with_reducible refine G.trans ?_ hb1 | with_reducible refine G.trans ?_ hb | assumption)⟩
set_option maxRecDepth 20000 in set_option maxHeartbeats 400000 in
theorem nint (a b : Int) : Calls Tryz.prog 25 #[.pointer none, .int .i64 a, .int .i64 b] w fun e w' => e = .returned (.int .i64 0) ∧ Below w.heap.size w w' := by
  by_cases h : a < 0
  · go_enter Tryz.func25, Tryz.ntmps25
    go_wp2_with fail
    go_at_call 23
    (with_reducible refine (naccept _ _).mono ?_)
    rintro e1 w1 ⟨rfl, hb1⟩
    go_wp2_with fail
    go_at_call 20
    (with_reducible refine (npeek _).mono ?_)
    unfold zT
    rintro e1 w2 ⟨rfl, hb2⟩
    go_wp2_with fail
    go_at_call 57
    (with_reducible refine (nok _).mono ?_)
    rintro e1 w3 ⟨rfl, rfl⟩
    go_wp2_with fail
    go_at_call 18
    (with_reducible refine (nfail _ _).mono ?_)
    rintro e1 w4 ⟨rfl, rfl⟩
    go_wp2_with fail
    go_ret
    exact ⟨rfl, by repeat (first | with_reducible assumption | with_reducible exact G.refl _ | with_reducible refine G.drew ?_ | with_reducible refine G.drewN ?_ _ | with_reducible refine G.alloc ?_ _ | with_reducible refine Below.setCell ?_ (by first | (simp; done) | (simp; omega)) _ | with_reducible refine G.trans ?_ hb12 | with_reducible refine G.trans ?_ hb11 | with_reducible refine G.trans ?_ hb10 | with_reducible refine G.trans ?_ hb9 | with_reducible refine G.trans ?_ hb8 | with_reducible refine G.trans ?_ hb7 | with_reducible refine G.trans ?_ hb6 | with_reducible refine G.trans ?_ hb5 | with_reducible refine G.trans ?_ hb4 | with_reducible refine G.trans ?_ hb3 | with_reducible refine G.trans ?_ hb2 | with_reducible refine G.trans ?_ hb1 | with_reducible refine G.trans ?_ hb | assumption)⟩
  · go_enter Tryz.func25, Tryz.ntmps25
    go_wp2_with fail
    go_at_call 20
    (with_reducible refine (npeek _).mono ?_)
    unfold zT
    rintro e1 w2 ⟨rfl, hb2⟩
    go_wp2_with fail
    go_at_call 57
    (with_reducible refine (nok _).mono ?_)
    rintro e1 w3 ⟨rfl, rfl⟩
    go_wp2_with fail
    go_at_call 18
    (with_reducible refine (nfail _ _).mono ?_)
    rintro e1 w4 ⟨rfl, rfl⟩
    go_wp2_with fail
    go_ret
    exact ⟨rfl, by repeat (first | with_reducible assumption | with_reducible exact G.refl _ | with_reducible refine G.drew ?_ | with_reducible refine G.drewN ?_ _ | with_reducible refine G.alloc ?_ _ | with_reducible refine Below.setCell ?_ (by first | (simp; done) | (simp; omega)) _ | with_reducible refine G.trans ?_ hb12 | with_reducible refine G.trans ?_ hb11 | with_reducible refine G.trans ?_ hb10 | with_reducible refine G.trans ?_ hb9 | with_reducible refine G.trans ?_ hb8 | with_reducible refine G.trans ?_ hb7 | with_reducible refine G.trans ?_ hb6 | with_reducible refine G.trans ?_ hb5 | with_reducible refine G.trans ?_ hb4 | with_reducible refine G.trans ?_ hb3 | with_reducible refine G.trans ?_ hb2 | with_reducible refine G.trans ?_ hb1 | with_reducible refine G.trans ?_ hb | assumption)⟩
set_option maxRecDepth 20000 in set_option maxHeartbeats 400000 in
theorem nerror : Calls Tryz.prog 19 #[.pointer none] w fun e w' => e = .returned (.tuple #[.int .i64 0, .int .i64 0, .int .i64 1]) ∧ w' = w := by
  have q := nilEq
  go_enter Tryz.func19, Tryz.ntmps19
  go_wp2_with fail
  exact bodyPost_ret (v := .tuple #[.int .i64 0, .int .i64 0, .int .i64 1]) (by simp only [results, Tryz.results19]; go_simp) rfl ⟨rfl, rfl⟩
set_option maxRecDepth 20000 in set_option maxHeartbeats 4000000 in
theorem lexerNil_w (hE : Env w) (t : ByteArray) (n : Int) : Calls Tryz.prog 5 #[.string t, .int .i64 n] w fun e w' => e = .returned (.bool true) ∧ Below w.heap.size w w' := by
  have HE := Lib.hid hE
  have q := zEq
  clear hE
  go_enter Tryz.func5, Tryz.ntmps5
  go_wp2_with fail
  go_at_call 17
  (with_reducible refine (nexpect _ _).mono ?_)
  rintro e1 w1 ⟨rfl, hb1⟩
  go_wp2_with fail
  go_at_call 18
  (with_reducible refine (nfail _ _).mono ?_)
  rintro e1 w2 ⟨rfl, rfl⟩
  go_wp2_with fail
  go_at_call 19
  (with_reducible refine (nerror _).mono ?_)
  rintro e1 w3 ⟨rfl, rfl⟩
  go_wp2_with fail
  go_at_call 14
  (with_reducible refine (known_any (HE.out.grow hb1)).mono ?_)
  rintro e1 w4 ⟨rfl, hb4⟩
  go_wp2_with fail
  go_at_call 20
  (with_reducible refine (npeek _).mono ?_)
  unfold zT
  rintro e1 w5 ⟨rfl, hb5⟩
  go_wp2_with fail
  go_at_call 21
  (with_reducible refine (nnext _).mono ?_)
  unfold zT
  rintro e1 w6 ⟨rfl, hb6⟩
  go_wp2_with fail
  go_at_call 22
  (with_reducible refine (nis _ _).mono ?_)
  rintro e1 w7 ⟨rfl, hb7⟩
  go_wp2_with fail
  go_at_call 23
  (with_reducible refine (naccept _ _).mono ?_)
  rintro e1 w8 ⟨rfl, hb8⟩
  go_wp2_with fail
  go_at_call 24
  (with_reducible refine (ntake _ _).mono ?_)
  unfold zT
  rintro e1 w9 ⟨rfl, hb9⟩
  go_wp2_with fail
  go_at_call 25
  (with_reducible refine (nint _ _ _).mono ?_)
  rintro e1 w10 ⟨rfl, hb10⟩
  go_wp2_with fail
  go_ret
  exact ⟨rfl, G.trans (G.trans (G.trans (G.trans (G.trans (G.trans (G.trans hb1 hb4) hb5) hb6) hb7) hb8) hb9) hb10⟩
end
theorem lexerNil_any (t : ByteArray) (n : Int) (W : World) (ws : t.size ≤ maxLen) (wa : (Lit.int .i64 n).wf = true) (hE : Env W) : Calls Tryz.prog 5 #[.string t, .int .i64 n] W fun e w' => e = .returned (.bool true) ∧ Below W.heap.size W w' := lexerNil_w W hE t n
end Go.Proofs.YtmchiibbodllaaaGreatDoor
