/- lexer's laws: blanks between tokens. -/
import Derived.Test.YtmchiibbodllaaaGreatDoorTk
import Derived.Test.YtmchiibbodllaaaGreatDoorTw
import Derived.Test.YtmchiibbodllaaaGreatDoorPrL
namespace Go.Proofs.YtmchiibbodllaaaGreatDoor
set_option linter.unusedVariables false
set_option linter.unnecessarySimpa false
set_option linter.unusedSimpArgs false
open Go.RowKit

theorem toks_get {l : List UInt8} {ts : List Pl} {i : Nat} {x : Tn} (hx : (toks l ts)[i]? = some x) (hi : i < ts.length) : (ts.map (tnOf l))[i]? = some x := by
  unfold toks at hx
  rwa [List.getElem?_append_left (by simpa using hi)] at hx
theorem scanL_k {l : List UInt8} {ts : List Pl} (h : scanL l = .ok ts) {i : Nat} {x : Tn} (hx : (ts.map (tnOf l))[i]? = some x) : x.k ≠ 0 := by
  obtain ⟨ps, hr, rfl, hc⟩ := scanL_ok h
  exact plc_k ps _ _ _ hr x (List.mem_of_getElem? hx)
section
variable {w : World}
set_option maxRecDepth 20000 in set_option maxHeartbeats 8000000 in
theorem lexerBlanks_w (hE : Env w) (s : ByteArray) : Calls Tryz.prog 4 #[.string s] w fun e w' => e = .returned (.bool true) ∧ Below w.heap.size w w' := by
  obtain ⟨v, hv⟩ : ∃ v, s.data.toList.take 600 = v := ⟨_, rfl⟩
  have hvl : v.length ≤ 600 := by rw [← hv, List.length_take]; omega
  obtain ⟨k, hk⟩ : ∃ k, k = min s.size 600 := ⟨_, rfl⟩
  have hc := take_cut s 600 k hk
  rw [hv] at hc
  have hm : min (s.size : Int) 600 = (k : Int) := by omega
  have h1 : (0 : Int) ≤ (k : Int) := by omega
  have h2 : (k : Int) ≤ (s.size : Int) := by omega
  have hk' : k ≤ s.size := by omega
  have S1 := Lib.hid (fun (w : World) (hE : Env w) => scan_any hE (B v))
  rw [B_list] at S1
  have HE := Lib.hid hE
  have hA := scanA_short (l := v) (by omega)
  clear hE hv hk
  rcases hs : scanL v with ts | ⟨o, x⟩
  · rw [hs] at hA
    have hn := (scanA_ok hA).2
    have hsh := toks_short hs (by omega) hn
    obtain ⟨hbl, us, hu, hkey⟩ := blanks_again hs
    have HSM := Lib.hid ((sameB_key _ _).2 (hkey v (bHead ++ brL bMid true (ts.map (tnOf v)) ++ bTail)))
    obtain ⟨W, hW⟩ : ∃ W, bHead ++ brL bMid true (ts.map (tnOf v)) = W := ⟨_, rfl⟩
    rw [hW] at HSM hbl hu
    have hu2 : scanA (W ++ bTail) = .ok us := by unfold scanA; rw [if_neg (by omega)]; exact hu
    have S2 := Lib.hid (fun (w : World) (hE : Env w) => scan_any hE (B (W ++ bTail)))
    rw [B_list, hu2] at S2
    have hun := (scanA_ok hu2).2
    rw [hA] at S1
    obtain ⟨n, hn'⟩ : ∃ n, ts.length + 1 = n := ⟨_, rfl⟩
    obtain ⟨m, hm'⟩ : ∃ m, us.length + 1 = m := ⟨_, rfl⟩
    have hnb : n ≤ 20000 := by omega
    have hn1 : 1 ≤ n := by omega
    have hmb : m ≤ 20000 := by omega
    rw [hn'] at hsh
    have HSH := Lib.hid hsh
    have HW := Lib.hid hW
    have HS := Lib.hid hs
    have HWl : Hid (W.length ≤ 20000) := by unfold Hid; have h9 : (W ++ bTail).length = W.length + bTail.length := List.length_append; omega
    replace hn' := Lib.hid hn'
    replace hm' := Lib.hid hm'
    clear hs hA hn hu hu2 hun hsh hW hkey hbl
    go_enter Tryz.func4, Tryz.ntmps4
    go_wp2_with fail
    go_at_call 12
    (with_reducible refine (S1.out _ HE.out).mono ?_)
    rintro e1 w2 ⟨hb2, A2, c2, rfl, hown⟩
    rw [rowC_rwT] at hown
    have HT := Lib.hid (TksW.of_own hown)
    rw [hn'.out] at HT ⊢
    replace HE := Lib.hid (HE.out.grow hb2)
    have HG := Lib.hid hb2
    clear hown hb2 S1
    go_wp2_with fail
    go_at_call 14
    (with_reducible refine (known_any HE.out).mono ?_)
    rintro e1 w3 ⟨rfl, hb⟩
    replace HE := Lib.hid (HE.out.grow hb)
    replace HT := Lib.hid (HT.out.grow hb)
    replace HG := Lib.hid (G.trans HG.out hb)
    clear hb
    go_wp2_with fail
    go_loopw [7, 8] (fun sv iv wx => ∃ (i : Nat) (P0 : List UInt8), i + 1 ≤ n ∧ sv = .string (B P0) ∧ iv = .int .i64 (i : Int) ∧ Hid (bHead ++ brL bMid true ((ts.map (tnOf v)).take i) = P0) ∧ Hid (Below w.heap.size w wx) ∧ Hid (Below w3.heap.size w3 wx)) (fun _ iv _ => n - (intOf iv).toNat)
    case atStart => exact ⟨0, _, hn1, rfl, rfl, rfl, HG, G.refl _⟩
    case round =>
      clear HG
      obtain ⟨i, P0, hi, rfl, rfl, HP0, HG, H3⟩ := hrel
      have hw2 : IntKind.i64.wrap ((i : Int) + 1) = ((i + 1 : Nat) : Int) := by rw [IntWalk.i64_in _ (by omega)]; omega
      have hw3 : IntKind.i64.wrap ((i + 1 : Nat) : Int) = ((i + 1 : Nat) : Int) := by rw [IntWalk.i64_in _ (by omega)]
      by_cases hlt : i + 1 < n
      · have hlt' : ((i + 1 : Nat) : Int) < (n : Int) := by omega
        have hit : i < ts.length := by have := hn'.out; omega
        obtain ⟨x, hx⟩ : ∃ x, (toks v ts)[i]? = some x := ⟨_, List.getElem?_eq_getElem (by rw [toks_len]; omega)⟩
        have hx2 := toks_get hx hit
        have hxk := scanL_k HS.out hx2
        have hT := brL_snoc bMid x ((ts.map (tnOf v)).take i) true
        rw [← take_snoc hx2] at hT
        simp only [take_nil hx2, true_and] at hT
        have hxs := HSH.out.2.2 x (List.mem_of_getElem? hx)
        have h1s : Short 1 (2 * v.length) [x] := ⟨by omega, by omega, fun t ht => by rw [List.mem_singleton] at ht; subst ht; exact hxs⟩
        have hwl := wrL_len (2 * v.length) [x] true h1s.2.2
        have hbl := brL_len bMid (2 * v.length) ((ts.map (tnOf v)).take i) true (fun t ht => by
          obtain ⟨j, hj⟩ := List.getElem?_of_mem (List.mem_of_mem_take ht)
          exact HSH.out.2.2 t (by unfold toks; exact List.mem_append.2 (.inl (List.mem_of_getElem? hj))))
        have hP0l : P0.length ≤ 1000000000 := by
          rw [← HP0.out, List.length_append]
          have e1 : bHead.length = 9 := rfl
          have e2 : bMid.length = 13 := rfl
          have e3 : ((ts.map (tnOf v)).take i).length * (6 * (2 * v.length) + 4 + bMid.length) ≤ 20000 * (6 * (2 * 600) + 4 + 13) := Nat.mul_le_mul (by rw [List.length_take]; omega) (by omega)
          omega
        have hQl : (wrL true [x]).length ≤ 10000 := by simp only [List.length_cons, List.length_nil] at hwl; omega
        obtain ⟨Q, hQ⟩ : ∃ Q, wrL true [x] = Q := ⟨_, rfl⟩
        rw [hQ] at hT hQl
        replace hT : bHead ++ brL bMid true ((ts.map (tnOf v)).take (i + 1)) = P0 ++ ((if i = 0 ∨ x.j = true then [] else bMid) ++ Q) := by rw [hT, ← HP0.out, List.append_assoc]
        have WR := Lib.hid (fun (wx : World) (hE : Env wx) (A : Option Addr) (hA : TksW wx A 1 1 [x]) => written_any hE hA h1s)
        rw [hQ] at WR
        obtain ⟨g, off, rfl, hg, p0, p1, p2, p3, p4, p5, p6, p7⟩ := (HT.out.grow H3.out).at_ hx
        obtain ⟨n0, z0⟩ : ∃ n, P0.length = n := ⟨_, rfl⟩
        rw [z0] at hP0l
        have y0 : (B P0).size = n0 := by rw [B_size, z0]
        obtain ⟨q0, zq⟩ : ∃ q, Q.length = q := ⟨_, rfl⟩
        rw [zq] at hQl
        have yq : (B Q).size = q0 := by rw [B_size, zq]
        have hE1 := Lib.hid (HE.out.grow H3.out)
        obtain ⟨xk, xln, xcl, xtx, xv, xn, xs, xj⟩ := x
        dsimp only at p0 p1 p2 p3 p4 p5 p6 p7 hT
        have hcase : (i = 0) ∨ (0 < i ∧ xj = true) ∨ (0 < i ∧ xj = false) := by cases xj <;> simp <;> omega
        clear hx hx2 hxk hxs h1s hwl hbl HP0 hQ
        rcases hcase with hc0 | ⟨hc0, rfl⟩ | ⟨hc0, rfl⟩
        · rw [if_pos (.inl hc0), List.nil_append] at hT
          obtain ⟨P2, hP2⟩ : ∃ P, P0 ++ Q = P := ⟨_, rfl⟩
          rw [hP2] at hT
          have j2 : B P0 ++ B Q = B P2 := by rw [B_app, hP2]
          have g2 : ¬ 9223372036854775807 < n0 + q0 := by omega
          have l0 : ¬ (0 : Int) < (i : Int) := by omega
          replace hT := Lib.hid hT
          clear hc0 hP2 z0 zq
          go_wp2_with fail
          go_at_call 16
          refine calls_name (fun wx => TksW wx (some ⟨wr.heap.size, 0, none⟩) 1 1 [⟨xk, xln, xcl, xtx, xv, xn, xs, xj⟩] ∧ Below wr.heap.size wr wx) ⟨⟨rfl, Nat.le_refl 1, by decide, Sl.new' (l := rwT [⟨xk, xln, xcl, xtx, xv, xn, xs, xj⟩]) rfl rfl rfl⟩, G.alloc (G.refl wr) _⟩ ?_
          rintro w5 ⟨ht5, hb5⟩
          (with_reducible refine (WR.out _ (hE1.out.grow hb5) _ ht5).mono ?_)
          rintro e1 w6 ⟨rfl, hb6⟩
          replace HG : Hid (Below w.heap.size w w6) := G.trans HG.out (G.trans hb5 hb6)
          replace H3 : Hid (Below w3.heap.size w3 w6) := G.trans H3.out (G.trans hb5 hb6)
          clear ht5 hb5 hb6
          go_wp2_with fail
          go_roundw
          case rel => exact ⟨i + 1, _, by omega, rfl, by go_num, hT, HG, H3⟩
          case measure => simp [intOf]; omega
        · rw [if_pos (.inr rfl), List.nil_append] at hT
          obtain ⟨P2, hP2⟩ : ∃ P, P0 ++ Q = P := ⟨_, rfl⟩
          rw [hP2] at hT
          have j2 : B P0 ++ B Q = B P2 := by rw [B_app, hP2]
          have g2 : ¬ 9223372036854775807 < n0 + q0 := by omega
          have l0 : (0 : Int) < (i : Int) := by omega
          replace hT := Lib.hid hT
          clear hc0 hP2 z0 zq
          go_wp2_with fail
          go_at_call 16
          refine calls_name (fun wx => TksW wx (some ⟨wr.heap.size, 0, none⟩) 1 1 [⟨xk, xln, xcl, xtx, xv, xn, xs, true⟩] ∧ Below wr.heap.size wr wx) ⟨⟨rfl, Nat.le_refl 1, by decide, Sl.new' (l := rwT [⟨xk, xln, xcl, xtx, xv, xn, xs, true⟩]) rfl rfl rfl⟩, G.alloc (G.refl wr) _⟩ ?_
          rintro w5 ⟨ht5, hb5⟩
          (with_reducible refine (WR.out _ (hE1.out.grow hb5) _ ht5).mono ?_)
          rintro e1 w6 ⟨rfl, hb6⟩
          replace HG : Hid (Below w.heap.size w w6) := G.trans HG.out (G.trans hb5 hb6)
          replace H3 : Hid (Below w3.heap.size w3 w6) := G.trans H3.out (G.trans hb5 hb6)
          clear ht5 hb5 hb6
          go_wp2_with fail
          go_roundw
          case rel => exact ⟨i + 1, _, by omega, rfl, by go_num, hT, HG, H3⟩
          case measure => simp [intOf]; omega
        · rw [if_neg (by simp; omega), ← List.append_assoc] at hT
          obtain ⟨P1, hP1⟩ : ∃ P, P0 ++ bMid = P := ⟨_, rfl⟩
          obtain ⟨P2, hP2⟩ : ∃ P, P1 ++ Q = P := ⟨_, rfl⟩
          rw [hP1, hP2] at hT
          have j1 : B P0 ++ ⟨#[32, 47, 47, 32, 98, 101, 116, 119, 101, 101, 110, 10, 9]⟩ = B P1 := by rw [show (⟨#[32, 47, 47, 32, 98, 101, 116, 119, 101, 101, 110, 10, 9]⟩ : ByteArray) = B bMid from rfl, B_app, hP1]
          have j2 : B P1 ++ B Q = B P2 := by rw [B_app, hP2]
          have y1 : (B P1).size = n0 + 13 := by rw [B_size, ← hP1, List.length_append, z0]; rfl
          have g1 : ¬ 9223372036854775807 < n0 + 13 := by omega
          have g2 : ¬ 9223372036854775807 < n0 + 13 + q0 := by omega
          have l0 : (0 : Int) < (i : Int) := by omega
          replace hT := Lib.hid hT
          clear hc0 hP2 hP1 z0 zq
          go_wp2_with fail
          go_at_call 16
          refine calls_name (fun wx => TksW wx (some ⟨wr.heap.size, 0, none⟩) 1 1 [⟨xk, xln, xcl, xtx, xv, xn, xs, false⟩] ∧ Below wr.heap.size wr wx) ⟨⟨rfl, Nat.le_refl 1, by decide, Sl.new' (l := rwT [⟨xk, xln, xcl, xtx, xv, xn, xs, false⟩]) rfl rfl rfl⟩, G.alloc (G.refl wr) _⟩ ?_
          rintro w5 ⟨ht5, hb5⟩
          (with_reducible refine (WR.out _ (hE1.out.grow hb5) _ ht5).mono ?_)
          rintro e1 w6 ⟨rfl, hb6⟩
          replace HG : Hid (Below w.heap.size w w6) := G.trans HG.out (G.trans hb5 hb6)
          replace H3 : Hid (Below w3.heap.size w3 w6) := G.trans H3.out (G.trans hb5 hb6)
          clear ht5 hb5 hb6
          go_wp2_with fail
          go_roundw
          case rel => exact ⟨i + 1, _, by omega, rfl, by go_num, hT, HG, H3⟩
          case measure => simp [intOf]; omega
      · have hin : i + 1 = n := by omega
        have hnl : ¬ ((i + 1 : Nat) : Int) < (n : Int) := by omega
        have hPW : P0 = W := by
          have h5 := HP0.out
          have h6 := HW.out
          rw [List.take_of_length_le (by rw [List.length_map]; have := hn'.out; omega), h6] at h5
          exact h5.symm
        subst hPW
        have j1 : B P0 ++ ⟨#[47, 47, 32, 101, 110, 100]⟩ = B (P0 ++ bTail) := by rw [show (⟨#[47, 47, 32, 101, 110, 100]⟩ : ByteArray) = B bTail from rfl, B_app]
        obtain ⟨n0, z0⟩ : ∃ n, P0.length = n := ⟨_, rfl⟩
        have y0 : (B P0).size = n0 := by rw [B_size, z0]
        have hn0 : n0 ≤ 20000 := by rw [← z0]; exact HWl.out
        have g1 : ¬ 9223372036854775807 < n0 + 6 := by omega
        have hE1 := Lib.hid (HE.out.grow H3.out)
        have HT1 := Lib.hid (HT.out.grow H3.out)
        clear HP0 hin z0
        go_wp2_with fail
        go_at_call 12
        (with_reducible refine (S2.out _ hE1.out).mono ?_)
        rintro e1 w5 ⟨hb, A5, c5, rfl, hown⟩
        rw [rowC_rwT] at hown
        have HU := Lib.hid (TksW.of_own hown)
        rw [hm'.out] at HU ⊢
        replace HT1 := Lib.hid (HT1.out.grow hb)
        replace HG := Lib.hid (G.trans HG.out hb)
        clear hb hown S2
        go_wp2_with fail
        go_at_call 15
        (with_reducible refine (same_false HT1.out HU.out (by omega) (by omega)).mono ?_)
        rw [HSM.out]
        rintro e1 w8 ⟨rfl, hb⟩
        go_wp2_with fail
        go_ret
        exact ⟨rfl, G.trans HG.out hb⟩
  · rw [hs] at hA
    have hx0 := scanA_bad hA
    have kx : (x != 0) = true := by simp [hx0]
    rw [hA] at S1
    clear hs hA hx0
    go_enter Tryz.func4, Tryz.ntmps4
    go_wp2_with fail
    go_at_call 12
    (with_reducible refine (S1.out _ HE.out).mono ?_)
    rintro e1 w2 ⟨hb2, rfl⟩
    replace HE := Lib.hid (HE.out.grow hb2)
    go_wp2_with fail
    go_at_call 14
    (with_reducible refine (known_any HE.out).mono ?_)
    rintro e1 w3 ⟨rfl, hb3⟩
    replace HE := Lib.hid (HE.out.grow hb3)
    go_wp2_with fail
    go_at_call 14
    (with_reducible refine (known_any HE.out).mono ?_)
    rintro e1 w4 ⟨rfl, hb4⟩
    go_wp2_with fail
    go_ret
    exact ⟨rfl, G.trans (G.trans hb2 hb3) hb4⟩
end
theorem lexerBlanks_any (t : ByteArray) (W : World) (ws : t.size ≤ maxLen) (hE : Env W ∧ Tab4 W) : Calls Tryz.prog 4 #[.string t] W fun e W' => e = .returned (.bool true) ∧ Below W.heap.size W W' := lexerBlanks_w hE.1 t
end Go.Proofs.YtmchiibbodllaaaGreatDoor
