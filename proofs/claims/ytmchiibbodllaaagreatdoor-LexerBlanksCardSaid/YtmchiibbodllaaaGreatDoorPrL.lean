/- lexer's laws: what is printed is read again. -/
import Derived.Test.YtmchiibbodllaaaGreatDoorTk
import Derived.Test.YtmchiibbodllaaaGreatDoorTw
namespace Go.Proofs.YtmchiibbodllaaaGreatDoor
set_option linter.unusedVariables false
set_option linter.unnecessarySimpa false
set_option linter.unusedSimpArgs false
open Go.RowKit

theorem plc_short {m : Nat} {l : List UInt8} : ∀ (ps : List Pc) (r : List UInt8) (i : Nat) (fst : Bool), Run r ps → r.length ≤ m → ∀ t ∈ (plc i fst ps).map (tnOf l), t.tx.length + t.v.length ≤ 2 * m
  | [], r, i, fst, h, hm, t, ht => by simp [plc] at ht
  | p :: ps, r, i, fst, h, hm, t, ht => by
    obtain ⟨h1, h2, h3, h4⟩ := h
    rw [plc, List.map_cons, List.mem_cons] at ht
    rcases ht with rfl | ht
    · have hq : 1 ≤ (r.drop p.g).length := by rw [List.length_drop]; omega
      have hin := lex1_in hq
      rw [h3] at hin
      obtain ⟨_, _, h5, h6⟩ := prn_len hq h3
      have h7 := hin.2
      rw [List.length_drop] at h7
      show p.t.tx.length + p.t.v.length ≤ 2 * m
      omega
    · exact plc_short ps _ _ _ h4 (by rw [List.length_drop]; omega) t ht
theorem toks_short {l : List UInt8} {ts : List Pl} (h : scanL l = .ok ts) (hl : l.length ≤ 50000) (hn : ts.length ≤ 16384) : Short (ts.length + 1) (2 * l.length) (toks l ts) := by
  obtain ⟨ps, hr, rfl, hc⟩ := scanL_ok h
  refine ⟨by omega, by omega, fun t ht => ?_⟩
  unfold toks at ht
  rcases List.mem_append.1 ht with ht | ht
  · exact plc_short ps l 0 true hr (Nat.le_refl _) t ht
  · rw [List.mem_singleton] at ht
    subst ht
    simp [tnEnd]
theorem prRes_again {l : List UInt8} {ts : List Pl} (h : scanL l = .ok ts) (hl : l.length ≤ 9000) :
    prRes (toks l ts) = (wrL true (toks l ts), 0) ∧ ∃ us, scanA (wrL true (toks l ts)) = .ok us ∧ us.length ≤ 16384 ∧ sameB false (toks l ts) (toks (wrL true (toks l ts)) us) = true := by
  obtain ⟨h1, h2, us, h3, h4⟩ := print_again h
  have h5 : scanA (wrL true (toks l ts)) = .ok us := by unfold scanA; rw [if_neg (by omega)]; exact h3
  refine ⟨?_, us, h5, (scanA_ok h5).2, (sameB_key _ _).2 (h4 _ _)⟩
  unfold prRes
  rw [h1, h5]
  simp only
  rw [if_pos ((sameB_key _ _).2 (h4 _ _).symm)]
theorem scanA_short {l : List UInt8} (h : l.length ≤ 65536) : scanA l = scanL l := by unfold scanA; rw [if_neg (by omega)]
section
variable {w : World}
set_option maxRecDepth 20000 in set_option maxHeartbeats 8000000 in
theorem lexerPrints_w (hE : Env w) (hD : Tab4 w) (s : ByteArray) : Calls Tryz.prog 8 #[.string s] w fun e w' => e = .returned (.bool true) ∧ Below w.heap.size w w' := by
  obtain ⟨v, hv⟩ : ∃ v, s.data.toList.take 1500 = v := ⟨_, rfl⟩
  have hvl : v.length ≤ 1500 := by rw [← hv, List.length_take]; omega
  have HC := Lib.hid (cut_any1 (w := w) s)
  rw [hv] at HC
  have S1 := Lib.hid (fun (w : World) (hE : Env w) => scan_any hE (B v))
  rw [B_list] at S1
  have HE := Lib.hid hE
  have HD := Lib.hid hD
  have hA := scanA_short (l := v) (by omega)
  clear hE hD hv
  rcases hs : scanL v with ts | ⟨o, x⟩
  · rw [hs] at hA
    have hn := (scanA_ok hA).2
    have hsh := toks_short hs (by omega) hn
    obtain ⟨hp, us, hu, hun, hsm⟩ := prRes_again hs (by omega)
    obtain ⟨W, hW⟩ : ∃ W, wrL true (toks v ts) = W := ⟨_, rfl⟩
    rw [hW] at hp hu hsm
    have S2 := Lib.hid (fun (w : World) (hE : Env w) => scan_any hE (B W))
    rw [B_list, hu] at S2
    rw [hA] at S1
    obtain ⟨n, hn'⟩ : ∃ n, ts.length + 1 = n := ⟨_, rfl⟩
    obtain ⟨m, hm'⟩ : ∃ m, us.length + 1 = m := ⟨_, rfl⟩
    have hnb : n ≤ 20000 := by omega
    have hmb : m ≤ 20000 := by omega
    rw [hn'] at hsh
    have HSH := Lib.hid hsh
    have HP := Lib.hid hp
    have HSM := Lib.hid hsm
    have HW := Lib.hid hW
    replace hn' := Lib.hid hn'
    replace hm' := Lib.hid hm'
    clear hs hA hn hu hun hp hsm hsh hW
    go_enter Tryz.func8, Tryz.ntmps8
    go_wp2_with fail
    go_at_call 11
    (with_reducible refine HC.out.mono ?_)
    rintro e1 w1 ⟨rfl, rfl⟩
    go_wp2_with fail
    go_at_call 12
    (with_reducible refine (S1.out _ HE.out).mono ?_)
    rintro e1 w2 ⟨hb2, A2, c2, rfl, hown⟩
    rw [rowC_rwT] at hown
    have HT := Lib.hid (TksW.of_own hown)
    rw [hn'.out] at HT ⊢
    replace HE := Lib.hid (HE.out.grow hb2)
    replace HD := Lib.hid (HD.out.grow hb2)
    have HG := Lib.hid hb2
    clear hown hb2 S1
    go_wp2_with fail
    go_at_call 14
    (with_reducible refine (known_any HE.out).mono ?_)
    rintro e1 w3 ⟨rfl, hb⟩
    replace HE := Lib.hid (HE.out.grow hb)
    replace HD := Lib.hid (HD.out.grow hb)
    replace HT := Lib.hid (HT.out.grow hb)
    replace HG := Lib.hid (G.trans HG.out hb)
    clear hb
    go_wp2_with fail
    go_at_call 38
    (with_reducible refine (print_any HE.out HD.out HT.out HSH.out).mono ?_)
    rw [HP.out]
    rintro e1 w4 ⟨rfl, hb⟩
    replace HE := Lib.hid (HE.out.grow hb)
    replace HD := Lib.hid (HD.out.grow hb)
    replace HT := Lib.hid (HT.out.grow hb)
    replace HG := Lib.hid (G.trans HG.out hb)
    clear hb
    dsimp only
    go_wp2_with fail
    go_at_call 12
    (with_reducible refine (S2.out _ HE.out).mono ?_)
    rintro e1 w5 ⟨hb, A5, c5, rfl, hown⟩
    rw [rowC_rwT] at hown
    have HU := Lib.hid (TksW.of_own hown)
    rw [hm'.out] at HU ⊢
    replace HE := Lib.hid (HE.out.grow hb)
    replace HD := Lib.hid (HD.out.grow hb)
    replace HT := Lib.hid (HT.out.grow hb)
    replace HG := Lib.hid (G.trans HG.out hb)
    clear hb hown S2
    go_wp2_with fail
    go_at_call 16
    (with_reducible refine (written_any HE.out HT.out HSH.out).mono ?_)
    rw [HW.out]
    rintro e1 w6 ⟨rfl, hb⟩
    replace HT := Lib.hid (HT.out.grow hb)
    replace HU := Lib.hid (HU.out.grow hb)
    replace HG := Lib.hid (G.trans HG.out hb)
    clear hb
    go_wp2_with fail
    go_at_call 39
    (with_reducible refine (same_prog HT.out HU.out (by omega) (by omega)).mono ?_)
    rw [HSM.out]
    rintro e1 w7 ⟨rfl, hb⟩
    replace HT := Lib.hid (HT.out.grow hb)
    replace HU := Lib.hid (HU.out.grow hb)
    replace HG := Lib.hid (G.trans HG.out hb)
    clear hb
    go_wp2_with fail
    go_at_call 15
    (with_reducible refine (same_false HT.out HU.out (by omega) (by omega)).mono ?_)
    rw [HSM.out]
    rintro e1 w8 ⟨rfl, hb⟩
    go_wp2_with fail
    go_ret
    exact ⟨rfl, G.trans HG.out hb⟩
  · rw [hs] at hA
    have hx0 := scanA_bad hA
    have kx : (x != 0) = true := by simp [hx0]
    rw [hA] at S1
    clear hs hA hx0
    go_enter Tryz.func8, Tryz.ntmps8
    go_wp2_with fail
    go_at_call 11
    (with_reducible refine HC.out.mono ?_)
    rintro e1 w1 ⟨rfl, rfl⟩
    go_wp2_with fail
    go_at_call 12
    (with_reducible refine (S1.out _ HE.out).mono ?_)
    rintro e1 w2 ⟨hb2, rfl⟩
    replace HE := Lib.hid (HE.out.grow hb2)
    go_wp2_with fail
    go_at_call 14
    (with_reducible refine (known_any HE.out).mono ?_)
    rintro e1 w3 ⟨rfl, hb3⟩
    replace HE := Lib.hid (HE.out.grow hb3)
    go_wp2_with fail
    go_at_call 14
    (with_reducible refine (known_any HE.out).mono ?_)
    rintro e1 w4 ⟨rfl, hb4⟩
    go_wp2_with fail
    go_ret
    exact ⟨rfl, G.trans (G.trans hb2 hb3) hb4⟩
end
theorem lexerPrints_any (t : ByteArray) (W : World) (ws : t.size ≤ maxLen) (hE : Env W ∧ Tab4 W) : Calls Tryz.prog 8 #[.string t] W fun e W' => e = .returned (.bool true) ∧ Below W.heap.size W W' := lexerPrints_w hE.1 hE.2 t
end Go.Proofs.YtmchiibbodllaaaGreatDoor
