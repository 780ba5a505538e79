/- The law's model: tokens. -/
import Derived.Test.YtmchiibbodllaaaGreatDoorMj
import Derived.Test.YtmchiibbodllaaaGreatDoorMk
import Derived.Test.YtmchiibbodllaaaGreatDoorTk
import Derived.Test.YtmchiibbodllaaaGreatDoorLKnown
namespace Go.Proofs.YtmchiibbodllaaaGreatDoor
set_option linter.unusedVariables false
set_option linter.unnecessarySimpa false
set_option linter.unusedSimpArgs false
open Go.RowKit

theorem scanA_le {l : List UInt8} (h : l.length ≤ 65536) : scanA l = scanL l := by unfold scanA; rw [if_neg (by omega)]
section
variable {w : World} {b i : Nat} {s : ByteArray} {ts : List Pl} {A : Option Addr} {c : Nat} {tb : Int}
theorem token_m (hE : Env w) (hgb : ¬ GB b) (h : Bx w b (mC s (i : Int) (.slice A ts.length c) 0 tb)) (hr : MRow w b s ts A c) (hs : s.size ≤ 100000) (hi : i < s.size) (hn : ts.length ≤ 20000) :
    Calls Tryz.prog 56 #[.pointer (some ⟨b, 0, none⟩)] w (RetTk w b s i ts tb (lex1 (s.data.toList.drop i))) := by
  have hw := lex1_way (s.data.toList.drop i)
  obtain ⟨k0, k1, k2, k3, k4⟩ := hw
  by_cases a1 : (nth (s.data.toList.drop i) 0).toNat = 120 ∧ (nth (s.data.toList.drop i) 1).toNat = 34
  · rw [k0 (by unfold way; rw [if_pos a1])]
    rw [nth_drop, nth_drop, Nat.add_zero] at a1
    exact token_x h hr hs hi hn a1.1 a1.2
  · by_cases a2 : isLet (nth (s.data.toList.drop i) 0) = true
    · rw [k1 (by unfold way; rw [if_neg a1, if_pos a2])]
      rw [nth_drop, nth_drop, Nat.add_zero] at a1
      rw [nth_drop, Nat.add_zero] at a2
      exact token_w h hr hs hi hn a2 a1
    · by_cases a3 : isDig (nth (s.data.toList.drop i) 0) = true
      · rw [k2 (by unfold way; rw [if_neg a1, if_neg a2, if_pos a3])]
        rw [nth_drop, Nat.add_zero] at a3
        exact token_n hE hgb h hr hs hi hn a3
      · by_cases a4 : (nth (s.data.toList.drop i) 0).toNat = 34
        · rw [k3 (by unfold way; rw [if_neg a1, if_neg a2, if_neg a3, if_pos a4])]
          rw [nth_drop, Nat.add_zero] at a4
          exact token_s hE hgb h hr hs hi hn a4
        · have hw4 : way (s.data.toList.drop i) = 4 := by unfold way; rw [if_neg a1, if_neg a2, if_neg a3, if_neg a4]
          rw [k4 hw4]
          exact token_y h hr hs hi hn hw4
def GoT (s : ByteArray) (b : Nat) (X : Sc) (wx : World) : Prop :=
  ∃ (f i : Nat) (last : Option Nat) (acc : List Pl) (A : Option Addr) (c : Nat), i ≤ s.size ∧ s.data.toList.length < i + f ∧ acc.length ≤ 16384 ∧ scanF s.data.toList f i last acc = X ∧
    Bx wx b (mC s (i : Int) (.slice A acc.length c) 0 (lastI last)) ∧ MRow wx b s acc A c
def BadT (s : ByteArray) (b : Nat) (X : Sc) (wx : World) : Prop :=
  ∃ (o : Nat) (e : Int) (lv : Value) (tb : Int), e ≠ 0 ∧ o ≤ s.size ∧ X = .bad o e ∧ Bx wx b (mC s (o : Int) lv e tb)
def msT (n b : Nat) (wx : World) : Nat := if rdI wx ⟨b, 3, none⟩ = 0 then n + 2 - (rdI wx ⟨b, 1, none⟩).toNat else 0
theorem msT_go {n b : Nat} {wx : World} {s : ByteArray} {p : Nat} {lv : Value} {tb : Int} (h : Bx wx b (mC s (p : Int) lv 0 tb)) : msT n b wx = n + 2 - p := by
  unfold msT
  rw [rdI_of h.c5.2.2.2.1, rdI_of h.c5.2.1]
  simp
theorem msT_bad {n b : Nat} {wx : World} {s : ByteArray} {i : Int} {lv : Value} {e tb : Int} (h : Bx wx b (mC s i lv e tb)) (hc : e ≠ 0) : msT n b wx = 0 := by
  unfold msT
  rw [rdI_of h.c5.2.2.2.1, if_neg hc]
theorem lastI_dec (last : Option Nat) (i : Nat) : decide (lastI last = (i : Int)) = decide (last = some i) := by
  cases last with
  | none => simp [lastI]
  | some j => exact decide_eq_decide.2 ⟨fun h => by have : (j : Int) = (i : Int) := h; rw [show j = i by omega], fun h => by cases h; rfl⟩
set_option maxRecDepth 20000 in set_option maxHeartbeats 8000000 in
theorem tokens_m (hE : Env w) (s : ByteArray) : Calls Tryz.prog 13 #[.string s] w (RetScan w s.data.toList (scanA s.data.toList)) := by
  have hll : s.data.toList.length = s.size := rfl
  by_cases hbig : 65536 < s.size
  · have hA : scanA s.data.toList = .bad 0 5 := by unfold scanA; rw [if_pos (by omega)]
    rw [hA]
    have l1 : (65536 : Int) < (s.size : Int) := by omega
    clear hA hbig hE
    go_enter Tryz.func13, Tryz.ntmps13
    go_wp2_with fail
    exact bodyPost_ret (v := .tuple #[.slice none 0 0, .int .i64 1, .int .i64 1, .int .i64 5]) (by simp only [results, Tryz.results13]; go_simp) rfl ⟨G.refl w, rfl⟩
  · have l1 : ¬ (65536 : Int) < (s.size : Int) := by omega
    obtain ⟨X, hX⟩ : ∃ X, scanA s.data.toList = X := ⟨_, rfl⟩
    rw [hX]
    have hs : s.size ≤ 100000 := by omega
    rw [scanA_le (by omega)] at hX
    have HE := Lib.hid hE
    have HX := Lib.hid hX
    obtain ⟨iU, hUi, hU0, hU1, hU2⟩ := info_parts infoTok
    have hbs : Hid (s.size ≤ 65536) := by unfold Hid; omega
    have FL := Lib.hid (fun (wx : World) (b : Nat) (i k e : Int) (lv : Value) (tb : Int) (hb : Bx wx b (mC s i lv 0 tb)) => fail_m hb k e)
    have PL := Lib.hid (fun (wx : World) (b : Nat) (i : Int) (k : Nat) (e : Int) (lv : Value) (tb : Int) (hk : k ≤ s.size) (hb : Bx wx b (mC s i lv e tb)) => place_m hb hs k hk)
    clear hX hbig hE
    go_enter Tryz.func13, Tryz.ntmps13
    go_wp2_with fail
    obtain ⟨b, hb⟩ : ∃ b, w.heap.size = b := ⟨_, rfl⟩
    rw [hb]
    refine wp_name (fun wx => Hid (Bx wx b (mC s 0 (.slice none 0 0) 0 (-1))) ∧ Hid (Below b w wx)) ⟨Bx.new hb.symm rfl, by rw [← hb]; exact G.alloc (G.refl w) _⟩ ?_
    rintro w1 ⟨HB, HG⟩
    have HBW := Lib.hid hb
    have hgb : ¬ GB b := HE.out.not (by omega)
    have hst : Hid (GoT s b X w1) := ⟨s.size + 1, 0, none, [], none, 0, Nat.zero_le _, by omega, by simp, HX.out, HB.out, ⟨rfl, .inl ⟨rfl, rfl⟩⟩⟩
    clear hb HB HX
    go_loopw [] (fun wx => Hid (GoT s b X wx ∨ BadT s b X wx) ∧ Hid (Below b w wx)) (fun wx => msT s.size b wx)
    case atStart => exact ⟨Lib.hid (.inl hst.out), HG⟩
    case round =>
      clear hst HG
      obtain ⟨HH, HG⟩ := hrel
      rcases HH.out with hgo | hbd
      · obtain ⟨f, i, last, acc, A, c, hi, hf, hacc, hsc, hbx, hrow⟩ := hgo
        have HB := Lib.hid hbx
        have HR := Lib.hid hrow
        have hm0 := Lib.hid (msT_go (n := s.size) hbx)
        obtain ⟨f, rfl⟩ : ∃ g, f = g + 1 := ⟨f - 1, by omega⟩
        have HF : Hid (s.size < i + (f + 1)) := hf
        have BL := Lib.hid (blanks_m hbx hs hi)
        have hbdd := blk_bd false s.data.toList (i := i) hi
        rw [scanF] at hsc
        obtain ⟨j, hj⟩ : ∃ j, i + blk false (s.data.toList.drop i) = j := ⟨_, rfl⟩
        rw [hj] at hsc hbdd BL
        have hjs : j ≤ s.size := hbdd
        have hij : i ≤ j := by omega
        have hEw : Hid (Env wr) := HE.out.grow (by rw [HBW.out]; exact HG.out)
        clear HH hbx hrow hbdd hj
        (obtain ⟨c0, c1, c2, c3, c4⟩ := HB.out.c5; obtain ⟨f0, f1, f2, f3, f4⟩ := HB.out.f5; have lt := HB.out.lt)
        go_wp2_with fail
        go_at_call 53
        (with_reducible refine BL.out.mono ?_)
        rintro e1 w2 ⟨rfl, hb2, hc2⟩
        have hbw : b ≤ wr.heap.size := Nat.le_of_lt HB.out.lt
        replace HR := Lib.hid (HR.out.chg hc2)
        replace hEw : Hid (Env w2) := hEw.out.chg hc2 hgb hgb
        replace HG : Hid (Below b w w2) := HG.out.trans (hc2.bel hbw)
        replace HB := Lib.hid hb2
        clear hb2 hc2 BL hbw
        clear c0 c1 c2 c3 c4 f0 f1 f2 f3 f4 lt
        (obtain ⟨c0, c1, c2, c3, c4⟩ := HB.out.c5; obtain ⟨f0, f1, f2, f3, f4⟩ := HB.out.f5; have lt := HB.out.lt)
        by_cases hend : j = s.size
        · have kE : ((j : Int) == (s.size : Int)) = true := by simp [hend]
          rw [if_pos (by omega)] at hsc
          have HX' := Lib.hid hsc.symm
          have hob := HR.out.lt
          obtain ⟨n, hn⟩ : ∃ n, acc.length = n := ⟨_, rfl⟩
          have HR2 : Hid (w2.ownsRow (b + 1) tT 8 (.slice A n c) n (rowC s.data.toList acc)) := by have := HR.out; unfold MRow at this; rw [hn] at this; exact this
          rw [hn] at HB c2 hob
          have hnb : n ≤ 16384 := by omega
          have HN := Lib.hid hn
          obtain ⟨⟨la, lb⟩, hlab⟩ : ∃ p, lnc s.data.toList s.size = p := ⟨_, rfl⟩
          have PL2 := Lib.hid (PL.out w2 b (j : Int) s.size 0 (.slice A n c) (lastI last) (Nat.le_refl _) HB.out)
          rw [hlab] at PL2
          dsimp only at PL2
          have HL := Lib.hid hlab
          have hT : Hid (rowC s.data.toList acc ++ tkC 0 la lb ⟨#[]⟩ ⟨#[]⟩ 0 0 false = rowC s.data.toList acc ++ endC s.data.toList) := by
            unfold Hid endC
            rw [hll, hlab]
          clear hsc hn hlab HR hend
          go_wp2_with (at_builtin; apply stopHere)
          go_at_call 54
          (with_reducible refine PL2.out.mono ?_)
          rintro e1 w3 ⟨rfl, rfl⟩
          go_wp2_with (at_builtin; apply stopHere)
          apply Lib.hid
          (refine wpList_app _ rfl (.tmp 41) (.tmp 45) _ rfl (b + 1) 33 iU _ 8 80 Tryz.underlying23 hUi hU0 hU1 hU2 rfl (by decide) _ n _ rfl (own_grow HR2.out (G.alloc (G.refl w3) _)) (some ⟨w3.heap.size, 0, none⟩) 1 1 (tkC 0 la lb ⟨#[]⟩ ⟨#[]⟩ 0 0 false) rfl (Sl.new rfl rfl) (tkC_one _ _ _ _ _ _ _ _) (by show _ ≤ 2 ^ 63 - 1; omega) (by omega) (by have := HB.out.lt; simp; omega) ?_; intro A3 cc3 w5 hown5 hc5 hm5 hg5; rw [hT.out] at hown5; refine wpList_nm (fun wx => Hid (wx.ownsRow (b + 1) tT 8 (.slice A3 (n + 1) cc3) (n + 1) (rowC s.data.toList acc ++ endC s.data.toList)) ∧ Hid (Below b w wx)) ⟨hown5, (HG.out.alloc (Nat.le_of_lt HB.out.lt) _).grown hg5 (by have := HB.out.lt; simp; omega) (fun k hk => by have := (hob _ hk).1; omega)⟩ ?_; clear hown5 hc5 hm5 hg5; rintro w8 ⟨HO8, HG8⟩)
          go_wp2_with fail
          refine bodyPost_ret (v := .tuple #[.slice A3 (n + 1) cc3, .int .i64 0, .int .i64 0, .int .i64 0]) (by simp only [results, Tryz.results13]; go_simp) rfl ?_
          rw [HX'.out]
          refine ⟨by rw [HBW.out]; exact HG8.out, A3, cc3, by rw [HN.out], ?_⟩
          rw [HN.out]
          exact own_mono HO8.out (by have := HBW.out; omega)
        · have kE : ((j : Int) == (s.size : Int)) = false := by simp; omega
          rw [if_neg (by omega)] at hsc
          have hjl : j < s.size := by omega
          by_cases hmax : acc.length = 16384
          · rw [if_pos hmax] at hsc
            have HX' := Lib.hid hsc.symm
            have kM : ((acc.length : Int) == 16384) = true := by simp [hmax]
            have kM2 : (acc.length : Int) = 16384 := by omega
            have HLN := Lib.hid kM2
            clear hsc hmax kM2
            go_wp2_with fail
            go_at_call 55
            (with_reducible refine (FL.out _ _ _ _ _ _ _ HB.out).mono ?_)
            rintro e1 w4 ⟨rfl, hb4, hc4⟩
            have HC4 := Lib.hid hc4
            have HB4 := Lib.hid hb4
            clear hb4 hc4
            clear c0 c1 c2 c3 c4 f0 f1 f2 f3 f4 lt
            obtain ⟨c0, c1, c2, c3, c4⟩ := HB4.out.c5
            obtain ⟨f0, f1, f2, f3, f4⟩ := HB4.out.f5
            have lt := HB4.out.lt
            go_wp2_with fail
            go_at_call 54
            (with_reducible refine (PL.out _ _ _ j _ _ _ hjs HB4.out).mono ?_)
            rintro e1 w3 ⟨rfl, rfl⟩
            obtain ⟨⟨la, lb⟩, hlab⟩ : ∃ p, lnc s.data.toList j = p := ⟨_, rfl⟩
            rw [hlab]
            dsimp only
            have HL := Lib.hid hlab
            go_wp2_with fail
            refine wp_region_ord [(0, 1), (1, 1), (2, 1), (3, 1), (4, 1), (5, 1), (6, 1), (7, 1), (8, 1), (9, 1)] [] 5 (by kernel_rfl) (by decide +kernel) ?_
            simp only [pickO, List.append_eq, List.cons_append, List.nil_append, List.getElem?_cons_succ, List.getElem?_cons_zero]
            intro w0 hG
            (repeat ((first | (with_reducible refine ord_q1 ?_) | (with_reducible refine ord_q0 ?_)); intro K hK; first | (refine Or.inr ⟨?_, ?_⟩; (focus (go_simp; first | done | (simp [undef]; done))); go_simp; (with_reducible refine hK _ ?_); clear hK K) | (refine Or.inl ⟨?_, ?_⟩; (focus (go_simp; done)); apply Exists.intro; refine And.intro ?_ ?_; (focus (first | (intro wq hq; obtain ⟨hcq, hfq⟩ := G.old hq; go_simp; (first | done | exact rfl); done) | (intro wq; go_simp; (first | done | exact rfl); done))); go_simp; (with_reducible refine hK _ ?_); clear hK K) | fail))
            (with_reducible refine ord_nil ?_)
            have hb9 := hG.b
            go_wp2_with fail
            refine bodyPost_ret (v := .tuple #[.slice none 0 0, .int .i64 la, .int .i64 lb, .int .i64 9]) (by simp only [results, Tryz.results13]; go_simp) rfl ?_
            rw [HX'.out]
            refine ⟨by rw [HBW.out]; exact (HG.out.trans (HC4.out.bel (Nat.le_of_lt HB.out.lt))).trans (hb9.mono (Nat.le_of_lt HB4.out.lt)), ?_⟩
            show _ = Ending.returned (.tuple #[.slice none 0 0, .int .i64 (lnc s.data.toList j).1, .int .i64 (lnc s.data.toList j).2, .int .i64 9])
            rw [HL.out]
          · rw [if_neg hmax] at hsc
            have HA2 : Hid (acc.length + 1 ≤ 16384) := by unfold Hid; omega
            have kM : ((acc.length : Int) == 16384) = false := by simp; omega
            have TK := Lib.hid (token_m hEw.out hgb HB.out HR.out hs hjl (by omega))
            have hin := lex1_in (r := s.data.toList.drop j) (by rw [List.length_drop]; omega)
            rcases hx : lex1 (s.data.toList.drop j) with ⟨n, t⟩ | ⟨o, e⟩
            · rw [hx] at hsc hin TK
              obtain ⟨hn1, hn2'⟩ := hin
              have hn2 : n ≤ s.size - j := by rw [List.length_drop] at hn2'; exact hn2'
              simp only at hsc
              rw [← lastI_dec] at hsc
              have HSC := Lib.hid hsc
              clear hsc hx hmax
              go_wp2_with fail
              go_at_call 56
              (with_reducible refine TK.out.mono ?_)
              rintro e1 w3 ⟨rfl, hb3, A3, c3', hbx3, hr3⟩
              have hgo : Hid (GoT s b X w3) := ⟨f, j + n, some (j + n), acc ++ [⟨j, decide (lastI last = (j : Int)), t⟩], A3, c3', by omega, by have := HF.out; rw [hll]; omega, by rw [List.length_append]; exact HA2.out, HSC.out, by rw [List.length_append]; exact hbx3, hr3⟩
              have hms : Hid (msT s.size b w3 = s.size + 2 - (j + n)) := msT_go hbx3
              replace HG := Lib.hid (HG.out.trans hb3)
              clear hbx3 hr3 hb3 TK HSC
              go_wp2_with fail
              go_roundw
              case rel => exact ⟨Lib.hid (.inl hgo.out), HG⟩
              case measure =>
                rw [hms.out, hm0.out]
                omega
            · rw [hx] at hsc hin TK
              obtain ⟨hn1', hn2⟩ := hin
              have hn1 : o ≤ s.size - j := by rw [List.length_drop] at hn1'; exact hn1'
              simp only at hsc
              have HSC := Lib.hid hsc
              clear hsc hx hmax
              go_wp2_with fail
              go_at_call 56
              (with_reducible refine TK.out.mono ?_)
              rintro e1 w3 ⟨rfl, hb3, lv3, tb3, hbx3⟩
              have hgo : Hid (BadT s b X w3) := ⟨j + o, e, lv3, tb3, hn2, by omega, HSC.out.symm, hbx3⟩
              have hms : Hid (msT s.size b w3 = 0) := msT_bad hbx3 hn2
              replace HG := Lib.hid (HG.out.trans hb3)
              clear hbx3 hb3 TK HSC
              go_wp2_with fail
              go_roundw
              case rel => exact ⟨Lib.hid (.inr hgo.out), HG⟩
              case measure =>
                rw [hms.out, hm0.out]
                omega
      · obtain ⟨o, e, lv, tb, he, ho, hX, hbx⟩ := hbd
        have HB := Lib.hid hbx
        have ke : (e == 0) = false := by simp [he]
        have HX' := Lib.hid hX
        clear HH hbx hX he
        (obtain ⟨c0, c1, c2, c3, c4⟩ := HB.out.c5; obtain ⟨f0, f1, f2, f3, f4⟩ := HB.out.f5; have lt := HB.out.lt)
        go_wp2_with fail
        go_at_call 54
        (with_reducible refine (PL.out _ _ _ o _ _ _ ho HB.out).mono ?_)
        rintro e1 w3 ⟨rfl, rfl⟩
        obtain ⟨⟨la, lb⟩, hlab⟩ : ∃ p, lnc s.data.toList o = p := ⟨_, rfl⟩
        rw [hlab]
        dsimp only
        have HL := Lib.hid hlab
        go_wp2_with fail
        refine wp_region_ord [(0, 1), (1, 1), (2, 1), (3, 1), (4, 1), (5, 1), (6, 1), (7, 1), (8, 1), (9, 1)] [] 5 (by kernel_rfl) (by decide +kernel) ?_
        simp only [pickO, List.append_eq, List.cons_append, List.nil_append, List.getElem?_cons_succ, List.getElem?_cons_zero]
        intro w0 hG
        (repeat ((first | (with_reducible refine ord_q1 ?_) | (with_reducible refine ord_q0 ?_)); intro K hK; first | (refine Or.inr ⟨?_, ?_⟩; (focus (go_simp; first | done | (simp [undef]; done))); go_simp; (with_reducible refine hK _ ?_); clear hK K) | (refine Or.inl ⟨?_, ?_⟩; (focus (go_simp; done)); apply Exists.intro; refine And.intro ?_ ?_; (focus (first | (intro wq hq; obtain ⟨hcq, hfq⟩ := G.old hq; go_simp; (first | done | exact rfl); done) | (intro wq; go_simp; (first | done | exact rfl); done))); go_simp; (with_reducible refine hK _ ?_); clear hK K) | fail))
        (with_reducible refine ord_nil ?_)
        have hb9 := hG.b
        go_wp2_with fail
        refine bodyPost_ret (v := .tuple #[.slice none 0 0, .int .i64 la, .int .i64 lb, .int .i64 e]) (by simp only [results, Tryz.results13]; go_simp) rfl ?_
        rw [HX'.out]
        refine ⟨by rw [HBW.out]; exact HG.out.trans (hb9.mono (Nat.le_of_lt HB.out.lt)), ?_⟩
        show _ = Ending.returned (.tuple #[.slice none 0 0, .int .i64 (lnc s.data.toList o).1, .int .i64 (lnc s.data.toList o).2, .int .i64 e])
        rw [HL.out]
theorem plc_len : ∀ (ps : List Pc) (i : Nat) (fst : Bool), (plc i fst ps).length = ps.length
  | [], _, _ => rfl
  | p :: ps, i, fst => by rw [plc, List.length_cons, List.length_cons, plc_len ps]
theorem nilT (w : World) : TksW w none 0 0 [] := ⟨rfl, Nat.le_refl 0, Nat.zero_le _, Sl.nil _ _⟩
set_option maxRecDepth 20000 in set_option maxHeartbeats 4000000 in
theorem lexerScans_w (hE : Env w) (s : ByteArray) : Calls Tryz.prog 3 #[.string s] w fun e w' => e = .returned (.bool true) ∧ Below w.heap.size w w' := by
  obtain ⟨v, hv⟩ : ∃ v, s.data.toList.take 1500 = v := ⟨_, rfl⟩
  have hvl : v.length ≤ 1500 := by rw [← hv, List.length_take]; omega
  have HC := Lib.hid (cut_any1 (w := w) s)
  rw [hv] at HC
  have S1 := Lib.hid (fun (w : World) (hE : Env w) => scan_any hE (B v))
  have S2 := Lib.hid (fun (w : World) (hE : Env w) => tokens_m hE (B v))
  rw [B_list] at S1 S2
  have HE := Lib.hid hE
  have hA := scanA_le (l := v) (by omega)
  clear hE hv
  rcases hs : scanL v with ts | ⟨o, x⟩
  · rw [hs] at hA
    have hn : ts.length ≤ 16384 := by
      obtain ⟨ps, _, rfl, hc⟩ := scanL_ok hs
      rw [plc_len]
      exact hc
    rw [hA] at S1 S2
    obtain ⟨n, hn'⟩ : ∃ n, ts.length + 1 = n := ⟨_, rfl⟩
    have hnb : n ≤ 20000 := by omega
    have HN := Lib.hid hn'
    clear hs hA hn hn'
    go_enter Tryz.func3, Tryz.ntmps3
    go_wp2_with fail
    go_at_call 11
    (with_reducible refine HC.out.mono ?_)
    rintro e1 w1 ⟨rfl, rfl⟩
    go_wp2_with fail
    go_at_call 12
    (with_reducible refine (S1.out _ HE.out).mono ?_)
    rintro e1 w2 ⟨hb2, A2, c2, rfl, hown⟩
    rw [rowC_rwT] at hown
    have HT := Lib.hid (TksW.of_own hown)
    rw [HN.out] at HT ⊢
    replace HE := Lib.hid (HE.out.grow hb2)
    have HG := Lib.hid hb2
    clear hown hb2 S1
    go_wp2_with fail
    go_at_call 13
    (with_reducible refine (S2.out _ HE.out).mono ?_)
    rintro e1 w5 ⟨hb, A5, c5, rfl, hown⟩
    rw [rowC_rwT] at hown
    have HU := Lib.hid (TksW.of_own hown)
    rw [HN.out] at HU ⊢
    replace HE := Lib.hid (HE.out.grow hb)
    replace HT := Lib.hid (HT.out.grow hb)
    replace HG := Lib.hid (G.trans HG.out hb)
    clear hb hown S2
    go_wp2_with fail
    go_at_call 14
    (with_reducible refine (known_any HE.out).mono ?_)
    rintro e1 w6 ⟨rfl, hb⟩
    replace HT := Lib.hid (HT.out.grow hb)
    replace HU := Lib.hid (HU.out.grow hb)
    replace HG := Lib.hid (G.trans HG.out hb)
    clear hb
    go_wp2_with fail
    go_at_call 15
    (with_reducible refine (same_true HT.out HU.out (by omega) (by omega)).mono ?_)
    rw [sameB_self]
    rintro e1 w8 ⟨rfl, hb⟩
    go_wp2_with fail
    go_ret
    exact ⟨rfl, G.trans HG.out hb⟩
  · rw [hs] at hA
    rw [hA] at S1 S2
    have HZ := Lib.hid (fun w => same_true (w := w) (nilT w) (nilT w) (by omega) (by omega))
    obtain ⟨⟨la, lb⟩, hlab⟩ : ∃ p, lnc v o = p := ⟨_, rfl⟩
    have HL := Lib.hid hlab
    clear hs hA hlab
    go_enter Tryz.func3, Tryz.ntmps3
    go_wp2_with fail
    go_at_call 11
    (with_reducible refine HC.out.mono ?_)
    rintro e1 w1 ⟨rfl, rfl⟩
    go_wp2_with fail
    go_at_call 12
    (with_reducible refine (S1.out _ HE.out).mono ?_)
    rintro e1 w2 ⟨hb2, rfl⟩
    rw [HL.out]
    dsimp only
    replace HE := Lib.hid (HE.out.grow hb2)
    go_wp2_with fail
    go_at_call 13
    (with_reducible refine (S2.out _ HE.out).mono ?_)
    rintro e1 w3 ⟨hb3, rfl⟩
    rw [HL.out]
    dsimp only
    replace HE := Lib.hid (HE.out.grow hb3)
    go_wp2_with fail
    go_at_call 14
    (with_reducible refine (known_any HE.out).mono ?_)
    rintro e1 w4 ⟨rfl, hb4⟩
    go_wp2_with fail
    go_at_call 15
    (with_reducible refine (HZ.out _).mono ?_)
    rw [sameB_self]
    rintro e1 w5 ⟨rfl, hb5⟩
    go_wp2_with fail
    go_ret
    exact ⟨rfl, G.trans (G.trans (G.trans hb2 hb3) hb4) hb5⟩
end
theorem lexerScans_any (t : ByteArray) (W : World) (ws : t.size ≤ maxLen) (hE : Env W) : Calls Tryz.prog 3 #[.string t] W fun e W' => e = .returned (.bool true) ∧ Below W.heap.size W W' := lexerScans_w hE t
end Go.Proofs.YtmchiibbodllaaaGreatDoor
