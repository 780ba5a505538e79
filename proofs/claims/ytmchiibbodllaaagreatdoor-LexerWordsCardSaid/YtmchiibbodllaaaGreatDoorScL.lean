/- lexer: Scan. -/
import Derived.Test.YtmchiibbodllaaaGreatDoorScK
import Derived.Lib.ConvBytes
import Derived.Lib.SmallJoins
namespace Go.Proofs.YtmchiibbodllaaaGreatDoor
set_option linter.unusedVariables false
set_option linter.unnecessarySimpa false
set_option linter.unusedSimpArgs false
open Go.RowKit

def RetScan (w : World) (l : List UInt8) (r : Sc) (e : Ending) (w' : World) : Prop :=
  Below w.heap.size w w' ∧ match r with
  | .ok ts => ∃ A c, e = .returned (.tuple #[.slice A (ts.length + 1) c, .int .i64 0, .int .i64 0, .int .i64 0]) ∧ w'.ownsRow w.heap.size tT 8 (.slice A (ts.length + 1) c) (ts.length + 1) (rowC l ts ++ endC l)
  | .bad o x => e = .returned (.tuple #[.slice none 0 0, .int .i64 (lnc l o).1, .int .i64 (lnc l o).2, .int .i64 x])
def scanA (l : List UInt8) : Sc := if 65536 < l.length then .bad 0 5 else scanL l
/-- []byte(s). -/
theorem conv_bytes (w : World) (s : ByteArray) : ∃ C W, (convert 9 63 (.string s)).run Tryz.prog w = .ok (.slice (some ⟨w.heap.size, 0, none⟩) s.size C) W ∧ Below w.heap.size w W ∧ w.heap.size < W.heap.size ∧ ∀ k, k < s.size → W.cell? ⟨w.heap.size, k, none⟩ = some (.int .u8 ((nth s.data.toList k).toNat : Int)) :=
  ⟨_, _, Lib.run_convert_string_bytes w 9 63 5 s Tryz.underlying9 Tryz.underlying63 Tryz.underlying5, Joins.below_bytesWorld _ _ _ _ (Nat.le_refl _), by rw [Lib.bytesWorld_size]; omega, fun k hk => Lib.bytesWorld_cell w 5 s k hk⟩
theorem lnc_step {l : List UInt8} {i : Nat} (h : i < l.length) : lnc l (i + 1) = if (nth l i).toNat = 10 then ((lnc l i).1 + 1, 1) else ((lnc l i).1, (lnc l i).2 + 1) := by
  unfold lnc
  rw [lc_take h]
  unfold lcF
  split <;> simp
theorem lnc_bd (l : List UInt8) (i : Nat) : 1 ≤ (lnc l i).1 ∧ (lnc l i).1 ≤ l.length + 1 ∧ 1 ≤ (lnc l i).2 ∧ (lnc l i).2 ≤ l.length + 1 := by
  have := lc_bd (l.take i)
  rw [List.length_take] at this
  unfold lnc
  simp only
  omega
section
variable {w w1 w2 w3 : World} {b r base n : Nat} {v : Value} {xs : List Value}
theorem own_chg (h : w1.ownsRow base tT 8 v n xs) (hc : Chg b r w1 w3) (hb : b < base) (hr : w1.heap.size ≤ r) : w3.ownsRow base tT 8 v n xs :=
  own_at h fun g hg hl => hc.2.2 g ⟨by omega, by omega⟩ hl
theorem own_chg1 (h : w1.ownsRow base tT 8 v n xs) (hc : Chg b b w1 w3) (hb : b < base) : w3.ownsRow base tT 8 v n xs :=
  own_at h fun g hg hl => hc.2.2 g ⟨by omega, by omega⟩ hl
def Ways (b W : Nat) (w : World) : Prop := ∀ k u, (waysV b)[k]? = some u → w.cell? ⟨W, k, none⟩ = some u
theorem Ways.lt {W : Nat} (h : Ways b W w) : W < w.heap.size := cell_lt (h 0 _ rfl)
theorem Ways.chg {W : Nat} (h : Ways b W w) (hc : Chg b r w w2) (hb : W ≠ b) (hr : W ≠ r) : Ways b W w2 := fun k u hu => hc.2.cell (h k u hu) ⟨hb, hr⟩
theorem Ways.grow {W : Nat} (h : Ways b W w) (hb : Below w.heap.size w w2) : Ways b W w2 := fun k u hu => G.cell (h k u hu) hb
theorem Ways.below {W L : Nat} (h : Ways b W w) (hb : Below L w w2) (hl : W < L) : Ways b W w2 := fun k u hu => (hb.cell (p := ⟨W, k, none⟩) hl).trans (h k u hu)
/-- What the scanner's loop keeps. -/
def ScIn (w0 : World) (s : ByteArray) (b W : Nat) (i : Nat) (v : Value) (acc : List Pl) (wx : World) : Prop :=
  Below w0.heap.size w0 wx ∧ Bx wx b (scC s (i : Int) 0 0) ∧ Ways b W wx ∧ wx.ownsRow (W + 1) tT 8 v acc.length (rowC s.data.toList acc)
def lastI : Option Nat → Int
  | none => -1
  | some i => i
theorem lexY_bad {q : List UInt8} (h : okY q = false) : lexY q = .bad 0 6 := by
  unfold okY at h
  unfold lexY at h ⊢
  by_cases h1 : q.take 2 ∈ pairsL
  · rw [if_pos h1] at h; cases h
  · rw [if_neg h1] at h ⊢
    by_cases h2 : nth q 0 ∈ singlesL
    · rw [if_pos h2] at h; cases h
    · rw [if_neg h2]
set_option maxRecDepth 20000 in set_option maxHeartbeats 1000000 in
theorem scan_long (s : ByteArray) (h : 65536 < s.size) : Calls Tryz.prog 12 #[.string s] w (RetScan w s.data.toList (scanA s.data.toList)) := by
  have hr : Hid (scanA s.data.toList = .bad 0 5) := if_pos h
  have h' : (65536 : Int) < (s.size : Int) := by omega
  go_enter Tryz.func12, Tryz.ntmps12
  go_wp2_with fail
  refine bodyPost_ret (v := .tuple #[.slice none 0 0, .int .i64 1, .int .i64 1, .int .i64 5]) (by simp only [results, Tryz.results12]; go_simp) rfl ?_
  rw [hr.out]
  exact ⟨G.refl _, rfl⟩
set_option maxRecDepth 20000 in set_option maxHeartbeats 16000000 in
theorem scan_short (hE : Env w) (s : ByteArray) (h : s.size ≤ 65536) : Calls Tryz.prog 12 #[.string s] w (RetScan w s.data.toList (scanL s.data.toList)) := by
  have HE := Lib.hid hE
  obtain ⟨i0, hi, hz0, hz1, hz2⟩ := info_parts infoTok
  have h' : ¬ (65536 : Int) < (s.size : Int) := by omega
  have hmf : ∀ (fn : Fn) (first cap : Array Value) (w : World), (Instr.makeFunc fn first cap).run Tryz.prog w = .ok (.func fn first cap) w := fun _ _ _ _ => rfl
  have hll : Hid (s.data.toList.length = s.size) := rfl
  clear hE
  go_enter Tryz.func12, Tryz.ntmps12
  go_wp2_with fail
  obtain ⟨b, hb⟩ : ∃ b, w.heap.size = b := ⟨_, rfl⟩
  rw [hb]
  refine wp_name (fun wx => ScIn w s b (b + 1) 0 (.slice none 0 0) [] wx) ?_ ?_
  · refine ⟨((G.refl w).alloc (by omega) _).alloc (by simp) _, (Bx.new hb.symm rfl).alloc _, ?_, ⟨rfl, .inl ⟨rfl, rfl⟩⟩⟩
    intro k u hu
    have hB := Bx.new (w := w.alloc (.cells #[.string s, .int .i64 0, .int .i64 0, .int .i64 0] 60)) (B := b + 1) (l := waysV b) (t := 61) (by simp; omega) (rfl : (_ : Array Value) = _)
    exact (hB.2 k u hu).1
  intro wS HS
  replace HS := Lib.hid HS
  go_loopw [2, 3, 4, 8, 9] (fun lv lnv clv frv lav wx => ∃ (i fr f : Nat) (A : Option Addr) (c : Nat) (acc : List Pl) (last : Option Nat), i ≤ s.size ∧ fr ≤ i ∧ Hid (scanL s.data.toList = scanF s.data.toList f i last acc) ∧ s.size < i + f ∧ acc.length ≤ 16384 ∧ lv = .slice A acc.length c ∧ lnv = .int .i64 (lnc s.data.toList fr).1 ∧ clv = .int .i64 (lnc s.data.toList fr).2 ∧ frv = .int .i64 fr ∧ lav = .int .i64 (lastI last) ∧ (last = none ∧ i = 0 ∨ last = some i) ∧ Hid (ScIn w s b (b + 1) i lv acc wx)) (fun _ _ _ _ lav _ => s.size + 2 - (intOf lav + 1).toNat)
  case atStart => exact ⟨0, 0, s.size + 1, none, 0, [], none, by omega, by omega, Lib.hid rfl, by omega, by simp, rfl, rfl, rfl, rfl, rfl, .inl ⟨rfl, rfl⟩, HS⟩
  case round =>
    clear HS
    obtain ⟨i, fr, f, A, c, acc, last, hi1, hfr, hsc, hfu, hal, rfl, rfl, rfl, rfl, rfl, hla, HS⟩ := hrel
    obtain ⟨f, rfl⟩ : ∃ g, f = g + 1 := ⟨f - 1, by omega⟩
    have hbd := blk_bd false s.data.toList (i := i) (by rw [hll.out]; exact hi1)
    rw [hll.out] at hbd
    unfold scanF at hsc
    have BL := Lib.hid (fun wx hx => blanks_any (w := wx) (b := b) (s := s) (i := i) (wg := 0) (e := 0) hx (by omega) hi1)
    obtain ⟨g, hg⟩ : ∃ g, i + blk false (s.data.toList.drop i) = g := ⟨_, rfl⟩
    rw [hg] at hsc hbd BL
    have hig : i ≤ g := by omega
    have hlaI : (last = some g) ↔ ((g : Int) == lastI last) = true := by
      rcases hla with ⟨rfl, rfl⟩ | rfl
      · first | (simp [lastI]; done) | (simp [lastI]; omega)
      · first | (simp [lastI]; done) | (simp [lastI]; omega)
    clear hg
    replace hlaI := Lib.hid hlaI
    obtain ⟨hF, hB, hW, hR⟩ := HS.out
    have HB := Lib.hid hB
    have hL : Hid (w.heap.size = b) := hb
    clear HS
    have ltb := hB.lt
    go_wp2_with fail
    go_at_call 48
    (with_reducible refine (BL.out _ HB.out).mono ?_)
    rintro e1 w1 ⟨rfl, hb1, hc1⟩
    replace HB := Lib.hid hb1
    have HF := Lib.hid (hF.trans (hc1.below (by omega) (by omega) (by have := hF.size; omega)))
    have HW := Lib.hid (hW.chg hc1 (by omega) (by omega))
    have HR := Lib.hid (own_chg1 hR hc1 (by omega))
    clear hb1 hc1 hF hB hW hR ltb
    (obtain ⟨c0, c1, c2, c3⟩ := HB.out.c4; obtain ⟨f0, f1, f2, f3⟩ := HB.out.f4; have lt := HB.out.lt)
    obtain ⟨C, w2, hrun, hbb, hsz2, hcell⟩ := conv_bytes w1 (s.extract fr g)
    have hxs : (s.extract fr g).size = g - fr := by rw [ByteArray.size_extract]; omega
    have hxd : (s.extract fr g).data.toList = (s.data.toList.drop fr).take (g - fr) := by rw [ext_eq, B_list]
    rw [hxs] at hrun hcell
    rw [hxd] at hcell
    have hcell2 : Hid (∀ k, k < g - fr → w2.cell? ⟨w1.heap.size, k, none⟩ = some (.int .u8 ((nth s.data.toList (fr + k)).toNat : Int))) := fun k hk => by
      rw [hcell k hk, nth_takeC hk, nth_drop]
    have HB2 := Lib.hid (HB.out.grow hbb)
    have HF2 := Lib.hid (HF.out.trans (hbb.mono HF.out.size))
    have HW2 := Lib.hid (HW.out.grow hbb)
    have HR2 := Lib.hid (own_grow HR.out hbb)
    have HE2 := Lib.hid (HE.out.keep (Keeps.trans' (Keeps.refl GB w) (Nat.le_refl _) HF2.out))
    obtain ⟨N, hN⟩ : ∃ N, g - fr = N := ⟨_, rfl⟩
    rw [hN] at hrun hcell2
    obtain ⟨Q, hQ⟩ : ∃ Q, w1.heap.size = Q := ⟨_, rfl⟩
    rw [hQ] at hrun hcell2 hsz2
    have hfr1 : (fr : Int) ≤ (g : Int) := by omega
    have hfr2 : (g : Int) ≤ (s.size : Int) := by omega
    have hfr3 : (0 : Int) ≤ (fr : Int) := by omega
    clear hcell hbb hxs hxd
    go_wp2_with fail
    clear hrun
    go_loopw [3, 4, 41] (fun lnv clv kv wx => ∃ k : Nat, k ≤ N ∧ kv = .int .i64 k ∧ lnv = .int .i64 (lnc s.data.toList (fr + k)).1 ∧ clv = .int .i64 (lnc s.data.toList (fr + k)).2 ∧ w2 = wx) (fun _ _ kv _ => N - (intOf kv).toNat)
    case atStart => exact ⟨0, Nat.zero_le _, rfl, rfl, rfl, rfl⟩
    case round =>
      obtain ⟨k, hk, rfl, rfl, rfl, rfl⟩ := hrel
      by_cases hlt : k < N
      · have hlt' : (k : Int) < (N : Int) := by omega
        have hcl := hcell2.out k hlt
        have hst := lnc_step (l := s.data.toList) (i := fr + k) (by rw [hll.out]; omega)
        have hbd2 := lnc_bd s.data.toList (fr + k)
        rw [hll.out] at hbd2
        obtain ⟨d, hd⟩ : ∃ d, nth s.data.toList (fr + k) = d := ⟨_, rfl⟩
        rw [hd] at hcl hst
        obtain ⟨⟨x, y⟩, hxy⟩ : ∃ p, lnc s.data.toList (fr + k) = p := ⟨_, rfl⟩
        rw [hxy] at hst hbd2
        simp only [hxy]
        dsimp only at hst hbd2 ⊢
        have hw1 : IntKind.i64.wrap (y + 1) = y + 1 := IntWalk.i64_in _ (by omega)
        have hw2 : IntKind.i64.wrap (x + 1) = x + 1 := IntWalk.i64_in _ (by omega)
        obtain ⟨k10, hk10⟩ : ∃ q, ((d.toNat : Int) == 10) = q := ⟨_, rfl⟩
        have e10 : d.toNat = 10 ↔ k10 = true := by rw [← hk10]; simp; omega
        rw [show fr + k + 1 = fr + (k + 1) by omega] at hst
        cases k10
        · have hs2 : Hid (lnc s.data.toList (fr + (k + 1)) = (x, y + 1)) := by unfold Hid; rw [hst, if_neg (fun h => by have := e10.1 h; cases this)]
          clear hst e10 hd hxy
          go_wp2_with fail
          go_roundw
          case rel => exact ⟨k + 1, by omega, by go_num, by rw [hs2.out], by rw [hs2.out], by first | rfl | trivial⟩
          case measure => simp [intOf]; omega
        · have hs2 : Hid (lnc s.data.toList (fr + (k + 1)) = (x + 1, 1)) := by unfold Hid; rw [hst, if_pos (e10.2 rfl)]
          clear hst e10 hd hxy
          go_wp2_with fail
          go_roundw
          case rel => exact ⟨k + 1, by omega, by go_num, by rw [hs2.out], by rw [hs2.out], by first | rfl | trivial⟩
          case measure => simp [intOf]; omega
      · obtain rfl : k = N := by omega
        have hfk : fr + k = g := by omega
        rw [hfk]
        clear hcell2 hfk
        obtain ⟨⟨x, y⟩, hxy⟩ : ∃ p, lnc s.data.toList g = p := ⟨_, rfl⟩
        simp only [hxy]
        replace hxy := Lib.hid hxy
        have HB := HB2
        (obtain ⟨c0, c1, c2, c3⟩ := HB.out.c4; obtain ⟨f0, f1, f2, f3⟩ := HB.out.f4; have lt := HB.out.lt)
        by_cases hend : s.size ≤ g
        · have hend' : (s.size : Int) ≤ (g : Int) := by omega
          have hok : Hid (scanL s.data.toList = .ok acc) := by
            unfold Hid
            rw [hsc.out, if_pos (by rw [hll.out]; exact hend)]
          have hgs : g = s.size := by omega
          have hR2 := HR2.out
          have hF2 := HF2.out
          have hs2 := hF2.size
          go_wp2_with (at_builtin; refine wpList_append_own _ rfl _ _ 23 rfl (b + 1 + 1) 33 i0 _ 8 80 Tryz.underlying23 hi hz0 hz1 hz2 rfl (by decide) _ _ _ rfl ((hR2.alloc _).alloc _) ⟨w2.heap.size + 1, 0, none⟩ 1 1 (tkC 0 x y ⟨#[]⟩ ⟨#[]⟩ 0 0 false) rfl rfl ?c1 ?c2 ?c3 ?c4 ?c5 ?_)
          case c1 =>
            intro q u hq
            have hB := (Bx.new (w := w2.alloc (.cells #[.int .i64 0, .int .i64 x, .int .i64 y, .string ⟨#[]⟩, .string ⟨#[]⟩, .int .i64 0, .int .i64 0, .bool false] 33)) (B := w2.heap.size + 1) (l := tkC 0 x y ⟨#[]⟩ ⟨#[]⟩ 0 0 false) (t := 33) (by simp) rfl).2 q u hq
            rw [addr_add]
            exact hB.1
          case c2 => exact tkC_one _ _ _ _ _ _ _ _
          case c3 => unfold maxLen; omega
          case c4 => omega
          case c5 => simp; omega
          intro v' w4 hown' hgrow _
          obtain ⟨a, cap, rfl⟩ := own_slice hown'
          have hFz : Below w.heap.size w w4 := ((hF2.alloc (by omega) _).alloc (by simp; omega) _).grown hgrow (by simp; omega) (fun q hq => by have := (hR2.lt q hq).1; have := hL.out; omega)
          replace hgrow := Lib.hid hgrow
          replace hown' := Lib.hid hown'
          replace hFz := Lib.hid hFz
          go_wp2_with fail
          refine bodyPost_ret (v := .tuple #[.slice a (acc.length + 1) cap, .int .i64 0, .int .i64 0, .int .i64 0]) (by simp only [results, Tryz.results12]; go_simp) rfl ?_
          rw [hok.out]
          refine ⟨hFz.out, a, cap, rfl, ?_⟩
          have : endC s.data.toList = tkC 0 x y ⟨#[]⟩ ⟨#[]⟩ 0 0 false := by unfold endC; rw [hll.out, ← hgs, hxy.out]
          rw [this]
          exact own_mono hown'.out (by have := hL.out; omega)
        · have hend' : ¬ (s.size : Int) ≤ (g : Int) := by omega
          have hsc2 := hsc.out
          rw [if_neg (by rw [hll.out]; exact hend)] at hsc2
          have hgb : ¬ GB b := HE.out.not (by have := hL.out; omega)
          by_cases hmx : acc.length = 16384
          · have hmx' : (((acc.length : Nat) : Int) == 16384) = true := by rw [hmx]; rfl
            rw [if_pos hmx] at hsc2
            have hres : Hid (scanL s.data.toList = .bad g 9) := hsc2
            clear hsc2 hmx
            have hX : g ≤ s.size := by omega
            go_wp2_with fail
            go_at_call 49
            (with_reducible refine (fail_ok (i := g) (wg := 0) (HB2.out.alloc _) _ _).mono ?_)
            rintro e1 w3 ⟨rfl, hb3, hc3⟩
            have HB3 := Lib.hid hb3
            have HF3 := Lib.hid ((HF2.out.alloc HF2.out.size _).trans (hc3.below (by have := hL.out; omega) (by have := hL.out; omega) (by have := HF2.out.size; simp; omega)))
            have he : ((9 : Int) != 0) = true := rfl
            clear hb3 hc3
            (obtain ⟨c0, c1, c2, c3⟩ := HB3.out.c4; obtain ⟨f0, f1, f2, f3⟩ := HB3.out.f4; have lt := HB3.out.lt)
            go_wp2_with fail
            go_at_call 52
            (with_reducible refine (place_any s g w3 (by omega) hX).mono ?_)
            rintro e1 w5 ⟨rfl, rfl⟩
            go_wp2_with fail
            refine wp_region_ord [(0, 1), (1, 1), (2, 1), (3, 1), (4, 1), (5, 1), (6, 1), (7, 1), (8, 1), (9, 1)] [] 5 (by kernel_rfl) (by decide +kernel) ?_
            simp only [pickO, List.append_eq, List.cons_append, List.nil_append, List.getElem?_cons_succ, List.getElem?_cons_zero]
            intro w0 hG
            (repeat ((first | (with_reducible refine ord_q1 ?_) | (with_reducible refine ord_q0 ?_)); intro K hK; first | (refine Or.inr ⟨?_, ?_⟩; (focus (go_simp; first | done | (simp [undef]; done))); go_simp; (with_reducible refine hK _ ?_); clear hK K) | (refine Or.inl ⟨?_, ?_⟩; (focus (go_simp; done)); apply Exists.intro; refine And.intro ?_ ?_; (focus (first | (intro wq hq; obtain ⟨hcq, hfq⟩ := G.old hq; go_simp; (first | done | exact rfl); done) | (intro wq; go_simp; (first | done | exact rfl); done))); go_simp; (with_reducible refine hK _ ?_); clear hK K) | fail))
            (with_reducible refine ord_nil ?_)
            have hbz := hG.b
            clear hG c0 c1 c2 c3 f0 f1 f2 f3 lt
            go_wp2_with fail
            refine bodyPost_ret (v := .tuple #[.slice none 0 0, .int .i64 (lnc s.data.toList g).1, .int .i64 (lnc s.data.toList g).2, .int .i64 9]) (by simp only [results, Tryz.results12]; go_simp) rfl ?_
            rw [hres.out]
            exact ⟨HF3.out.trans (hbz.mono HF3.out.size), rfl⟩
          · have hmx' : (((acc.length : Nat) : Int) == 16384) = false := by simp; omega
            rw [if_neg hmx] at hsc2
            replace hsc2 := Lib.hid hsc2
            obtain ⟨jb, hjb⟩ : ∃ jb, ((g : Int) == lastI last) = jb := ⟨_, rfl⟩
            obtain ⟨r, hr⟩ : ∃ r, w2.heap.size = r := ⟨_, rfl⟩
            have hrb : b + 1 < r := by have := HW2.out.lt; omega
            have hgr : ¬ GB r := HE2.out.not (by omega)
            replace hr := Lib.hid hr
            go_wp2_with fail
            rw [hr.out]
            refine calls_name (fun wx => Bx wx b (scC s (g : Int) 0 0) ∧ Bx wx r (tkC 0 x y ⟨#[]⟩ ⟨#[]⟩ 0 0 jb) ∧ Ways b (b + 1) wx ∧ Env wx ∧ Below w.heap.size w wx ∧ Chg b r w2 wx) ?_ ?_
            · exact ⟨HB2.out.alloc _, Bx.new hr.out.symm rfl, HW2.out.grow (G.alloc (G.refl _) _), HE2.out.grow (G.alloc (G.refl _) _), HF2.out.alloc HF2.out.size _, (Chg.refl b r w2).alloc _⟩
            rintro w3' ⟨hb3, ht3, hw3, he3, hf3, hc3⟩
            have hpre : Pre b r s g 0 x y jb w3' := And.intro he3 (And.intro hb3 ht3)
            have hwy : ∀ k u, (waysV b)[k]? = some u → w3'.cell? ⟨b + 1, k, none⟩ = some u := hw3
            go_at_call 50
            (with_reducible refine (contains_any (w := w3') (b := b) (r := r) (s := s) (i := g) (wg := 0) (ln := x) (cl := y) (j := jb) hpre hgb hgr (by omega) (by omega) (by omega) (b + 1) hwy).mono ?_)
            rintro e1 w3 hcont
            have hin := lex1_in (r := s.data.toList.drop g) (by rw [List.length_drop, hll.out]; omega)
            rcases hcont with ⟨rfl, _, hrd⟩ | ⟨rfl, hw4, hyb, hbl⟩
            · rcases hlx : lex1 (s.data.toList.drop g) with ⟨n, t⟩ | ⟨o, e⟩ <;> rw [hlx] at hrd hin
              · obtain ⟨hb4, ht4, hc4⟩ := hrd
                have hin' : 1 ≤ n ∧ n ≤ (s.data.toList.drop g).length := hin
                rw [List.length_drop, hll.out] at hin'
                have hsc3 := hsc2.out
                rw [hlx] at hsc3
                dsimp only at hsc3
                have hjt : decide (last = some g) = jb := by
                  rw [← hjb]
                  exact Bool.eq_iff_iff.2 (by simpa using hlaI.out)
                rw [hjt] at hsc3
                have HB3 := Lib.hid hb4
                have HT3 := Lib.hid ht4
                have HC3 := Lib.hid (hc3.trans hc4)
                have hR3 := own_chg HR2.out HC3.out (by omega) (by have := hr.out; omega)
                have HW3 := Lib.hid (hw3.chg hc4 (by omega) (by omega))
                have HF3 := Lib.hid (HF2.out.trans (HC3.out.below (by have := hL.out; omega) (by have := hr.out; have := HF2.out.size; omega) HF2.out.size))
                obtain ⟨t0, t1, t2, t3, t4, t5, t6, t7⟩ := HT3.out.c8
                have ltr := HT3.out.lt
                replace hsc3 := Lib.hid hsc3
                have hs3 := HF3.out.size
                have hsb := HB3.out.lt
                have hp1 := hin'.1
                have hp2 := hin'.2
                clear hb4 ht4 hc4 hb3 ht3 hw3 he3 hf3 hc3 hlx hin hin' hsc2 hjt c0 c1 c2 c3 f0 f1 f2 f3 lt
                (obtain ⟨c0, c1, c2, c3⟩ := HB3.out.c4; obtain ⟨f0, f1, f2, f3⟩ := HB3.out.f4; have lt := HB3.out.lt)
                go_wp2_with (at_builtin; refine wpList_append_own _ rfl _ _ 23 rfl (b + 1 + 1) 33 i0 _ 8 80 Tryz.underlying23 hi hz0 hz1 hz2 rfl (by decide) _ _ _ rfl (hR3.alloc _) ⟨w3.heap.size, 0, none⟩ 1 1 (tkC t.k x y (B t.tx) (B t.v) t.n t.s jb) rfl rfl ?c1 ?c2 ?c3 ?c4 ?c5 ?_)
                case c1 =>
                  intro q u hq
                  have hB := (Bx.new (w := w3) (B := w3.heap.size) (l := tkC t.k x y (B t.tx) (B t.v) t.n t.s jb) (t := 33) rfl rfl).2 q u hq
                  rw [addr_add]
                  exact hB.1
                case c2 => exact tkC_one _ _ _ _ _ _ _ _
                case c3 => unfold maxLen; omega
                case c4 => omega
                case c5 => simp; omega
                intro v' w4 hown' hgrow _
                obtain ⟨a, cap, rfl⟩ := own_slice hown'
                have hB4 : Below (b + 1 + 1) w3 w4 := ((Below.refl (b + 1 + 1) w3).alloc (by omega) _).grown hgrow (by simp; omega) (fun q hq => (hR3.lt q hq).1)
                have HB4 := Lib.hid (HB3.out.below hB4 (by omega))
                have HW4 := Lib.hid (HW3.out.below hB4 (by omega))
                have HF4 := Lib.hid (HF3.out.trans (hB4.mono (by have := hL.out; omega)))
                have hrow : Hid (w4.ownsRow (b + 1 + 1) tT 8 (.slice a (acc.length + 1) cap) (acc ++ [(⟨g, jb, t⟩ : Pl)]).length (rowC s.data.toList (acc ++ [⟨g, jb, t⟩]))) := by
                  unfold Hid
                  rw [rowC_app, List.length_append]
                  have : plC s.data.toList ⟨g, jb, t⟩ = tkC t.k x y (B t.tx) (B t.v) t.n t.s jb := by unfold plC; rw [hxy.out]
                  rw [this]
                  exact hown'
                clear hown' hgrow hB4 hR3 t0 t1 t2 t3 t4 t5 t6 t7 ltr c0 c1 c2 c3 f0 f1 f2 f3 lt
                obtain ⟨c0, c1, c2, c3⟩ := HB4.out.c4
                have lt := HB4.out.lt
                go_wp2_with fail
                go_roundw
                case rel => exact ⟨g + n, g, f, a, cap, acc ++ [(⟨g, jb, t⟩ : Pl)], some (g + n), by omega, by omega, hsc3, by omega, by simp; omega, by simp, by rw [hxy.out], by rw [hxy.out], rfl, rfl, .inr rfl, Lib.hid (show ScIn w s b (b + 1) (g + n) (.slice a (acc.length + 1) cap) (acc ++ [⟨g, jb, t⟩]) w4 from ⟨HF4.out, HB4.out, HW4.out, by simpa using hrow.out⟩)⟩
                case measure =>
                  rcases hla with ⟨rfl, rfl⟩ | rfl
                  · simp [lastI, intOf]; omega
                  · simp [lastI, intOf]; omega
              · obtain ⟨⟨p, hb4⟩, _, hc4⟩ := hrd
                have hin' : o ≤ (s.data.toList.drop g).length ∧ e ≠ 0 := hin
                rw [List.length_drop, hll.out] at hin'
                have hsc3 := hsc2.out
                rw [hlx] at hsc3
                have hres : Hid (scanL s.data.toList = .bad (g + o) e) := hsc3
                have HB3 := Lib.hid hb4
                have HF3 := Lib.hid (hf3.trans (hc4.below (by have := hL.out; omega) (by have := hr.out; have := HF2.out.size; omega) hf3.size))
                have he : (e != 0) = true := by simpa using hin'.2
                obtain ⟨X, hXe⟩ : ∃ X, g + o = X := ⟨_, rfl⟩
                rw [hXe] at hres HB3
                have hX : X ≤ s.size := by have := hin'.1; omega
                clear hb4 hc4 hb3 ht3 hw3 he3 hf3 hc3 hlx hin hin' hsc2 hsc3 c0 c1 c2 c3 f0 f1 f2 f3 lt hXe
                (obtain ⟨c0, c1, c2, c3⟩ := HB3.out.c4; obtain ⟨f0, f1, f2, f3⟩ := HB3.out.f4; have lt := HB3.out.lt)
                go_wp2_with fail
                go_at_call 52
                (with_reducible refine (place_any s X w3 (by omega) hX).mono ?_)
                rintro e1 w5 ⟨rfl, rfl⟩
                go_wp2_with fail
                refine wp_region_ord [(0, 1), (1, 1), (2, 1), (3, 1), (4, 1), (5, 1), (6, 1), (7, 1), (8, 1), (9, 1)] [] 5 (by kernel_rfl) (by decide +kernel) ?_
                simp only [pickO, List.append_eq, List.cons_append, List.nil_append, List.getElem?_cons_succ, List.getElem?_cons_zero]
                intro w0 hG
                (repeat ((first | (with_reducible refine ord_q1 ?_) | (with_reducible refine ord_q0 ?_)); intro K hK; first | (refine Or.inr ⟨?_, ?_⟩; (focus (go_simp; first | done | (simp [undef]; done))); go_simp; (with_reducible refine hK _ ?_); clear hK K) | (refine Or.inl ⟨?_, ?_⟩; (focus (go_simp; done)); apply Exists.intro; refine And.intro ?_ ?_; (focus (first | (intro wq hq; obtain ⟨hcq, hfq⟩ := G.old hq; go_simp; (first | done | exact rfl); done) | (intro wq; go_simp; (first | done | exact rfl); done))); go_simp; (with_reducible refine hK _ ?_); clear hK K) | fail))
                (with_reducible refine ord_nil ?_)
                have hbz := hG.b
                clear hG c0 c1 c2 c3 f0 f1 f2 f3 lt
                go_wp2_with fail
                refine bodyPost_ret (v := .tuple #[.slice none 0 0, .int .i64 (lnc s.data.toList X).1, .int .i64 (lnc s.data.toList X).2, .int .i64 e]) (by simp only [results, Tryz.results12]; go_simp) rfl ?_
                rw [hres.out]
                exact ⟨HF3.out.trans (hbz.mono HF3.out.size), rfl⟩
            · have hlx : lex1 (s.data.toList.drop g) = .bad 0 6 := by rw [(lex1_way _).2.2.2.2 hw4]; exact lexY_bad hyb
              have hsc3 := hsc2.out
              rw [hlx] at hsc3
              have hres : Hid (scanL s.data.toList = .bad g 6) := hsc3
              have HB5 := Lib.hid (hb3.grow hbl)
              have HF5 := Lib.hid (hf3.trans (hbl.mono hf3.size))
              have hX : g ≤ s.size := by omega
              clear hb3 ht3 hw3 he3 hf3 hc3 hlx hin hsc2 hsc3 c0 c1 c2 c3 f0 f1 f2 f3 lt
              obtain ⟨c0, c1, c2, c3⟩ := HB5.out.c4
              have lt := HB5.out.lt
              go_wp2_with fail
              go_at_call 49
              (with_reducible refine (fail_ok (i := g) (wg := 0) HB5.out _ _).mono ?_)
              clear HB2
              rintro e1 w7 ⟨rfl, hb7, hc7⟩
              have HB3 := Lib.hid hb7
              have HF3 := Lib.hid (HF5.out.trans (hc7.below (by have := hL.out; omega) (by have := hL.out; omega) HF5.out.size))
              have he : ((6 : Int) != 0) = true := rfl
              clear hb7 hc7 c0 c1 c2 c3 lt
              (obtain ⟨c0, c1, c2, c3⟩ := HB3.out.c4; obtain ⟨f0, f1, f2, f3⟩ := HB3.out.f4; have lt := HB3.out.lt)
              go_wp2_with fail
              go_at_call 52
              (with_reducible refine (place_any s g w7 (by omega) hX).mono ?_)
              rintro e1 w5 ⟨rfl, rfl⟩
              go_wp2_with fail
              refine wp_region_ord [(0, 1), (1, 1), (2, 1), (3, 1), (4, 1), (5, 1), (6, 1), (7, 1), (8, 1), (9, 1)] [] 5 (by kernel_rfl) (by decide +kernel) ?_
              simp only [pickO, List.append_eq, List.cons_append, List.nil_append, List.getElem?_cons_succ, List.getElem?_cons_zero]
              intro w0 hG
              (repeat ((first | (with_reducible refine ord_q1 ?_) | (with_reducible refine ord_q0 ?_)); intro K hK; first | (refine Or.inr ⟨?_, ?_⟩; (focus (go_simp; first | done | (simp [undef]; done))); go_simp; (with_reducible refine hK _ ?_); clear hK K) | (refine Or.inl ⟨?_, ?_⟩; (focus (go_simp; done)); apply Exists.intro; refine And.intro ?_ ?_; (focus (first | (intro wq hq; obtain ⟨hcq, hfq⟩ := G.old hq; go_simp; (first | done | exact rfl); done) | (intro wq; go_simp; (first | done | exact rfl); done))); go_simp; (with_reducible refine hK _ ?_); clear hK K) | fail))
              (with_reducible refine ord_nil ?_)
              have hbz := hG.b
              clear hG
              go_wp2_with fail
              refine bodyPost_ret (v := .tuple #[.slice none 0 0, .int .i64 (lnc s.data.toList g).1, .int .i64 (lnc s.data.toList g).2, .int .i64 6]) (by simp only [results, Tryz.results12]; go_simp) rfl ?_
              rw [hres.out]
              exact ⟨HF3.out.trans (hbz.mono HF3.out.size), rfl⟩
end
end Go.Proofs.YtmchiibbodllaaaGreatDoor
