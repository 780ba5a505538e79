/- The law's model: numbers, tokens. -/
import Derived.Test.YtmchiibbodllaaaGreatDoorScL
import Derived.Test.YtmchiibbodllaaaGreatDoorLTx4
import Derived.Test.YtmchiibbodllaaaGreatDoorMm2
import Derived.Test.YtmchiibbodllaaaGreatDoorTk
import Derived.Test.YtmchiibbodllaaaGreatDoorLKnown
namespace Go.Proofs.YtmchiibbodllaaaGreatDoor
set_option linter.unusedVariables false
set_option linter.unnecessarySimpa false
set_option linter.unusedSimpArgs false
open Go.RowKit

/-- The tokens that have been read. -/
def MRow (w : World) (b : Nat) (s : ByteArray) (ts : List Pl) (A : Option Addr) (c : Nat) : Prop := w.ownsRow (b + 1) tT 8 (.slice A ts.length c) ts.length (rowC s.data.toList ts)
theorem MRow.keep {w w' : World} {b : Nat} {s : ByteArray} {ts : List Pl} {A : Option Addr} {c : Nat} (h : MRow w b s ts A c) (hk : Keeps (From (b + 1)) w w') : MRow w' b s ts A c := own_keep h hk
theorem MRow.grow {w w' : World} {b : Nat} {s : ByteArray} {ts : List Pl} {A : Option Addr} {c : Nat} (h : MRow w b s ts A c) (hb : Below w.heap.size w w') : MRow w' b s ts A c := own_grow h hb
theorem MRow.chg {w w' : World} {b : Nat} {s : ByteArray} {ts : List Pl} {A : Option Addr} {c : Nat} (h : MRow w b s ts A c) (hb : Chg b b w w') : MRow w' b s ts A c :=
  h.keep (hb.2.mono fun x hx => by have : b + 1 ≤ x := hx; exact ⟨by omega, by omega⟩)
theorem Chg.bel {b : Nat} {w w' : World} (h : Chg b b w w') (hb : b ≤ w.heap.size) : Below b w w' := h.below (Nat.le_refl b) (Nat.le_refl b) hb
theorem own_blk {w w' : World} {base : Nat} {e : TypeId} {size : Nat} {v : Value} {n : Nat} {xs : List Value} (h : w.ownsRow base e size v n xs) (hk : ∀ g, v.ownBlock = some g → w'.heap[g]? = w.heap[g]?) : w'.ownsRow base e size v n xs := by
  refine ⟨h.1, ?_⟩
  rcases h.2 with hn | ⟨g, cap, cur, hv, hb, hg, rest⟩
  · exact .inl hn
  · exact .inr ⟨g, cap, cur, hv, hb, by rw [hk g (by rw [hv]; rfl)]; exact hg, rest⟩
def RetTk (w : World) (b : Nat) (s : ByteArray) (i : Nat) (ts : List Pl) (tb : Int) (x : Lx) (e : Ending) (w' : World) : Prop :=
  e = .returned (.tuple #[]) ∧ Below b w w' ∧ match x with
  | .ok n t => ∃ A c, Bx w' b (mC s ((i + n : Nat) : Int) (.slice A (ts.length + 1) c) 0 ((i + n : Nat) : Int)) ∧ MRow w' b s (ts ++ [⟨i, decide (tb = (i : Int)), t⟩]) A c
  | .bad o c => ∃ lv tb', Bx w' b (mC s ((i + o : Nat) : Int) lv c tb')
section
variable {w : World} {b j i : Nat} {s : ByteArray} {ts : List Pl} {A : Option Addr} {c : Nat} {tb c' : Int}
set_option maxRecDepth 20000 in set_option maxHeartbeats 4000000 in
theorem add_m (h : Bx w b (mC s (j : Int) (.slice A ts.length c) 0 tb)) (hr : MRow w b s ts A c) (hs : s.size ≤ 100000) (hi : i ≤ s.size) (hn : ts.length ≤ 20000) (t : Tk) :
    Calls Tryz.prog 92 #[.pointer (some ⟨b, 0, none⟩), .int .i64 (i : Int), tnL t.k 0 0 t.tx t.v t.n t.s false] w fun e w' => e = .returned (.tuple #[]) ∧ Below b w w' ∧
      ∃ A' c', Bx w' b (mC s (j : Int) (.slice A' (ts.length + 1) c') 0 (j : Int)) ∧ MRow w' b s (ts ++ [⟨i, decide (tb = (i : Int)), t⟩]) A' c' := by
  obtain ⟨iU, hUi, hU0, hU1, hU2⟩ := info_parts infoTok
  have PL := Lib.hid (fun (wx : World) (k lv e tb) (hb : Bx wx b (mC s k lv e tb)) => place_m hb hs i hi)
  have HB := Lib.hid h
  have HR := Lib.hid hr
  have lt0 := h.lt
  obtain ⟨n, hnn⟩ : ∃ n, ts.length = n := ⟨_, rfl⟩
  have hlb := lnc_bd s.data.toList i
  obtain ⟨q, hq⟩ : ∃ q, lnc s.data.toList i = q := ⟨_, rfl⟩
  obtain ⟨la, lb⟩ := q
  rw [hq] at PL
  have HQ := Lib.hid hq
  obtain ⟨v, hv⟩ : ∃ v, (tb == (i : Int)) = v := ⟨_, rfl⟩
  have HV : Hid (decide (tb = (i : Int)) = v) := by unfold Hid; rw [← hv]; by_cases h : tb = (i : Int) <;> simp [h]
  have HN := Lib.hid hnn
  rw [hnn] at HB hn
  have HR2 : Hid (w.ownsRow (b + 1) tT 8 (.slice A n c) n (rowC s.data.toList ts)) := by have := HR.out; unfold MRow at this; rw [hnn] at this; exact this
  clear h hr hlb hq hnn HR
  go_enter Tryz.func92, Tryz.ntmps92
  go_wp2_with fail
  go_at_call 54
  obtain ⟨r, hr⟩ : ∃ r, w.heap.size = r := ⟨_, rfl⟩
  rw [hr]
  refine calls_name (fun wx => Hid (Bx wx b (mC s (j : Int) (.slice A n c) 0 tb)) ∧ Hid (Bx wx r (tkC t.k 0 0 (B t.tx) (B t.v) t.n t.s false)) ∧ Hid (Below r w wx) ∧ Hid (wx.ownsRow (b + 1) tT 8 (.slice A n c) n (rowC s.data.toList ts))) ⟨HB.out.alloc _, Bx.new hr.symm rfl, by rw [← hr]; exact G.alloc (G.refl w) _, own_grow HR2.out (G.alloc (G.refl w) _)⟩ ?_
  have hor : Hid (∀ g, (Value.slice A n c).ownBlock = some g → b + 1 ≤ g ∧ g < r) := by rw [← hr]; exact HR2.out.lt
  clear HB HR2
  rintro w1 ⟨HB, HX, HG, HR⟩
  have hbr : b < r := by omega
  have hbr2 : b ≠ r := by omega
  have hbr3 : r ≠ b := by omega
  have HS := Lib.hid hr
  clear hr lt0
  (with_reducible refine (PL.out _ _ _ _ _ HB.out).mono ?_)
  rintro e1 w2 ⟨rfl, rfl⟩
  obtain ⟨c0, c1, c2, c3, c4⟩ := HB.out.c5
  obtain ⟨f0, f1, f2, f3, f4⟩ := HB.out.f5
  have lt := HB.out.lt
  have d0 := (HX.out.2 0 _ rfl).1
  have d1 := (HX.out.2 1 _ rfl).1
  have d2 := (HX.out.2 2 _ rfl).1
  have d3 := (HX.out.2 3 _ rfl).1
  have d4 := (HX.out.2 4 _ rfl).1
  have d5 := (HX.out.2 5 _ rfl).1
  have d6 := (HX.out.2 6 _ rfl).1
  have d7 := (HX.out.2 7 _ rfl).1
  have g1 := (HX.out.2 1 _ rfl).2
  have g2 := (HX.out.2 2 _ rfl).2
  have g6 := (HX.out.2 7 _ rfl).2
  have ltr := HX.out.lt
  go_upto_region 4 with fail
  refine wp_name (fun wx => Hid (Bx wx b (mC s (j : Int) (.slice A n c) 0 (j : Int))) ∧ Hid (Bx wx r (tkC t.k la lb (B t.tx) (B t.v) t.n t.s v)) ∧ Hid (Below b w wx) ∧ Hid (r ≤ wx.heap.size) ∧ Hid (wx.ownsRow (b + 1) tT 8 (.slice A n c) n (rowC s.data.toList ts))) ?_ ?_
  · refine ⟨(((HB.out.other (p := ⟨r, 1, none⟩) hbr2 _).other (p := ⟨r, 2, none⟩) hbr2 _).other (p := ⟨r, 7, none⟩) hbr2 _).put rfl, (((HX.out.put (i := 1) (v := .int .i64 la) rfl).put (i := 2) (v := .int .i64 lb) rfl).put (i := 7) (v := .bool v) rfl).other (p := ⟨b, 4, none⟩) hbr3 _, ?_, ?_, ?_⟩
    · exact ((((HG.out.mono (Nat.le_of_lt hbr)).setCell (p := ⟨r, 1, none⟩) (Nat.le_of_lt hbr) _).setCell (p := ⟨r, 2, none⟩) (Nat.le_of_lt hbr) _).setCell (p := ⟨r, 7, none⟩) (Nat.le_of_lt hbr) _).setCell (p := ⟨b, 4, none⟩) (Nat.le_refl b) _
    · have := HG.out.size
      unfold Hid
      simp only [World.size_setCell]
      have := HS.out
      omega
    · refine own_blk HR.out fun g hg => ?_
      have h1 := hor.out g hg
      rw [Below.heap_setCell _ _ _ _ (by show g ≠ b; omega), Below.heap_setCell _ _ _ _ (by show g ≠ r; omega), Below.heap_setCell _ _ _ _ (by show g ≠ r; omega), Below.heap_setCell _ _ _ _ (by show g ≠ r; omega)]
  clear HB HX HG HR c0 c1 c2 c3 c4 f0 f1 f2 f3 f4 lt d0 d1 d2 d3 d4 d5 d6 d7 g1 g2 g6 ltr
  rintro w3 ⟨HB, HX, HG, hrs, HR⟩
  obtain ⟨c0, c1, c2, c3, c4⟩ := HB.out.c5
  obtain ⟨f0, f1, f2, f3, f4⟩ := HB.out.f5
  have lt := HB.out.lt
  obtain ⟨d0, d1, d2, d3, d4, d5, d6, d7⟩ := HX.out.c8
  have ltr := HX.out.lt
  have hT : Hid (rowC s.data.toList ts ++ tkC t.k la lb (B t.tx) (B t.v) t.n t.s v = rowC s.data.toList (ts ++ [⟨i, decide (tb = (i : Int)), t⟩])) := by
    unfold Hid
    rw [rowC_app]
    unfold plC
    rw [HQ.out, HV.out]
  have hob := HR.out.lt
  refine wp_region_ord [(0, 0), (1, 1), (2, 1), (3, 1), (4, 1), (5, 1), (6, 2), (7, 3), (8, 0), (9, 0), (10, 3)] [7, 10] 5 (by kernel_rfl) (by decide +kernel) ?_
  simp only [pickO, List.append_eq, List.cons_append, List.nil_append, List.getElem?_cons_succ, List.getElem?_cons_zero]
  intro w0 hG
  (repeat ((first | (with_reducible refine ord_q1 ?_) | (with_reducible refine ord_q0 ?_)); intro K hK; first | (refine Or.inr ⟨?_, ?_⟩; (focus (go_simp; first | done | (simp [undef]; done))); go_simp; (with_reducible refine hK _ ?_); clear hK K) | (refine Or.inl ⟨?_, ?_⟩; (focus (go_simp; done)); apply Exists.intro; refine And.intro ?_ ?_; (focus (first | (intro wq hq; obtain ⟨hcq, hfq⟩ := G.old hq; go_simp; (first | done | exact rfl); done) | (intro wq; go_simp; (first | done | exact rfl); done))); go_simp; (with_reducible refine hK _ ?_); clear hK K) | fail))
  have hG0 := hG.b
  have hs0 := hG0.size
  (with_reducible refine ord_run ?_ hG)
  intro K hK
  go_simp
  replace hG := Grew.alloc hG (.cells #[.int .i64 t.k, .int .i64 la, .int .i64 lb, .string (B t.tx), .string (B t.v), .int .i64 t.n, .int .i64 t.s, .bool v] 33)
  (with_reducible refine hK _ _ hG ?_)
  clear hK K
  (repeat ((first | (with_reducible refine ord_q1 ?_) | (with_reducible refine ord_q0 ?_)); intro K hK; first | (refine Or.inr ⟨?_, ?_⟩; (focus (go_simp; first | done | (simp [undef]; done))); go_simp; (with_reducible refine hK _ ?_); clear hK K) | (refine Or.inl ⟨?_, ?_⟩; (focus (go_simp; done)); apply Exists.intro; refine And.intro ?_ ?_; (focus (first | (intro wq hq; obtain ⟨hcq, hfq⟩ := G.old hq; go_simp; (first | done | exact rfl); done) | (intro wq; go_simp; (first | done | exact rfl); done))); go_simp; (with_reducible refine hK _ ?_); clear hK K) | fail))
  (with_reducible refine ord_tail ?_); intro K hK
  refine step_appB rfl (.tmp 32) (.tmp 34) _ rfl (b + 1) 33 iU _ 8 80 Tryz.underlying23 hUi hU0 hU1 hU2 rfl (by decide) _ n _ rfl (own_grow HR.out hG.b) (some ⟨w0.heap.size, 0, none⟩) 1 1 (tkC t.k la lb (B t.tx) (B t.v) t.n t.s v) rfl (Sl.new rfl rfl) (tkC_one _ _ _ _ _ _ _ _) (by show _ ≤ 2 ^ 63 - 1; omega) (by omega) (by have := HB.out.lt; simp; omega) ?_
  intro A3 cc3 w5 hown5 hc5 hm5 hg5 hob5
  rw [hT.out] at hown5
  refine name_k (fun wx => Hid (Bx wx b (mC s (j : Int) (.slice A n c) 0 (j : Int))) ∧ Hid (Below b w wx) ∧ Hid (wx.ownsRow (b + 1) tT 8 (.slice A3 (n + 1) cc3) (n + 1) (rowC s.data.toList (ts ++ [Pl.mk i (decide (tb = (i : Int))) t])))) ⟨((HB.out.grow hG0).alloc _).grown hg5 (fun e => by have := (hob _ e).1; omega), ((HG.out.trans (hG0.mono (Nat.le_of_lt HB.out.lt))).alloc (by have := HB.out.lt; omega) _).grown hg5 (by have := HB.out.lt; simp; omega) (fun k hk => by have := (hob _ hk).1; omega), Lib.hid hown5⟩ ?_
  clear HB HG HR HX hown5 hc5 hm5 hg5 hob5 hob hG hG0 hs0 c0 c1 c2 c3 c4 f0 f1 f2 f3 f4 lt d0 d1 d2 d3 d4 d5 d6 d7 ltr
  rintro w8 ⟨HB, HG, HR⟩
  obtain ⟨c0, c1, c2, c3, c4⟩ := HB.out.c5
  obtain ⟨f0, f1, f2, f3, f4⟩ := HB.out.f5
  have lt := HB.out.lt
  (with_reducible refine hK _ _ ?_); clear hK K
  (repeat ((first | (with_reducible refine ord_q1 ?_) | (with_reducible refine ord_q0 ?_)); intro K hK; first | (refine Or.inr ⟨?_, ?_⟩; (focus (go_simp; first | done | (simp [undef]; done))); go_simp; (with_reducible refine hK _ ?_); clear hK K) | (refine Or.inl ⟨?_, ?_⟩; (focus (go_simp; done)); apply Exists.intro; refine And.intro ?_ ?_; (focus (first | (intro wq hq; obtain ⟨hcq, hfq⟩ := G.old hq; go_simp; (first | done | exact rfl); done) | (intro wq; go_simp; (first | done | exact rfl); done))); go_simp; (with_reducible refine hK _ ?_); clear hK K) | fail))
  ((with_reducible refine ord_tail ?_); intro K hK; go_simp; (with_reducible refine hK _ _ ?_); clear hK K)
  (with_reducible refine ord_nil ?_)
  go_wp2_with fail
  (first | go_end0 | refine bodyPost_ret (results_none rfl _ _ _) rfl ?_)
  refine ⟨rfl, HG.out.setCell (p := ⟨b, 2, none⟩) (Nat.le_refl b) _, A3, cc3, ?_, ?_⟩
  · rw [HN.out]
    exact HB.out.put rfl
  · unfold MRow
    rw [List.length_append, HN.out]
    exact own_keep HR.out ((Keeps.refl _ _).setCell (p := ⟨b, 2, none⟩) (show ¬ b + 1 ≤ b by omega) _)
set_option maxRecDepth 20000 in set_option maxHeartbeats 400000 in
theorem value_bad (h : Bx w b (mC s (j : Int) (.slice A ts.length c) c' tb)) (hc' : c' ≠ 0) (k ln cl : Int) (x v : List UInt8) (n q : Int) (u : Bool) (i : Int) :
    Calls Tryz.prog 88 #[.pointer (some ⟨b, 0, none⟩), .int .i64 i, tnL k ln cl x v n q u] w fun e w' => e = .returned (.tuple #[]) ∧ Below w.heap.size w w' := by
  have kc : (c' != 0) = true := by simp [hc']
  obtain ⟨c0, c1, c2, c3, c4⟩ := h.c5
  have lt := h.lt
  clear h hc'
  go_enter Tryz.func88, Tryz.ntmps88
  go_wp2_with fail
  (first | go_end0 | refine bodyPost_ret (results_none rfl _ _ _) rfl ?_)
  exact ⟨rfl, G.alloc (G.refl w) _⟩
set_option maxRecDepth 20000 in set_option maxHeartbeats 1000000 in
theorem value_long (h : Bx w b (mC s (j : Int) (.slice A ts.length c) 0 tb)) (k ln cl : Int) (x v : List UInt8) (hv : 1024 < v.length) (n q : Int) (u : Bool) (i : Int) :
    Calls Tryz.prog 88 #[.pointer (some ⟨b, 0, none⟩), .int .i64 i, tnL k ln cl x v n q u] w fun e w' => e = .returned (.tuple #[]) ∧ Below b w w' ∧ Bx w' b (mC s i (.slice A ts.length c) 5 tb) := by
  obtain ⟨m, hm⟩ : ∃ m, v.length = m := ⟨_, rfl⟩
  have y0 : (B v).size = m := by rw [B_size, hm]
  have l0 : (1024 : Int) < (m : Int) := by omega
  have HB := Lib.hid h
  obtain ⟨c0, c1, c2, c3, c4⟩ := h.c5
  have lt := h.lt
  clear h hm hv
  go_enter Tryz.func88, Tryz.ntmps88
  go_wp2_with fail
  go_at_call 55
  (with_reducible refine (fail_m (HB.out.alloc _) _ _).mono ?_)
  rintro e1 w2 ⟨rfl, hb2, hc2⟩
  go_wp2_with fail
  (first | go_end0 | refine bodyPost_ret (results_none rfl _ _ _) rfl ?_)
  exact ⟨rfl, (((G.refl w).mono (Nat.le_of_lt HB.out.lt)).alloc (Nat.le_of_lt HB.out.lt) _).trans (hc2.bel (by have := HB.out.lt; simp; omega)), hb2⟩
set_option maxRecDepth 20000 in set_option maxHeartbeats 1000000 in
theorem value_ok (h : Bx w b (mC s (j : Int) (.slice A ts.length c) 0 tb)) (hr : MRow w b s ts A c) (hs : s.size ≤ 100000) (hi : i ≤ s.size) (hn : ts.length ≤ 20000) (t : Tk) (hv : t.v.length ≤ 1024) :
    Calls Tryz.prog 88 #[.pointer (some ⟨b, 0, none⟩), .int .i64 (i : Int), tnL t.k 0 0 t.tx t.v t.n t.s false] w fun e w' => e = .returned (.tuple #[]) ∧ Below b w w' ∧
      ∃ A' c', Bx w' b (mC s (j : Int) (.slice A' (ts.length + 1) c') 0 (j : Int)) ∧ MRow w' b s (ts ++ [⟨i, decide (tb = (i : Int)), t⟩]) A' c' := by
  obtain ⟨m, hm⟩ : ∃ m, t.v.length = m := ⟨_, rfl⟩
  have y0 : (B t.v).size = m := by rw [B_size, hm]
  have l0 : ¬ (1024 : Int) < (m : Int) := by omega
  have HB := Lib.hid h
  have HR := Lib.hid hr
  obtain ⟨c0, c1, c2, c3, c4⟩ := h.c5
  have lt := h.lt
  clear h hm hv hr
  go_enter Tryz.func88, Tryz.ntmps88
  go_wp2_with fail
  go_at_call 92
  (with_reducible refine (add_m (HB.out.alloc _) (HR.out.grow (G.alloc (G.refl w) _)) hs hi hn t).mono ?_)
  rintro e1 w2 ⟨rfl, hb2, A2, cc2, hb3, hr3⟩
  go_wp2_with fail
  (first | go_end0 | refine bodyPost_ret (results_none rfl _ _ _) rfl ?_)
  exact ⟨rfl, (((G.refl w).mono (Nat.le_of_lt HB.out.lt)).alloc (Nat.le_of_lt HB.out.lt) _).trans hb2, A2, cc2, hb3, hr3⟩
end
end Go.Proofs.YtmchiibbodllaaaGreatDoor

namespace Go.Proofs.YtmchiibbodllaaaGreatDoor
set_option linter.unusedVariables false
set_option linter.unnecessarySimpa false
set_option linter.unusedSimpArgs false
open Go.RowKit

section
variable {w : World} {b i : Nat} {s : ByteArray} {ts : List Pl} {A : Option Addr} {c : Nat} {tb : Int}
set_option maxRecDepth 20000 in set_option maxHeartbeats 8000000 in
theorem number_m (hE : Env w) (hgb : ¬ GB b) (h : Bx w b (mC s (i : Int) (.slice A ts.length c) 0 tb)) (hr : MRow w b s ts A c) (hs : s.size ≤ 100000) (hi : i < s.size) (hn : ts.length ≤ 20000) :
    Calls Tryz.prog 93 #[.pointer (some ⟨b, 0, none⟩), .int .i64 (i : Int)] w (RetTk w b s i ts tb (lexN (s.data.toList.drop i))) := by
  have HH := Lib.hid (fun (wx : World) (p e : Int) (lv : Value) (tb a : Int) (k : Nat) (ha : a = (k : Int)) (hk : k ≤ 1000000) (hb : Bx wx b (mC s p lv e tb)) => here_a hb hs a k ha hk)
  have DG := Lib.hid digit_m
  have LT := Lib.hid letter_m
  have FL := Lib.hid (fun (wx : World) (i k e : Int) (lv : Value) (tb : Int) (hb : Bx wx b (mC s i lv 0 tb)) => fail_m hb k e)
  have HB := Lib.hid h
  have HR := Lib.hid hr
  have HE := Lib.hid hE
  have hbw : b < w.heap.size := h.lt
  obtain ⟨d0, hd0⟩ : ∃ d, i + spn isDig (s.data.toList.drop i) = d := ⟨_, rfl⟩
  have hd0s : d0 ≤ s.size := by rw [← hd0]; exact spn_bd isDig s.data.toList (Nat.le_of_lt hi)
  have hid0 : i ≤ d0 := by omega
  have HD0 := Lib.hid hd0
  have HC := Lib.hid (Chg.refl b b w)
  clear h hr hd0 hE
  go_enter Tryz.func93, Tryz.ntmps93
  go_wp2_with fail
  go_loopw [] (fun wx => ∃ q : Nat, i ≤ q ∧ q ≤ d0 ∧ Hid (q + spn isDig (s.data.toList.drop q) = d0) ∧ Hid (Bx wx b (mC s (q : Int) (.slice A ts.length c) 0 tb)) ∧ Hid (Chg b b w wx)) (fun wx => d0 + 1 - (rdI wx ⟨b, 1, none⟩).toNat)
  case atStart => exact ⟨i, Nat.le_refl _, hid0, HD0, HB, HC⟩
  case round =>
    clear HB HC
    obtain ⟨q, hiq, hqd, HQ, HB, HC⟩ := hrel
    have hm0 := Lib.hid (rdI_of HB.out.c5.2.1)
    obtain ⟨x, hx⟩ : ∃ x, nth s.data.toList q = x := ⟨_, rfl⟩
    have HX := Lib.hid hx
    have hx1 : IntKind.i64.wrap ((q : Int) + 1) = (q : Int) + 1 := IntWalk.i64_in _ (by omega)
    obtain ⟨v, hv⟩ : ∃ v, isDig x = v := ⟨_, rfl⟩
    have DG1 := Lib.hid (DG.out x)
    rw [hv] at DG1
    (obtain ⟨c0, c1, c2, c3, c4⟩ := HB.out.c5; obtain ⟨f0, f1, f2, f3, f4⟩ := HB.out.f5; have lt := HB.out.lt)
    cases v
    · have hqe : q = d0 := by
        have := HQ.out
        rw [spn_no (by rw [hx]; exact hv)] at this
        omega
      subst hqe
      clear hx hv
      go_wp2_with fail
      go_at_call 86
      (with_reducible refine (HH.out _ _ _ _ _ _ q rfl (by omega) HB.out).mono ?_)
      rw [HX.out]
      rintro e1 w6 ⟨rfl, rfl⟩
      go_wp2_with fail
      go_at_call 91
      (with_reducible refine (DG1.out _).mono ?_)
      rintro e1 w7 ⟨rfl, rfl⟩
      obtain ⟨sd, hsd⟩ : ∃ sd, q - i = sd := ⟨_, rfl⟩
      have hw1 : IntKind.i64.wrap ((q : Int) - (i : Int)) = (sd : Int) := by rw [IntWalk.i64_in _ (by omega)]; omega
      have HSD : Hid (i + sd = q ∧ sd = spn isDig (s.data.toList.drop i)) := by unfold Hid; have := HD0.out; omega
      clear hsd
      go_upto_region 4 with fail
      obtain ⟨g, hg⟩ : ∃ g, nth s.data.toList (q + 1) = g := ⟨_, rfl⟩
      have HGg := Lib.hid hg
      have DG2 := Lib.hid (DG.out g)
      have LT2 := Lib.hid (LT.out g)
      have hnum := numN.eq_1 (s.data.toList.drop i)
      rw [← HSD.out.2] at hnum
      rw [nth_drop, nth_drop, List.drop_drop, ← Nat.add_assoc, HSD.out.1, HX.out, hg] at hnum
      have hpg : isPart g = (isDig g || (isLet g || decide (g.toNat = 95))) := by unfold isPart; cases isDig g <;> cases isLet g <;> simp
      obtain ⟨vd, hvd⟩ : ∃ v, isDig g = v := ⟨_, rfl⟩
      obtain ⟨vl, hvl⟩ : ∃ v, isLet g = v := ⟨_, rfl⟩
      rw [hpg, hvd, hvl] at hnum
      rw [hvd] at DG2
      rw [hvl] at LT2
      have hqs := hqd
      have HSZ : Hid (q ≤ s.size) := hd0s
      have hx2 : IntKind.i64.wrap ((q : Int) + 1) = (q : Int) + 1 := hx1
      obtain ⟨vb, hvb⟩ : ∃ v, (decide (x.toNat = 46) && vd) = v := ⟨_, rfl⟩
      have HVB := Lib.hid hvb
      have HVD := Lib.hid hvd
      clear hpg hvl hg hx1 DG1 hvd hvb
      go_upto_region 5 with (go_at_call 86; (with_reducible refine (HH.out _ _ _ _ _ _ (q + 1) (by omega) (by omega) HB.out).mono ?_); rw [HGg.out]; rintro e1 w8 ⟨rfl, rfl⟩)
      rename_i w9
      go_cut [50] (fun bv wx => bv = .bool vb ∧ w8 = wx)
      case first =>
        by_cases h46 : x.toNat = 46
        · have k46 : ((x.toNat : Int) == 46) = true := by simp [h46]
          have hvb2 : vd = vb := by have := HVB.out; simpa [h46] using this
          subst hvb2
          clear hnum h46 HVB
          go_wp2_with fail
          go_at_call 86
          (with_reducible refine (HH.out _ _ _ _ _ _ q (by omega) (by omega) HB.out).mono ?_)
          rw [HX.out]
          rintro e1 w8 ⟨rfl, rfl⟩
          go_wp2_with fail
          go_at_call 91
          (with_reducible refine (DG2.out _).mono ?_)
          rintro e1 w8 ⟨rfl, rfl⟩
          go_wp2_with fail
          go_meet
          exact ⟨rfl, rfl⟩
        · have k46 : ((x.toNat : Int) == 46) = false := by simp; omega
          have hvb2 : vb = false := by have := HVB.out; simpa [h46] using this.symm
          subst hvb2
          clear hnum h46 HVB
          go_wp2_with fail
          go_at_call 86
          (with_reducible refine (HH.out _ _ _ _ _ _ q (by omega) (by omega) HB.out).mono ?_)
          rw [HX.out]
          rintro e1 w8 ⟨rfl, rfl⟩
          go_wp2_with fail
          go_meet
          exact ⟨rfl, rfl⟩
      case rest =>
        obtain ⟨rfl, rfl⟩ := hcut
        go_upto_if 50 with fail
        go_cut [5] (fun ev wx => ∃ (z en zl el : Nat), ev = .int .i64 (en : Int) ∧ Hid (numN (s.data.toList.drop i) = (zl, el)) ∧ Hid (i + zl = z ∧ i + el = en ∧ z ≤ s.size ∧ en ≤ z ∧ q ≤ en) ∧ Hid (Bx wx b (mC s (z : Int) (.slice A ts.length c) 0 tb)) ∧ Hid (Chg b b w wx))
        case first =>
          cases vb
          · have hv9 : ¬ (x.toNat = 46 ∧ vd = true) := by have := HVB.out; simpa using this
            rw [if_neg hv9] at hnum
            clear hv9
            by_cases h100 : x.toNat = 100
            · have k100 : ((x.toNat : Int) == 100) = true := by simp [h100]
              have hqs1 : q < s.size := by
                rcases Nat.lt_or_ge q s.size with h | h
                · exact h
                · have h8 := HX.out
                  rw [nth_end (by exact h)] at h8
                  rw [← h8] at h100
                  exact absurd h100 (by decide)
              cases vl
              · cases vd
                · by_cases h95 : g.toNat = 95
                  · have k95 : ((g.toNat : Int) != 95) = false := by simp [h95]
                    have HNU : Hid (numN (s.data.toList.drop i) = (sd, sd)) := by unfold Hid; rw [hnum, if_neg (by simp [h95])]
                    clear hnum h100 h95 HVB HVD
                    go_wp2_with fail
                    go_at_call 86
                    (with_reducible refine (HH.out _ _ _ _ _ _ q (by omega) (by omega) HB.out).mono ?_)
                    rw [HX.out]
                    rintro e1 w8 ⟨rfl, rfl⟩
                    go_wp2_with fail
                    go_at_call 90
                    (with_reducible refine (LT2.out _).mono ?_)
                    rintro e1 w8 ⟨rfl, rfl⟩
                    go_wp2_with fail
                    go_at_call 91
                    (with_reducible refine (DG2.out _).mono ?_)
                    rintro e1 w8 ⟨rfl, rfl⟩
                    go_wp2_with fail
                    go_meet
                    exact ⟨q, q, sd, sd, rfl, HNU, by have := HSD.out; have := HSZ.out; unfold Hid; omega, HB, HC⟩
                  · have k95 : ((g.toNat : Int) != 95) = true := by simp; omega
                    have HNU : Hid (numN (s.data.toList.drop i) = (sd + 1, sd)) := by unfold Hid; rw [hnum, if_pos (by simp [h100, h95])]
                    have hqs2 : Hid (q < s.size) := hqs1
                    clear hnum h100 h95 HVB HVD
                    go_wp2_with fail
                    go_at_call 86
                    (with_reducible refine (HH.out _ _ _ _ _ _ q (by omega) (by omega) HB.out).mono ?_)
                    rw [HX.out]
                    rintro e1 w8 ⟨rfl, rfl⟩
                    go_wp2_with fail
                    go_at_call 90
                    (with_reducible refine (LT2.out _).mono ?_)
                    rintro e1 w8 ⟨rfl, rfl⟩
                    go_wp2_with fail
                    go_at_call 91
                    (with_reducible refine (DG2.out _).mono ?_)
                    rintro e1 w8 ⟨rfl, rfl⟩
                    go_wp2_with fail
                    go_meet
                    exact ⟨q + 1, q, sd + 1, sd, rfl, HNU, by have := HSD.out; have := hqs2.out; unfold Hid; omega, Lib.hid (HB.out.put rfl), Lib.hid (HC.out.set1 _ _)⟩
                · have HNU : Hid (numN (s.data.toList.drop i) = (sd, sd)) := by unfold Hid; rw [hnum, if_neg (by simp)]
                  clear hnum h100 HVB HVD
                  go_wp2_with fail
                  go_at_call 86
                  (with_reducible refine (HH.out _ _ _ _ _ _ q (by omega) (by omega) HB.out).mono ?_)
                  rw [HX.out]
                  rintro e1 w8 ⟨rfl, rfl⟩
                  go_wp2_with fail
                  go_at_call 90
                  (with_reducible refine (LT2.out _).mono ?_)
                  rintro e1 w8 ⟨rfl, rfl⟩
                  go_wp2_with fail
                  go_at_call 91
                  (with_reducible refine (DG2.out _).mono ?_)
                  rintro e1 w8 ⟨rfl, rfl⟩
                  go_wp2_with fail
                  go_meet
                  exact ⟨q, q, sd, sd, rfl, HNU, by have := HSD.out; have := HSZ.out; unfold Hid; omega, HB, HC⟩
              · have HNU : Hid (numN (s.data.toList.drop i) = (sd, sd)) := by unfold Hid; rw [hnum, if_neg (by simp)]
                clear hnum h100 HVB HVD
                go_wp2_with fail
                go_at_call 86
                (with_reducible refine (HH.out _ _ _ _ _ _ q (by omega) (by omega) HB.out).mono ?_)
                rw [HX.out]
                rintro e1 w8 ⟨rfl, rfl⟩
                go_wp2_with fail
                go_at_call 90
                (with_reducible refine (LT2.out _).mono ?_)
                rintro e1 w8 ⟨rfl, rfl⟩
                go_wp2_with fail
                go_meet
                exact ⟨q, q, sd, sd, rfl, HNU, by have := HSD.out; have := HSZ.out; unfold Hid; omega, HB, HC⟩
            · have k100 : ((x.toNat : Int) == 100) = false := by simp; omega
              have HNU : Hid (numN (s.data.toList.drop i) = (sd, sd)) := by unfold Hid; rw [hnum, if_neg (by simp [h100])]
              clear hnum h100 HVB HVD
              go_wp2_with fail
              go_at_call 86
              (with_reducible refine (HH.out _ _ _ _ _ _ q (by omega) (by omega) HB.out).mono ?_)
              rw [HX.out]
              rintro e1 w8 ⟨rfl, rfl⟩
              go_wp2_with fail
              go_meet
              exact ⟨q, q, sd, sd, rfl, HNU, by have := HSD.out; have := HSZ.out; unfold Hid; omega, HB, HC⟩
          · have hv9 : x.toNat = 46 ∧ vd = true := by have := HVB.out; simpa using this
            obtain ⟨h46, rfl⟩ := hv9
            have hq1s : q + 1 < s.size := by
              rcases Nat.lt_or_ge (q + 1) s.size with h | h
              · exact h
              · have h8 := HGg.out
                rw [nth_end (by exact h)] at h8
                have h9 := HVD.out
                rw [← h8] at h9
                exact absurd h9 (by decide)
            have hspn := spn_bd isDig s.data.toList (i := q + 1) (Nat.le_of_lt hq1s)
            obtain ⟨d1, hd1⟩ : ∃ d, q + 1 + spn isDig (s.data.toList.drop (q + 1)) = d := ⟨_, rfl⟩
            rw [hd1] at hspn
            have hd1s : d1 ≤ s.size := hspn
            have hqd1 : q + 1 ≤ d1 := by omega
            have HD1 := Lib.hid hd1
            have HNU : Hid (numN (s.data.toList.drop i) = (d1 - i, d1 - i)) := by
              unfold Hid
              rw [hnum, if_pos ⟨h46, rfl⟩]
              have h1 := HSD.out.1
              have e : sd + 1 + spn isDig (s.data.toList.drop (q + 1)) = d1 - i := by omega
              rw [e]
            have hB0 : Hid (Bx (w8.setCell ⟨b, 1, none⟩ (.int .i64 ((q : Int) + 1))) b (mC s ((q : Int) + 1) (.slice A ts.length c) 0 tb)) := HB.out.put rfl
            have hC0 : Hid (Chg b b w (w8.setCell ⟨b, 1, none⟩ (.int .i64 ((q : Int) + 1)))) := HC.out.set1 _ _
            clear hnum h46 hspn hd1 HVB HVD
            go_wp2_with fail
            clear c0 c1 c2 c3 c4 f0 f1 f2 f3 f4 lt
            go_loopw [] (fun wx => ∃ p : Nat, q + 1 ≤ p ∧ p ≤ d1 ∧ Hid (p + spn isDig (s.data.toList.drop p) = d1) ∧ Hid (Bx wx b (mC s (p : Int) (.slice A ts.length c) 0 tb)) ∧ Hid (Chg b b w wx)) (fun wx => d1 + 1 - (rdI wx ⟨b, 1, none⟩).toNat)
            case atStart => exact ⟨q + 1, Nat.le_refl _, hqd1, HD1, hB0, hC0⟩
            case round =>
              clear HB HC hB0 hC0
              obtain ⟨p, hqp, hpd, HP, HB, HC⟩ := hrel
              have hm1 := Lib.hid (rdI_of HB.out.c5.2.1)
              obtain ⟨y, hy⟩ : ∃ y, nth s.data.toList p = y := ⟨_, rfl⟩
              have HY := Lib.hid hy
              have hx1 : IntKind.i64.wrap ((p : Int) + 1) = (p : Int) + 1 := IntWalk.i64_in _ (by omega)
              obtain ⟨v, hv⟩ : ∃ v, isDig y = v := ⟨_, rfl⟩
              have DG3 := Lib.hid (DG.out y)
              rw [hv] at DG3
              (obtain ⟨c0, c1, c2, c3, c4⟩ := HB.out.c5; obtain ⟨f0, f1, f2, f3, f4⟩ := HB.out.f5; have lt := HB.out.lt)
              cases v
              · have hpe : p = d1 := by
                  have := HP.out
                  rw [spn_no (by rw [hy]; exact hv)] at this
                  omega
                subst hpe
                clear hy hv hx2
                go_wp2_with fail
                go_at_call 86
                (with_reducible refine (HH.out _ _ _ _ _ _ p (by omega) (by omega) HB.out).mono ?_)
                rw [HY.out]
                rintro e1 w8 ⟨rfl, rfl⟩
                go_wp2_with fail
                go_at_call 91
                (with_reducible refine (DG3.out _).mono ?_)
                rintro e1 w9 ⟨rfl, rfl⟩
                go_wp2_with fail
                go_meet
                exact ⟨p, p, p - i, p - i, rfl, HNU, by have := HSD.out; unfold Hid; omega, HB, HC⟩
              · have hp1 : Hid (p + 1 + spn isDig (s.data.toList.drop (p + 1)) = d1 ∧ p < s.size) := by
                  have hps : p < s.size := by
                    rcases Nat.lt_or_ge p s.size with h | h
                    · exact h
                    · rw [nth_end (by exact h)] at hy
                      rw [← hy] at hv
                      exact absurd hv (by decide)
                  have := HP.out
                  rw [spn_yes hps (by rw [hy]; exact hv)] at this
                  unfold Hid
                  omega
                have hp2 : p + 1 ≤ d1 := by have := hp1.out; omega
                clear hy hv hx2
                go_wp2_with fail
                go_at_call 86
                (with_reducible refine (HH.out _ _ _ _ _ _ p (by omega) (by omega) HB.out).mono ?_)
                rw [HY.out]
                rintro e1 w8 ⟨rfl, rfl⟩
                go_wp2_with fail
                go_at_call 91
                (with_reducible refine (DG3.out _).mono ?_)
                rintro e1 w9 ⟨rfl, rfl⟩
                go_wp2_with fail
                go_roundw
                case rel => exact ⟨p + 1, by omega, hp2, hp1.out.1, Lib.hid (HB.out.put rfl), Lib.hid (HC.out.set1 _ _)⟩
                case measure =>
                  rw [rdI_of (Bx.put (i := 1) (v := .int .i64 ((p : Int) + 1)) HB.out rfl).c5.2.1, hm1.out]
                  omega
        case rest =>
          clear hnum HB HC hm0 DG2 LT2 HH DG LT HVB HVD hx2
          clear c0 c1 c2 c3 c4 f0 f1 f2 f3 f4 lt
          obtain ⟨z, en, zl, el, rfl, HNU, HZ, HB, HC⟩ := hcut
          have hlx := lexN.eq_1 (s.data.toList.drop i)
          rw [HNU.out, ← HSD.out.2, nth_drop, Nat.add_zero, nth_idx s hi] at hlx
          obtain ⟨y, hy⟩ : ∃ c, s[i] = c := ⟨_, rfl⟩
          rw [hy] at hlx
          dsimp only at hlx
          obtain ⟨r, hr⟩ : ∃ r, s.data.toList.drop i = r := ⟨_, rfl⟩
          rw [hr] at hlx
          have ex1 := ext_take s i el
          have ex2 := ext_take s i zl
          obtain ⟨hz1, hz2, hz3, hz4, hz5⟩ := HZ.out
          rw [hz2, hr] at ex1
          rw [hz1, hr] at ex2
          have hin1 : (i : Int) < (s.size : Int) := by omega
          have i1 : (i : Int) ≤ (en : Int) := by omega
          have i2 : (en : Int) ≤ (s.size : Int) := by omega
          have i3 : (i : Int) ≤ (z : Int) := by omega
          have i4 : (z : Int) ≤ (s.size : Int) := by omega
          clear hz1 hz2 hz3 hz4 hz5
          have HRR := Lib.hid hr
          obtain ⟨X, hX⟩ : ∃ X, lexN r = X := ⟨_, rfl⟩
          rw [hX] at hlx
          have HXX : Hid (lexN (s.data.toList.drop i) = X) := by unfold Hid; rw [hr, hX]
          have HR2 := Lib.hid (HR.out.chg HC.out)
          have HE2 := Lib.hid (HE.out.chg HC.out hgb hgb)
          clear hr hX
          (obtain ⟨c0, c1, c2, c3, c4⟩ := HB.out.c5; obtain ⟨f0, f1, f2, f3, f4⟩ := HB.out.f5; have lt := HB.out.lt)
          by_cases hz : 1 < sd ∧ y.toNat = 48
          · have k1 : (1 : Int) < (sd : Int) := by omega
            have k48 : ((y.toNat : Int) == 48) = true := by simp [hz.2]
            rw [if_pos hz] at hlx
            have HLX := Lib.hid hlx
            clear hlx hz
            go_wp2_with fail
            go_at_call 55
            (with_reducible refine (FL.out _ _ _ _ _ _ HB.out).mono ?_)
            rintro e1 w4 ⟨rfl, hb4, hc4⟩
            go_wp2_with fail
            (first | go_end0 | refine bodyPost_ret (results_none rfl _ _ _) rfl ?_)
            rw [HXX.out, HLX.out]
            exact ⟨rfl, (HC.out.trans hc4).bel (Nat.le_of_lt hbw), _, _, by rw [Nat.add_zero]; exact hb4⟩
          · rw [if_neg hz] at hlx
            obtain ⟨⟨pn, ps, pe⟩, hpp⟩ : ∃ p, parseN (r.take el) = p := ⟨_, rfl⟩
            have hrl : (r.take el).length ≤ 100000 := by rw [List.length_take, ← HRR.out, List.length_drop]; show min el (s.size - i) ≤ _; omega
            have PP := Lib.hid (fun (wx : World) (he : Env wx) => parse_any (r.take el) wx hrl (Env.vars he) (Env.pow he))
            rw [hpp] at PP hlx
            dsimp only at hlx
            have hcase : ¬ (1 : Int) < (sd : Int) ∨ ((1 : Int) < (sd : Int) ∧ ((y.toNat : Int) == 48) = false) := by
              by_cases h1 : 1 < sd
              · exact .inr ⟨by omega, by have : y.toNat ≠ 48 := fun e => hz ⟨h1, e⟩; simp; omega⟩
              · exact .inl (by omega)
            clear hz hpp hrl
            by_cases hpe : pe = 0
            · subst hpe
              rw [if_neg (by simp)] at hlx
              have HLX := Lib.hid hlx
              clear hlx
              rcases hcase with k1 | ⟨k1, k48⟩
              all_goals
                go_wp2_with fail
                go_at_call 79
                (with_reducible refine (PP.out _ HE2.out).mono ?_)
                rintro e1 w4 ⟨rfl, hb4⟩
                dsimp only
                replace HB := Lib.hid (HB.out.grow hb4)
                replace HC := Lib.hid (HC.out.grow hb4)
                replace HR2 := Lib.hid (HR2.out.grow hb4)
                clear hb4
                clear c0 c1 c2 c3 c4 f0 f1 f2 f3 f4 lt
                (obtain ⟨c0, c1, c2, c3, c4⟩ := HB.out.c5; obtain ⟨f0, f1, f2, f3, f4⟩ := HB.out.f5; have lt := HB.out.lt)
                go_upto_region 15 with fail
                obtain ⟨rr, hrr⟩ : ∃ r, w4.heap.size = r := ⟨_, rfl⟩
                rw [hrr]
                have AD := Lib.hid (fun (wx : World) (lv : Nat) (hb : Bx wx b (mC s (z : Int) (.slice A ts.length c) 0 tb)) (hr : MRow wx b s ts A c) => add_m hb hr hs (Nat.le_of_lt hi) hn ⟨2, r.take zl, [], pn, ps⟩)
                dsimp only [tnL] at AD
                rw [show B [] = (⟨#[]⟩ : ByteArray) from rfl] at AD
                refine wp_name (fun wx => Hid (Bx wx b (mC s (z : Int) (.slice A ts.length c) 0 tb)) ∧ Hid (Chg b b w wx) ∧ Hid (MRow wx b s ts A c) ∧ Hid (wx.cell? ⟨rr, 0, none⟩ = some (.int .i64 pn) ∧ wx.cell? ⟨rr, 1, none⟩ = some (.int .i64 ps) ∧ rr < wx.heap.size)) ⟨HB.out.alloc _, HC.out.alloc _, HR2.out.grow (G.alloc (G.refl _) _), by rw [← hrr]; exact ⟨by simp, by simp, by simp⟩⟩ ?_
                clear HB HC HR2 hrr
                clear c0 c1 c2 c3 c4 f0 f1 f2 f3 f4 lt
                rintro w5 ⟨HB, HC, HR2, HRC⟩
                obtain ⟨rc0, rc1, rlt⟩ := HRC.out
                (obtain ⟨c0, c1, c2, c3, c4⟩ := HB.out.c5; obtain ⟨f0, f1, f2, f3, f4⟩ := HB.out.f5; have lt := HB.out.lt)
                go_wp2_with fail
                refine wp_region_ord [(0, 1), (1, 1), (2, 1), (3, 1), (4, 1), (5, 1), (6, 1), (7, 1), (8, 1), (9, 1), (10, 1), (11, 1), (12, 1), (13, 1), (14, 3)] [14] 5 (by kernel_rfl) (by decide +kernel) ?_
                simp only [pickO, List.append_eq, List.cons_append, List.nil_append, List.getElem?_cons_succ, List.getElem?_cons_zero]
                intro w0 hG
                (repeat ((first | (with_reducible refine ord_q1 ?_) | (with_reducible refine ord_q0 ?_)); intro K hK; first | (refine Or.inr ⟨?_, ?_⟩; (focus (go_simp; first | done | (simp [undef]; done))); go_simp; (with_reducible refine hK _ ?_); clear hK K) | (refine Or.inl ⟨?_, ?_⟩; (focus (go_simp; done)); apply Exists.intro; refine And.intro ?_ ?_; (focus (first | (intro wq hq; obtain ⟨hcq, hfq⟩ := G.old hq; go_simp; (first | done | exact rfl); done) | (intro wq; go_simp; (first | done | exact rfl); done))); go_simp; (with_reducible refine hK _ ?_); clear hK K) | fail))
                (with_reducible refine ord_tail ?_)
                intro K hK
                go_simp
                have hb9 := hG.b
                go_at_call 92
                (with_reducible refine (AD.out _ 0 (HB.out.grow hb9) (HR2.out.grow hb9)).mono ?_)
                rintro e1 w6 ⟨rfl, hb6, A6, c6, hbx6, hr6⟩
                (try dsimp only)
                (with_reducible refine hK _ _ ?_)
                clear hK K
                (with_reducible refine ord_nil ?_)
                go_wp2_with fail
                (first | go_end0 | refine bodyPost_ret (results_none rfl _ _ _) rfl ?_)
                rw [HXX.out, HLX.out]
                have hz1 := HZ.out.1
                exact ⟨rfl, ((HC.out.grow hb9).bel (Nat.le_of_lt hbw)).trans hb6, A6, c6, by rw [hz1]; exact hbx6, hr6⟩
            · rw [if_pos hpe] at hlx
              have HLX := Lib.hid hlx
              have kpe : (pe != 0) = true := by simp [hpe]
              clear hlx hpe
              rcases hcase with k1 | ⟨k1, k48⟩
              all_goals
                go_wp2_with fail
                go_at_call 79
                (with_reducible refine (PP.out _ HE2.out).mono ?_)
                rintro e1 w4 ⟨rfl, hb4⟩
                dsimp only
                replace HB := Lib.hid (HB.out.grow hb4)
                replace HC := Lib.hid (HC.out.grow hb4)
                clear hb4
                clear c0 c1 c2 c3 c4 f0 f1 f2 f3 f4 lt
                (obtain ⟨c0, c1, c2, c3, c4⟩ := HB.out.c5; obtain ⟨f0, f1, f2, f3, f4⟩ := HB.out.f5; have lt := HB.out.lt)
                go_wp2_with fail
                go_at_call 55
                (with_reducible refine (FL.out _ _ _ _ _ _ (HB.out.alloc _)).mono ?_)
                rintro e1 w5 ⟨rfl, hb5, hc5⟩
                go_wp2_with fail
                (first | go_end0 | refine bodyPost_ret (results_none rfl _ _ _) rfl ?_)
                rw [HXX.out, HLX.out]
                exact ⟨rfl, ((HC.out.alloc _).trans hc5).bel (Nat.le_of_lt hbw), _, _, by rw [Nat.add_zero]; exact hb5⟩
    · have hq1 : Hid (q + 1 + spn isDig (s.data.toList.drop (q + 1)) = d0 ∧ q < s.size) := by
        have hps : q < s.size := by
          rcases Nat.lt_or_ge q s.size with h | h
          · exact h
          · rw [nth_end (by exact h)] at hx
            rw [← hx] at hv
            exact absurd hv (by decide)
        have := HQ.out
        rw [spn_yes hps (by rw [hx]; exact hv)] at this
        unfold Hid
        omega
      have hq2 : q + 1 ≤ d0 := by have := hq1.out; omega
      clear hx hv
      go_wp2_with fail
      go_at_call 86
      (with_reducible refine (HH.out _ _ _ _ _ _ q (by omega) (by omega) HB.out).mono ?_)
      rw [HX.out]
      rintro e1 w8 ⟨rfl, rfl⟩
      go_wp2_with fail
      go_at_call 91
      (with_reducible refine (DG1.out _).mono ?_)
      rintro e1 w9 ⟨rfl, rfl⟩
      go_wp2_with fail
      go_roundw
      case rel => exact ⟨q + 1, by omega, hq2, hq1.out.1, Lib.hid (HB.out.put rfl), Lib.hid (HC.out.set1 _ _)⟩
      case measure =>
        rw [rdI_of (Bx.put (i := 1) (v := .int .i64 ((q : Int) + 1)) HB.out rfl).c5.2.1, hm0.out]
        omega
end
end Go.Proofs.YtmchiibbodllaaaGreatDoor

namespace Go.Proofs.YtmchiibbodllaaaGreatDoor
set_option linter.unusedVariables false
set_option linter.unnecessarySimpa false
set_option linter.unusedSimpArgs false
open Go.RowKit

theorem lexX_hexP (r : List UInt8) (h : 2 ≤ r.length) : lexX r = match hexP (r.length + 1) r 2 [] with
    | .ok n v => if 1024 < v.length then .bad 0 5 else .ok n ⟨4, [], v, 0, 0⟩
    | .bad o e => .bad o e := by
  rw [hexP_eq _ r 2 [] h (by omega)]
  unfold lexX
  by_cases h1 : r.length ≤ 2 + spn isHex (r.drop 2)
  · rw [if_pos h1, if_pos h1]
  · rw [if_neg h1, if_neg h1]
    by_cases h2 : (nth r (2 + spn isHex (r.drop 2))).toNat ≠ 34 ∨ spn isHex (r.drop 2) % 2 ≠ 0
    · rw [if_pos h2, if_pos h2]
    · rw [if_neg h2, if_neg h2]
      simp only [List.nil_append]
theorem hexP_in : ∀ (F : Nat) (r : List UInt8) (i : Nat) (acc : List UInt8) {o : Nat} {e : Int}, r.length < i + F → i ≤ r.length → hexP F r i acc = .bad o e → e ≠ 0
  | 0, r, i, acc, o, e, h1, h2, h => by omega
  | F + 1, r, i, acc, o, e, h1, h2, h => by
    unfold hexP at h
    split at h
    · injection h with _ h; omega
    · split at h
      · cases h
      · split at h
        · injection h with _ h; omega
        · split at h
          · injection h with _ h; omega
          · split at h
            · injection h with _ h; omega
            · exact hexP_in F r _ _ (by omega) (by omega) h
section
variable {w : World} {b i : Nat} {s : ByteArray} {ts : List Pl} {A : Option Addr} {c : Nat} {tb : Int}
set_option maxRecDepth 20000 in set_option maxHeartbeats 4000000 in
theorem token_x (h : Bx w b (mC s (i : Int) (.slice A ts.length c) 0 tb)) (hr : MRow w b s ts A c) (hs : s.size ≤ 100000) (hi : i < s.size) (hn : ts.length ≤ 20000)
    (h0 : (nth s.data.toList i).toNat = 120) (h1 : (nth s.data.toList (i + 1)).toNat = 34) :
    Calls Tryz.prog 56 #[.pointer (some ⟨b, 0, none⟩)] w (RetTk w b s i ts tb (lexX (s.data.toList.drop i))) := by
  have h2 : i + 2 ≤ s.size := by
    rcases Nat.lt_or_ge (i + 1) s.size with h | h
    · omega
    · rw [nth_end (by exact h)] at h1; exact absurd h1 (by decide)
  have hrl : (s.data.toList.drop i).length = s.size - i := by rw [List.length_drop]; rfl
  have hlx := lexX_hexP (s.data.toList.drop i) (by omega)
  have hbd := fun o e (he : hexP ((s.data.toList.drop i).length + 1) (s.data.toList.drop i) 2 [] = .bad o e) => hexP_in _ _ _ _ (by omega) (by omega) he
  have HB := Lib.hid h
  have HR := Lib.hid hr
  have hbw : b < w.heap.size := h.lt
  rw [nth_idx s hi] at h0
  obtain ⟨x, hx⟩ : ∃ x, s[i] = x := ⟨_, rfl⟩
  rw [hx] at h0
  obtain ⟨y, hy⟩ : ∃ y, nth s.data.toList (i + 1) = y := ⟨_, rfl⟩
  rw [hy] at h1
  have HY := Lib.hid hy
  have k120 : ((x.toNat : Int) == 120) = true := by simp [h0]
  have k34 : ((y.toNat : Int) == 34) = true := by simp [h1]
  have hi1 : (i : Int) < (s.size : Int) := by omega
  have hx1 : IntKind.i64.wrap ((i : Int) + 1) = (i : Int) + 1 := IntWalk.i64_in _ (by omega)
  have hx2 : IntKind.i64.wrap ((i : Int) + 2) = ((i + 2 : Nat) : Int) := by rw [IntWalk.i64_in _ (by omega)]; simp
  have HH := Lib.hid (fun (wx : World) (p e : Int) (lv : Value) (tb a : Int) (k : Nat) (ha : a = (k : Int)) (hk : k ≤ 1000000) (hb : Bx wx b (mC s p lv e tb)) => here_a hb hs a k ha hk)
  have BY := Lib.hid (fun (wx : World) (hb : Bx wx b (mC s ((i + 2 : Nat) : Int) (.slice A ts.length c) 0 tb)) => bytes_m (f := i) (q0 := 2) hb hs h2)
  have VL := Lib.hid (fun (wx : World) (n : Nat) (v : List UInt8) (hv : v.length ≤ 1024) (hb : Bx wx b (mC s (n : Int) (.slice A ts.length c) 0 tb)) (hr : MRow wx b s ts A c) => value_ok hb hr hs (Nat.le_of_lt hi) hn ⟨4, [], v, 0, 0⟩ hv)
  have VB := Lib.hid (fun (wx : World) (n : Nat) (e : Int) (he : e ≠ 0) (hb : Bx wx b (mC s (n : Int) (.slice A ts.length c) e tb)) => value_bad (ts := ts) hb he 4 0 0 [] [] 0 0 false (i : Int))
  have VG := Lib.hid (fun (wx : World) (n : Nat) (v : List UInt8) (hv : 1024 < v.length) (hb : Bx wx b (mC s (n : Int) (.slice A ts.length c) 0 tb)) => value_long (ts := ts) hb 4 0 0 [] v hv 0 0 false (i : Int))
  dsimp only [tnL] at VL VB VG
  rw [show B [] = (⟨#[]⟩ : ByteArray) from rfl] at VL VB VG
  have hrlH := Lib.hid hrl
  clear h hr h0 h1 hy hrl
  obtain ⟨X, hX⟩ : ∃ X, hexP ((s.data.toList.drop i).length + 1) (s.data.toList.drop i) 2 [] = X := ⟨_, rfl⟩
  rw [hX] at hlx hbd BY
  clear hX
  rcases X with ⟨n, v⟩ | ⟨o, e⟩
  · replace hlx := Lib.hid hlx
    clear hbd
    (obtain ⟨c0, c1, c2, c3, c4⟩ := HB.out.c5; obtain ⟨f0, f1, f2, f3, f4⟩ := HB.out.f5; have lt := HB.out.lt)
    go_enter Tryz.func56, Tryz.ntmps56
    go_wp2_with fail
    go_at_call 86
    (with_reducible refine (HH.out _ _ _ _ _ _ (i + 1) (by omega) (by omega) HB.out).mono ?_)
    rw [HY.out]
    rintro e1 w6 ⟨rfl, rfl⟩
    go_wp2_with fail
    go_at_call 87
    (with_reducible refine (BY.out _ (HB.out.put rfl)).mono ?_)
    rintro e1 w7 ⟨hc7, rfl, hb7⟩
    have HC7 := Lib.hid (((Chg.refl b b w6).set1 _ _).trans hc7)
    have HR7 := Lib.hid (HR.out.chg HC7.out)
    clear hc7
    go_wp2_with fail
    go_at_call 88
    by_cases hv : 1024 < v.length
    · (with_reducible refine (VG.out _ _ v hv hb7).mono ?_)
      rintro e1 w8 ⟨rfl, hb8, hbx8⟩
      have HLX : Hid (lexX (s.data.toList.drop i) = .bad 0 5) := by have := hlx.out; simp only [if_pos hv] at this; exact this
      go_wp2_with fail
      (first | go_end0 | refine bodyPost_ret (results_none rfl _ _ _) rfl ?_)
      rw [HLX.out]
      exact ⟨rfl, (HC7.out.bel (Nat.le_of_lt hbw)).trans hb8, _, _, by rw [Nat.add_zero]; exact hbx8⟩
    · (with_reducible refine (VL.out _ _ v (by omega) hb7 HR7.out).mono ?_)
      rintro e1 w8 ⟨rfl, hb8, A8, c8, hbx8, hr8⟩
      have HLX : Hid (lexX (s.data.toList.drop i) = .ok n ⟨4, [], v, 0, 0⟩) := by have := hlx.out; simp only [if_neg hv] at this; exact this
      go_wp2_with fail
      (first | go_end0 | refine bodyPost_ret (results_none rfl _ _ _) rfl ?_)
      rw [HLX.out]
      exact ⟨rfl, (HC7.out.bel (Nat.le_of_lt hbw)).trans hb8, A8, c8, hbx8, hr8⟩
  · have he := hbd o e rfl
    replace hlx := Lib.hid hlx
    clear hbd
    (obtain ⟨c0, c1, c2, c3, c4⟩ := HB.out.c5; obtain ⟨f0, f1, f2, f3, f4⟩ := HB.out.f5; have lt := HB.out.lt)
    go_enter Tryz.func56, Tryz.ntmps56
    go_wp2_with fail
    go_at_call 86
    (with_reducible refine (HH.out _ _ _ _ _ _ (i + 1) (by omega) (by omega) HB.out).mono ?_)
    rw [HY.out]
    rintro e1 w6 ⟨rfl, rfl⟩
    go_wp2_with fail
    go_at_call 87
    (with_reducible refine (BY.out _ (HB.out.put rfl)).mono ?_)
    rintro e1 w7 ⟨hc7, rfl, hb7⟩
    have HC7 := Lib.hid (((Chg.refl b b w6).set1 _ _).trans hc7)
    clear hc7
    go_wp2_with fail
    go_at_call 88
    (with_reducible refine (VB.out _ _ _ he hb7).mono ?_)
    rintro e1 w8 ⟨rfl, hb8⟩
    have HLX : Hid (lexX (s.data.toList.drop i) = .bad o e) := hlx.out
    go_wp2_with fail
    (first | go_end0 | refine bodyPost_ret (results_none rfl _ _ _) rfl ?_)
    rw [HLX.out]
    exact ⟨rfl, (HC7.out.bel (Nat.le_of_lt hbw)).trans (hb8.mono (Nat.le_of_lt hb7.lt)), _, _, hb7.grow hb8⟩
set_option maxRecDepth 20000 in set_option maxHeartbeats 4000000 in
theorem token_s (hE : Env w) (hgb : ¬ GB b) (h : Bx w b (mC s (i : Int) (.slice A ts.length c) 0 tb)) (hr : MRow w b s ts A c) (hs : s.size ≤ 100000) (hi : i < s.size) (hn : ts.length ≤ 20000)
    (h0 : (nth s.data.toList i).toNat = 34) :
    Calls Tryz.prog 56 #[.pointer (some ⟨b, 0, none⟩)] w (RetTk w b s i ts tb (lexS (s.data.toList.drop i))) := by
  have hrl : (s.data.toList.drop i).length = s.size - i := by rw [List.length_drop]; rfl
  have hlx := lexS.eq_1 (s.data.toList.drop i)
  have hbd := fun o e (he : strB ((s.data.toList.drop i).length + 1) (s.data.toList.drop i) 1 [] = .bad o e) => (show e ≠ 0 by have := strB_bd ((s.data.toList.drop i).length + 1) (s.data.toList.drop i) 1 [] (by omega) (by omega) (by omega); rw [he] at this; exact this.2)
  have HB := Lib.hid h
  have HR := Lib.hid hr
  have hbw : b < w.heap.size := h.lt
  rw [nth_idx s hi] at h0
  obtain ⟨x, hx⟩ : ∃ x, s[i] = x := ⟨_, rfl⟩
  rw [hx] at h0
  have k120 : ((x.toNat : Int) == 120) = false := by simp [h0]
  have k34 : ((x.toNat : Int) == 34) = true := by simp [h0]
  have hi1 : (i : Int) < (s.size : Int) := by omega
  have hx1 : IntKind.i64.wrap ((i : Int) + 1) = ((i + 1 : Nat) : Int) := by rw [IntWalk.i64_in _ (by omega)]; simp
  have BY := Lib.hid (fun (wx : World) (hb : Bx wx b (mC s ((i + 1 : Nat) : Int) (.slice A ts.length c) 0 tb)) (he : Env wx) => text_m (f := i) (q0 := 1) he hgb hb hs (by omega))
  have VL := Lib.hid (fun (wx : World) (n : Nat) (v : List UInt8) (hv : v.length ≤ 1024) (hb : Bx wx b (mC s (n : Int) (.slice A ts.length c) 0 tb)) (hr : MRow wx b s ts A c) => value_ok hb hr hs (Nat.le_of_lt hi) hn ⟨3, [], v, 0, 0⟩ hv)
  have VB := Lib.hid (fun (wx : World) (n : Nat) (e : Int) (he : e ≠ 0) (hb : Bx wx b (mC s (n : Int) (.slice A ts.length c) e tb)) => value_bad (ts := ts) hb he 3 0 0 [] [] 0 0 false (i : Int))
  have VG := Lib.hid (fun (wx : World) (n : Nat) (v : List UInt8) (hv : 1024 < v.length) (hb : Bx wx b (mC s (n : Int) (.slice A ts.length c) 0 tb)) => value_long (ts := ts) hb 3 0 0 [] v hv 0 0 false (i : Int))
  dsimp only [tnL] at VL VB VG
  rw [show B [] = (⟨#[]⟩ : ByteArray) from rfl] at VL VB VG
  have hrlH := Lib.hid hrl
  have HE := Lib.hid hE
  clear h hr h0 hrl hE
  obtain ⟨X, hX⟩ : ∃ X, strB ((s.data.toList.drop i).length + 1) (s.data.toList.drop i) 1 [] = X := ⟨_, rfl⟩
  rw [hX] at hlx hbd BY
  clear hX
  rcases X with ⟨n, v⟩ | ⟨o, e⟩
  · replace hlx := Lib.hid hlx
    clear hbd
    (obtain ⟨c0, c1, c2, c3, c4⟩ := HB.out.c5; obtain ⟨f0, f1, f2, f3, f4⟩ := HB.out.f5; have lt := HB.out.lt)
    go_enter Tryz.func56, Tryz.ntmps56
    go_wp2_with fail
    go_at_call 89
    (with_reducible refine (BY.out _ (HB.out.put rfl) (HE.out.chg ((Chg.refl b b w).set1 1 (.int .i64 ((i : Int) + 1))) hgb hgb)).mono ?_)
    rintro e1 w7 ⟨hc7, rfl, hb7⟩
    have HC7 := Lib.hid (((Chg.refl b b w).set1 _ _).trans hc7)
    have HR7 := Lib.hid (HR.out.chg HC7.out)
    clear hc7
    go_wp2_with fail
    go_at_call 88
    by_cases hv : 1024 < v.length
    · (with_reducible refine (VG.out _ _ v hv hb7).mono ?_)
      rintro e1 w8 ⟨rfl, hb8, hbx8⟩
      have HLX : Hid (lexS (s.data.toList.drop i) = .bad 0 5) := by have := hlx.out; simp only [if_pos hv] at this; exact this
      go_wp2_with fail
      (first | go_end0 | refine bodyPost_ret (results_none rfl _ _ _) rfl ?_)
      rw [HLX.out]
      exact ⟨rfl, (HC7.out.bel (Nat.le_of_lt hbw)).trans hb8, _, _, by rw [Nat.add_zero]; exact hbx8⟩
    · (with_reducible refine (VL.out _ _ v (by omega) hb7 HR7.out).mono ?_)
      rintro e1 w8 ⟨rfl, hb8, A8, c8, hbx8, hr8⟩
      have HLX : Hid (lexS (s.data.toList.drop i) = .ok n ⟨3, [], v, 0, 0⟩) := by have := hlx.out; simp only [if_neg hv] at this; exact this
      go_wp2_with fail
      (first | go_end0 | refine bodyPost_ret (results_none rfl _ _ _) rfl ?_)
      rw [HLX.out]
      exact ⟨rfl, (HC7.out.bel (Nat.le_of_lt hbw)).trans hb8, A8, c8, hbx8, hr8⟩
  · have he := hbd o e rfl
    replace hlx := Lib.hid hlx
    clear hbd
    (obtain ⟨c0, c1, c2, c3, c4⟩ := HB.out.c5; obtain ⟨f0, f1, f2, f3, f4⟩ := HB.out.f5; have lt := HB.out.lt)
    go_enter Tryz.func56, Tryz.ntmps56
    go_wp2_with fail
    go_at_call 89
    (with_reducible refine (BY.out _ (HB.out.put rfl) (HE.out.chg ((Chg.refl b b w).set1 1 (.int .i64 ((i : Int) + 1))) hgb hgb)).mono ?_)
    rintro e1 w7 ⟨hc7, rfl, hb7⟩
    have HC7 := Lib.hid (((Chg.refl b b w).set1 _ _).trans hc7)
    clear hc7
    go_wp2_with fail
    go_at_call 88
    (with_reducible refine (VB.out _ _ _ he hb7).mono ?_)
    rintro e1 w8 ⟨rfl, hb8⟩
    have HLX : Hid (lexS (s.data.toList.drop i) = .bad o e) := hlx.out
    go_wp2_with fail
    (first | go_end0 | refine bodyPost_ret (results_none rfl _ _ _) rfl ?_)
    rw [HLX.out]
    exact ⟨rfl, (HC7.out.bel (Nat.le_of_lt hbw)).trans (hb8.mono (Nat.le_of_lt hb7.lt)), _, _, hb7.grow hb8⟩
end
end Go.Proofs.YtmchiibbodllaaaGreatDoor

namespace Go.Proofs.YtmchiibbodllaaaGreatDoor
set_option linter.unusedVariables false
set_option linter.unnecessarySimpa false
set_option linter.unusedSimpArgs false
open Go.RowKit

section
variable {w : World} {b i : Nat} {s : ByteArray} {ts : List Pl} {A : Option Addr} {c : Nat} {tb : Int}
set_option maxRecDepth 20000 in set_option maxHeartbeats 4000000 in
theorem token_n (hE : Env w) (hgb : ¬ GB b) (h : Bx w b (mC s (i : Int) (.slice A ts.length c) 0 tb)) (hr : MRow w b s ts A c) (hs : s.size ≤ 100000) (hi : i < s.size) (hn : ts.length ≤ 20000)
    (h0 : isDig (nth s.data.toList i) = true) :
    Calls Tryz.prog 56 #[.pointer (some ⟨b, 0, none⟩)] w (RetTk w b s i ts tb (lexN (s.data.toList.drop i))) := by
  have NM := Lib.hid (number_m hE hgb h hr hs hi hn)
  obtain ⟨c0, c1, c2, c3, c4⟩ := h.c5
  have lt := h.lt
  rw [nth_idx s hi] at h0
  obtain ⟨x, hx⟩ : ∃ x, s[i] = x := ⟨_, rfl⟩
  rw [hx] at h0
  have h9 : 48 ≤ x.toNat ∧ x.toNat ≤ 57 := by unfold isDig at h0; simpa using h0
  have hl : isLet x = false := by unfold isLet; simp; omega
  have L1 := Lib.hid (fun wx => letter_m x wx)
  have D1 := Lib.hid (fun wx => digit_m x wx)
  rw [hl] at L1
  rw [h0] at D1
  have k120 : ((x.toNat : Int) == 120) = false := by simp; omega
  have k34 : ((x.toNat : Int) == 34) = false := by simp; omega
  have hi1 : (i : Int) < (s.size : Int) := by omega
  clear h0 h9 hl h hr hE
  go_enter Tryz.func56, Tryz.ntmps56
  go_wp2_with fail
  go_at_call 90
  (with_reducible refine (L1.out _).mono ?_)
  rintro e1 w6 ⟨rfl, rfl⟩
  go_wp2_with fail
  go_at_call 91
  (with_reducible refine (D1.out _).mono ?_)
  rintro e1 w7 ⟨rfl, rfl⟩
  go_wp2_with fail
  go_at_call 93
  (with_reducible refine NM.out.mono ?_)
  rintro e1 w8 ⟨rfl, h2⟩
  replace h2 := Lib.hid h2
  go_wp2_with fail
  (first | go_end0 | refine bodyPost_ret (results_none rfl _ _ _) rfl ?_)
  exact ⟨rfl, h2.out⟩
set_option maxRecDepth 20000 in set_option maxHeartbeats 8000000 in
theorem token_w (h : Bx w b (mC s (i : Int) (.slice A ts.length c) 0 tb)) (hr : MRow w b s ts A c) (hs : s.size ≤ 100000) (hi : i < s.size) (hn : ts.length ≤ 20000)
    (h0 : isLet (nth s.data.toList i) = true) (h1 : ¬ ((nth s.data.toList i).toNat = 120 ∧ (nth s.data.toList (i + 1)).toNat = 34)) :
    Calls Tryz.prog 56 #[.pointer (some ⟨b, 0, none⟩)] w (RetTk w b s i ts tb (lexW (s.data.toList.drop i))) := by
  have HB := Lib.hid h
  have HR := Lib.hid hr
  have hbw : b < w.heap.size := h.lt
  have HH := Lib.hid (fun (wx : World) (p e : Int) (lv : Value) (tb a : Int) (k : Nat) (ha : a = (k : Int)) (hk : k ≤ 1000000) (hb : Bx wx b (mC s p lv e tb)) => here_a hb hs a k ha hk)
  have DG := Lib.hid digit_m
  have LT := Lib.hid letter_m
  have FL := Lib.hid (fun (wx : World) (i k e : Int) (lv : Value) (tb : Int) (hb : Bx wx b (mC s i lv 0 tb)) => fail_m hb k e)
  have hlx := lexW.eq_1 (s.data.toList.drop i)
  obtain ⟨n0, hn0⟩ : ∃ n, spn isPart (s.data.toList.drop i) = n := ⟨_, rfl⟩
  rw [hn0] at hlx
  have hbd := spn_bd isPart s.data.toList (Nat.le_of_lt hi)
  rw [hn0] at hbd
  have hnds : i + n0 ≤ s.size := hbd
  obtain ⟨d0, hd0⟩ : ∃ d, i + n0 = d := ⟨_, rfl⟩
  have HN0 : Hid (i + spn isPart (s.data.toList.drop i) = d0) := by unfold Hid; rw [hn0, hd0]
  have hd0s : d0 ≤ s.size := by omega
  have hid0 : i ≤ d0 := by omega
  have ex2 := ext_take s i n0
  rw [hd0] at ex2
  have HD0 := Lib.hid hd0
  have HLX := Lib.hid hlx
  rw [nth_idx s hi] at h0 h1
  obtain ⟨x, hx⟩ : ∃ x, s[i] = x := ⟨_, rfl⟩
  rw [hx] at h0 h1
  obtain ⟨y, hy⟩ : ∃ y, nth s.data.toList (i + 1) = y := ⟨_, rfl⟩
  rw [hy] at h1
  have HY := Lib.hid hy
  have h9 : (97 ≤ x.toNat ∧ x.toNat ≤ 122) ∨ (65 ≤ x.toNat ∧ x.toNat ≤ 90) := by unfold isLet at h0; simpa using h0
  have L1 := Lib.hid (fun wx => letter_m x wx)
  rw [h0] at L1
  have k34 : ((x.toNat : Int) == 34) = false := by simp; omega
  have hi1 : (i : Int) < (s.size : Int) := by omega
  have hx1 : IntKind.i64.wrap ((i : Int) + 1) = (i : Int) + 1 := IntWalk.i64_in _ (by omega)
  have hcase : ((x.toNat : Int) == 120) = false ∨ (((x.toNat : Int) == 120) = true ∧ ((y.toNat : Int) == 34) = false) := by
    by_cases h120 : x.toNat = 120
    · exact .inr ⟨by simp [h120], by have : y.toNat ≠ 34 := fun e => h1 ⟨h120, e⟩; simp; omega⟩
    · exact .inl (by simp; omega)
  have HC0 := Lib.hid (Chg.refl b b w)
  clear h0 h1 h9 h hr hy hn0 hd0 hlx hbd hnds
  (obtain ⟨c0, c1, c2, c3, c4⟩ := HB.out.c5; obtain ⟨f0, f1, f2, f3, f4⟩ := HB.out.f5; have lt := HB.out.lt)
  rcases hcase with k120 | ⟨k120, ky⟩
  · go_enter Tryz.func56, Tryz.ntmps56
    go_wp2_with fail
    go_at_call 90
    (with_reducible refine (L1.out _).mono ?_)
    rintro e1 w6 ⟨rfl, rfl⟩
    go_wp2_with fail
    clear c0 c1 c2 c3 c4 f0 f1 f2 f3 f4 lt
    go_loopw [] (fun wx => ∃ q : Nat, i ≤ q ∧ q ≤ d0 ∧ Hid (q + spn isPart (s.data.toList.drop q) = d0) ∧ Hid (Bx wx b (mC s (q : Int) (.slice A ts.length c) 0 tb)) ∧ Hid (Chg b b w6 wx)) (fun wx => d0 + 1 - (rdI wx ⟨b, 1, none⟩).toNat)
    case atStart => exact ⟨i, Nat.le_refl _, hid0, HN0, HB, HC0⟩
    case round =>
      clear HB HC0 L1 hx1
      obtain ⟨q, hiq, hqd, HQ, HB, HC⟩ := hrel
      have hm0 := Lib.hid (rdI_of HB.out.c5.2.1)
      obtain ⟨xq, hx9⟩ : ∃ x, nth s.data.toList q = x := ⟨_, rfl⟩
      have HX := Lib.hid hx9
      have hx1q : IntKind.i64.wrap ((q : Int) + 1) = (q : Int) + 1 := IntWalk.i64_in _ (by omega)
      obtain ⟨vl, hl9⟩ : ∃ v, isLet xq = v := ⟨_, rfl⟩
      obtain ⟨vd, hv⟩ : ∃ v, isDig xq = v := ⟨_, rfl⟩
      have hpp : isPart xq = (vl || vd || decide (xq.toNat = 95)) := by unfold isPart; rw [hl9, hv]
      have DG1 := Lib.hid (DG.out xq)
      rw [hv] at DG1
      have LT1 := Lib.hid (LT.out xq)
      rw [hl9] at LT1
      (obtain ⟨c0, c1, c2, c3, c4⟩ := HB.out.c5; obtain ⟨f0, f1, f2, f3, f4⟩ := HB.out.f5; have lt := HB.out.lt)
      cases vl
      · cases vd
        · by_cases h95 : xq.toNat = 95
          · have k95 : ((xq.toNat : Int) == 95) = true := by simp [h95]
            have hp : isPart xq = true := by rw [hpp]; simp [h95]
            clear hpp h95
            have hq1 : Hid (q + 1 + spn isPart (s.data.toList.drop (q + 1)) = d0 ∧ q < s.size) := by
              have hps : q < s.size := by
                rcases Nat.lt_or_ge q s.size with h | h
                · exact h
                · rw [nth_end (by exact h)] at hx9
                  rw [← hx9] at hp
                  exact absurd hp (by decide)
              have := HQ.out
              rw [spn_yes hps (by rw [hx9]; exact hp)] at this
              unfold Hid
              omega
            have hq2 : q + 1 ≤ d0 := by have := hq1.out; omega
            clear hx9 hp hv hl9
            go_wp2_with fail
            go_at_call 86
            (with_reducible refine (HH.out _ _ _ _ _ _ q rfl (by omega) HB.out).mono ?_)
            rw [HX.out]
            rintro e1 w8 ⟨rfl, rfl⟩
            go_wp2_with fail
            go_at_call 90
            (with_reducible refine (LT1.out _).mono ?_)
            rintro e1 w8 ⟨rfl, rfl⟩
            go_wp2_with fail
            go_at_call 86
            (with_reducible refine (HH.out _ _ _ _ _ _ q rfl (by omega) HB.out).mono ?_)
            rw [HX.out]
            rintro e1 w8 ⟨rfl, rfl⟩
            go_wp2_with fail
            go_at_call 91
            (with_reducible refine (DG1.out _).mono ?_)
            rintro e1 w8 ⟨rfl, rfl⟩
            go_wp2_with fail
            go_at_call 86
            (with_reducible refine (HH.out _ _ _ _ _ _ q rfl (by omega) HB.out).mono ?_)
            rw [HX.out]
            rintro e1 w8 ⟨rfl, rfl⟩
            go_wp2_with fail
            go_roundw
            case rel => exact ⟨q + 1, by omega, hq2, hq1.out.1, Lib.hid (HB.out.put rfl), Lib.hid (HC.out.set1 _ _)⟩
            case measure =>
              rw [rdI_of (Bx.put (i := 1) (v := .int .i64 ((q : Int) + 1)) HB.out rfl).c5.2.1, hm0.out]
              omega
          · have k95 : ((xq.toNat : Int) == 95) = false := by simp; omega
            have hp : isPart xq = false := by rw [hpp]; simp [h95]
            clear hpp h95
            have hqe : q = d0 := by
              have := HQ.out
              rw [spn_no (by rw [hx9]; exact hp)] at this
              omega
            subst hqe
            have w1 : IntKind.i64.wrap ((q : Int) - (i : Int)) = (n0 : Int) := by have := HD0.out; rw [IntWalk.i64_in _ (by omega)]; omega
            have i1 : (i : Int) ≤ (q : Int) := by omega
            have i2 : (q : Int) ≤ (s.size : Int) := by omega
            clear hx9 hp hv hl9 hx1q
            by_cases h64 : 64 < n0
            · have l64 : (64 : Int) < (n0 : Int) := by omega
              have HL2 : Hid (lexW (s.data.toList.drop i) = .bad 0 5) := by unfold Hid; rw [HLX.out, if_pos h64]
              go_wp2_with fail
              go_at_call 86
              (with_reducible refine (HH.out _ _ _ _ _ _ q rfl (by omega) HB.out).mono ?_)
              rw [HX.out]
              rintro e1 w8 ⟨rfl, rfl⟩
              go_wp2_with fail
              go_at_call 90
              (with_reducible refine (LT1.out _).mono ?_)
              rintro e1 w8 ⟨rfl, rfl⟩
              go_wp2_with fail
              go_at_call 86
              (with_reducible refine (HH.out _ _ _ _ _ _ q rfl (by omega) HB.out).mono ?_)
              rw [HX.out]
              rintro e1 w8 ⟨rfl, rfl⟩
              go_wp2_with fail
              go_at_call 91
              (with_reducible refine (DG1.out _).mono ?_)
              rintro e1 w8 ⟨rfl, rfl⟩
              go_wp2_with fail
              go_at_call 86
              (with_reducible refine (HH.out _ _ _ _ _ _ q rfl (by omega) HB.out).mono ?_)
              rw [HX.out]
              rintro e1 w8 ⟨rfl, rfl⟩
              go_wp2_with fail
              go_at_call 55
              (with_reducible refine (FL.out _ _ _ _ _ _ HB.out).mono ?_)
              rintro e1 w9 ⟨rfl, hb9, hc9⟩
              go_wp2_with fail
              (first | go_end0 | refine bodyPost_ret (results_none rfl _ _ _) rfl ?_)
              rw [HL2.out]
              exact ⟨rfl, (HC.out.trans hc9).bel (Nat.le_of_lt hbw), _, _, by rw [Nat.add_zero]; exact hb9⟩
            · have l64 : ¬ (64 : Int) < (n0 : Int) := by omega
              have HL2 : Hid (lexW (s.data.toList.drop i) = .ok n0 ⟨1, (s.data.toList.drop i).take n0, [], 0, 0⟩) := by unfold Hid; rw [HLX.out, if_neg h64]
              have AD := Lib.hid (fun (wx : World) (hb : Bx wx b (mC s (q : Int) (.slice A ts.length c) 0 tb)) (hr : MRow wx b s ts A c) => add_m hb hr hs (Nat.le_of_lt hi) hn ⟨1, (s.data.toList.drop i).take n0, [], 0, 0⟩)
              dsimp only [tnL] at AD
              rw [show B [] = (⟨#[]⟩ : ByteArray) from rfl] at AD
              go_wp2_with fail
              go_at_call 86
              (with_reducible refine (HH.out _ _ _ _ _ _ q rfl (by omega) HB.out).mono ?_)
              rw [HX.out]
              rintro e1 w8 ⟨rfl, rfl⟩
              go_wp2_with fail
              go_at_call 90
              (with_reducible refine (LT1.out _).mono ?_)
              rintro e1 w8 ⟨rfl, rfl⟩
              go_wp2_with fail
              go_at_call 86
              (with_reducible refine (HH.out _ _ _ _ _ _ q rfl (by omega) HB.out).mono ?_)
              rw [HX.out]
              rintro e1 w8 ⟨rfl, rfl⟩
              go_wp2_with fail
              go_at_call 91
              (with_reducible refine (DG1.out _).mono ?_)
              rintro e1 w8 ⟨rfl, rfl⟩
              go_wp2_with fail
              go_at_call 86
              (with_reducible refine (HH.out _ _ _ _ _ _ q rfl (by omega) HB.out).mono ?_)
              rw [HX.out]
              rintro e1 w8 ⟨rfl, rfl⟩
              go_wp2_with fail
              have HR2 := Lib.hid (HR.out.chg HC.out)
              refine wp_region_ord [(0, 1), (1, 1), (2, 1), (3, 1), (4, 1), (5, 1), (6, 1), (7, 1), (8, 1), (9, 1), (10, 1), (11, 1), (12, 1), (13, 3)] [13] 5 (by kernel_rfl) (by decide +kernel) ?_
              simp only [pickO, List.append_eq, List.cons_append, List.nil_append, List.getElem?_cons_succ, List.getElem?_cons_zero]
              intro w0 hG
              (repeat ((first | (with_reducible refine ord_q1 ?_) | (with_reducible refine ord_q0 ?_)); intro K hK; first | (refine Or.inr ⟨?_, ?_⟩; (focus (go_simp; first | done | (simp [undef]; done))); go_simp; (with_reducible refine hK _ ?_); clear hK K) | (refine Or.inl ⟨?_, ?_⟩; (focus (go_simp; done)); apply Exists.intro; refine And.intro ?_ ?_; (focus (first | (intro wq hq; obtain ⟨hcq, hfq⟩ := G.old hq; go_simp; (first | done | exact rfl); done) | (intro wq; go_simp; (first | done | exact rfl); done))); go_simp; (with_reducible refine hK _ ?_); clear hK K) | fail))
              (with_reducible refine ord_tail ?_)
              intro K hK
              go_simp
              have hb9 := hG.b
              go_at_call 92
              (with_reducible refine (AD.out _ (HB.out.grow hb9) (HR2.out.grow hb9)).mono ?_)
              rintro e1 w9 ⟨rfl, hb6, A6, c6, hbx6, hr6⟩
              (try dsimp only)
              (with_reducible refine hK _ _ ?_)
              clear hK K
              (with_reducible refine ord_nil ?_)
              go_wp2_with fail
              (first | go_end0 | refine bodyPost_ret (results_none rfl _ _ _) rfl ?_)
              rw [HL2.out]
              exact ⟨rfl, ((HC.out.grow hb9).bel (Nat.le_of_lt hbw)).trans hb6, A6, c6, by rw [HD0.out]; exact hbx6, hr6⟩
        · have hp : isPart xq = true := by rw [hpp]; simp
          clear hpp
          have hq1 : Hid (q + 1 + spn isPart (s.data.toList.drop (q + 1)) = d0 ∧ q < s.size) := by
            have hps : q < s.size := by
              rcases Nat.lt_or_ge q s.size with h | h
              · exact h
              · rw [nth_end (by exact h)] at hx9
                rw [← hx9] at hp
                exact absurd hp (by decide)
            have := HQ.out
            rw [spn_yes hps (by rw [hx9]; exact hp)] at this
            unfold Hid
            omega
          have hq2 : q + 1 ≤ d0 := by have := hq1.out; omega
          clear hx9 hp hv hl9
          go_wp2_with fail
          go_at_call 86
          (with_reducible refine (HH.out _ _ _ _ _ _ q rfl (by omega) HB.out).mono ?_)
          rw [HX.out]
          rintro e1 w8 ⟨rfl, rfl⟩
          go_wp2_with fail
          go_at_call 90
          (with_reducible refine (LT1.out _).mono ?_)
          rintro e1 w8 ⟨rfl, rfl⟩
          go_wp2_with fail
          go_at_call 86
          (with_reducible refine (HH.out _ _ _ _ _ _ q rfl (by omega) HB.out).mono ?_)
          rw [HX.out]
          rintro e1 w8 ⟨rfl, rfl⟩
          go_wp2_with fail
          go_at_call 91
          (with_reducible refine (DG1.out _).mono ?_)
          rintro e1 w8 ⟨rfl, rfl⟩
          go_wp2_with fail
          go_roundw
          case rel => exact ⟨q + 1, by omega, hq2, hq1.out.1, Lib.hid (HB.out.put rfl), Lib.hid (HC.out.set1 _ _)⟩
          case measure =>
            rw [rdI_of (Bx.put (i := 1) (v := .int .i64 ((q : Int) + 1)) HB.out rfl).c5.2.1, hm0.out]
            omega
      · have hp : isPart xq = true := by rw [hpp]; simp
        clear hpp
        have hq1 : Hid (q + 1 + spn isPart (s.data.toList.drop (q + 1)) = d0 ∧ q < s.size) := by
          have hps : q < s.size := by
            rcases Nat.lt_or_ge q s.size with h | h
            · exact h
            · rw [nth_end (by exact h)] at hx9
              rw [← hx9] at hp
              exact absurd hp (by decide)
          have := HQ.out
          rw [spn_yes hps (by rw [hx9]; exact hp)] at this
          unfold Hid
          omega
        have hq2 : q + 1 ≤ d0 := by have := hq1.out; omega
        clear hx9 hp hv hl9
        go_wp2_with fail
        go_at_call 86
        (with_reducible refine (HH.out _ _ _ _ _ _ q rfl (by omega) HB.out).mono ?_)
        rw [HX.out]
        rintro e1 w8 ⟨rfl, rfl⟩
        go_wp2_with fail
        go_at_call 90
        (with_reducible refine (LT1.out _).mono ?_)
        rintro e1 w8 ⟨rfl, rfl⟩
        go_wp2_with fail
        go_roundw
        case rel => exact ⟨q + 1, by omega, hq2, hq1.out.1, Lib.hid (HB.out.put rfl), Lib.hid (HC.out.set1 _ _)⟩
        case measure =>
          rw [rdI_of (Bx.put (i := 1) (v := .int .i64 ((q : Int) + 1)) HB.out rfl).c5.2.1, hm0.out]
          omega
  · go_enter Tryz.func56, Tryz.ntmps56
    go_wp2_with fail
    go_at_call 86
    (with_reducible refine (HH.out _ _ _ _ _ _ (i + 1) (by omega) (by omega) HB.out).mono ?_)
    rw [HY.out]
    rintro e1 w5 ⟨rfl, rfl⟩
    go_wp2_with fail
    go_at_call 90
    (with_reducible refine (L1.out _).mono ?_)
    rintro e1 w6 ⟨rfl, rfl⟩
    go_wp2_with fail
    clear c0 c1 c2 c3 c4 f0 f1 f2 f3 f4 lt
    go_loopw [] (fun wx => ∃ q : Nat, i ≤ q ∧ q ≤ d0 ∧ Hid (q + spn isPart (s.data.toList.drop q) = d0) ∧ Hid (Bx wx b (mC s (q : Int) (.slice A ts.length c) 0 tb)) ∧ Hid (Chg b b w6 wx)) (fun wx => d0 + 1 - (rdI wx ⟨b, 1, none⟩).toNat)
    case atStart => exact ⟨i, Nat.le_refl _, hid0, HN0, HB, HC0⟩
    case round =>
      clear HB HC0 L1 hx1
      obtain ⟨q, hiq, hqd, HQ, HB, HC⟩ := hrel
      have hm0 := Lib.hid (rdI_of HB.out.c5.2.1)
      obtain ⟨xq, hx9⟩ : ∃ x, nth s.data.toList q = x := ⟨_, rfl⟩
      have HX := Lib.hid hx9
      have hx1q : IntKind.i64.wrap ((q : Int) + 1) = (q : Int) + 1 := IntWalk.i64_in _ (by omega)
      obtain ⟨vl, hl9⟩ : ∃ v, isLet xq = v := ⟨_, rfl⟩
      obtain ⟨vd, hv⟩ : ∃ v, isDig xq = v := ⟨_, rfl⟩
      have hpp : isPart xq = (vl || vd || decide (xq.toNat = 95)) := by unfold isPart; rw [hl9, hv]
      have DG1 := Lib.hid (DG.out xq)
      rw [hv] at DG1
      have LT1 := Lib.hid (LT.out xq)
      rw [hl9] at LT1
      (obtain ⟨c0, c1, c2, c3, c4⟩ := HB.out.c5; obtain ⟨f0, f1, f2, f3, f4⟩ := HB.out.f5; have lt := HB.out.lt)
      cases vl
      · cases vd
        · by_cases h95 : xq.toNat = 95
          · have k95 : ((xq.toNat : Int) == 95) = true := by simp [h95]
            have hp : isPart xq = true := by rw [hpp]; simp [h95]
            clear hpp h95
            have hq1 : Hid (q + 1 + spn isPart (s.data.toList.drop (q + 1)) = d0 ∧ q < s.size) := by
              have hps : q < s.size := by
                rcases Nat.lt_or_ge q s.size with h | h
                · exact h
                · rw [nth_end (by exact h)] at hx9
                  rw [← hx9] at hp
                  exact absurd hp (by decide)
              have := HQ.out
              rw [spn_yes hps (by rw [hx9]; exact hp)] at this
              unfold Hid
              omega
            have hq2 : q + 1 ≤ d0 := by have := hq1.out; omega
            clear hx9 hp hv hl9
            go_wp2_with fail
            go_at_call 86
            (with_reducible refine (HH.out _ _ _ _ _ _ q rfl (by omega) HB.out).mono ?_)
            rw [HX.out]
            rintro e1 w8 ⟨rfl, rfl⟩
            go_wp2_with fail
            go_at_call 90
            (with_reducible refine (LT1.out _).mono ?_)
            rintro e1 w8 ⟨rfl, rfl⟩
            go_wp2_with fail
            go_at_call 86
            (with_reducible refine (HH.out _ _ _ _ _ _ q rfl (by omega) HB.out).mono ?_)
            rw [HX.out]
            rintro e1 w8 ⟨rfl, rfl⟩
            go_wp2_with fail
            go_at_call 91
            (with_reducible refine (DG1.out _).mono ?_)
            rintro e1 w8 ⟨rfl, rfl⟩
            go_wp2_with fail
            go_at_call 86
            (with_reducible refine (HH.out _ _ _ _ _ _ q rfl (by omega) HB.out).mono ?_)
            rw [HX.out]
            rintro e1 w8 ⟨rfl, rfl⟩
            go_wp2_with fail
            go_roundw
            case rel => exact ⟨q + 1, by omega, hq2, hq1.out.1, Lib.hid (HB.out.put rfl), Lib.hid (HC.out.set1 _ _)⟩
            case measure =>
              rw [rdI_of (Bx.put (i := 1) (v := .int .i64 ((q : Int) + 1)) HB.out rfl).c5.2.1, hm0.out]
              omega
          · have k95 : ((xq.toNat : Int) == 95) = false := by simp; omega
            have hp : isPart xq = false := by rw [hpp]; simp [h95]
            clear hpp h95
            have hqe : q = d0 := by
              have := HQ.out
              rw [spn_no (by rw [hx9]; exact hp)] at this
              omega
            subst hqe
            have w1 : IntKind.i64.wrap ((q : Int) - (i : Int)) = (n0 : Int) := by have := HD0.out; rw [IntWalk.i64_in _ (by omega)]; omega
            have i1 : (i : Int) ≤ (q : Int) := by omega
            have i2 : (q : Int) ≤ (s.size : Int) := by omega
            clear hx9 hp hv hl9 hx1q
            by_cases h64 : 64 < n0
            · have l64 : (64 : Int) < (n0 : Int) := by omega
              have HL2 : Hid (lexW (s.data.toList.drop i) = .bad 0 5) := by unfold Hid; rw [HLX.out, if_pos h64]
              go_wp2_with fail
              go_at_call 86
              (with_reducible refine (HH.out _ _ _ _ _ _ q rfl (by omega) HB.out).mono ?_)
              rw [HX.out]
              rintro e1 w8 ⟨rfl, rfl⟩
              go_wp2_with fail
              go_at_call 90
              (with_reducible refine (LT1.out _).mono ?_)
              rintro e1 w8 ⟨rfl, rfl⟩
              go_wp2_with fail
              go_at_call 86
              (with_reducible refine (HH.out _ _ _ _ _ _ q rfl (by omega) HB.out).mono ?_)
              rw [HX.out]
              rintro e1 w8 ⟨rfl, rfl⟩
              go_wp2_with fail
              go_at_call 91
              (with_reducible refine (DG1.out _).mono ?_)
              rintro e1 w8 ⟨rfl, rfl⟩
              go_wp2_with fail
              go_at_call 86
              (with_reducible refine (HH.out _ _ _ _ _ _ q rfl (by omega) HB.out).mono ?_)
              rw [HX.out]
              rintro e1 w8 ⟨rfl, rfl⟩
              go_wp2_with fail
              go_at_call 55
              (with_reducible refine (FL.out _ _ _ _ _ _ HB.out).mono ?_)
              rintro e1 w9 ⟨rfl, hb9, hc9⟩
              go_wp2_with fail
              (first | go_end0 | refine bodyPost_ret (results_none rfl _ _ _) rfl ?_)
              rw [HL2.out]
              exact ⟨rfl, (HC.out.trans hc9).bel (Nat.le_of_lt hbw), _, _, by rw [Nat.add_zero]; exact hb9⟩
            · have l64 : ¬ (64 : Int) < (n0 : Int) := by omega
              have HL2 : Hid (lexW (s.data.toList.drop i) = .ok n0 ⟨1, (s.data.toList.drop i).take n0, [], 0, 0⟩) := by unfold Hid; rw [HLX.out, if_neg h64]
              have AD := Lib.hid (fun (wx : World) (hb : Bx wx b (mC s (q : Int) (.slice A ts.length c) 0 tb)) (hr : MRow wx b s ts A c) => add_m hb hr hs (Nat.le_of_lt hi) hn ⟨1, (s.data.toList.drop i).take n0, [], 0, 0⟩)
              dsimp only [tnL] at AD
              rw [show B [] = (⟨#[]⟩ : ByteArray) from rfl] at AD
              go_wp2_with fail
              go_at_call 86
              (with_reducible refine (HH.out _ _ _ _ _ _ q rfl (by omega) HB.out).mono ?_)
              rw [HX.out]
              rintro e1 w8 ⟨rfl, rfl⟩
              go_wp2_with fail
              go_at_call 90
              (with_reducible refine (LT1.out _).mono ?_)
              rintro e1 w8 ⟨rfl, rfl⟩
              go_wp2_with fail
              go_at_call 86
              (with_reducible refine (HH.out _ _ _ _ _ _ q rfl (by omega) HB.out).mono ?_)
              rw [HX.out]
              rintro e1 w8 ⟨rfl, rfl⟩
              go_wp2_with fail
              go_at_call 91
              (with_reducible refine (DG1.out _).mono ?_)
              rintro e1 w8 ⟨rfl, rfl⟩
              go_wp2_with fail
              go_at_call 86
              (with_reducible refine (HH.out _ _ _ _ _ _ q rfl (by omega) HB.out).mono ?_)
              rw [HX.out]
              rintro e1 w8 ⟨rfl, rfl⟩
              go_wp2_with fail
              have HR2 := Lib.hid (HR.out.chg HC.out)
              refine wp_region_ord [(0, 1), (1, 1), (2, 1), (3, 1), (4, 1), (5, 1), (6, 1), (7, 1), (8, 1), (9, 1), (10, 1), (11, 1), (12, 1), (13, 3)] [13] 5 (by kernel_rfl) (by decide +kernel) ?_
              simp only [pickO, List.append_eq, List.cons_append, List.nil_append, List.getElem?_cons_succ, List.getElem?_cons_zero]
              intro w0 hG
              (repeat ((first | (with_reducible refine ord_q1 ?_) | (with_reducible refine ord_q0 ?_)); intro K hK; first | (refine Or.inr ⟨?_, ?_⟩; (focus (go_simp; first | done | (simp [undef]; done))); go_simp; (with_reducible refine hK _ ?_); clear hK K) | (refine Or.inl ⟨?_, ?_⟩; (focus (go_simp; done)); apply Exists.intro; refine And.intro ?_ ?_; (focus (first | (intro wq hq; obtain ⟨hcq, hfq⟩ := G.old hq; go_simp; (first | done | exact rfl); done) | (intro wq; go_simp; (first | done | exact rfl); done))); go_simp; (with_reducible refine hK _ ?_); clear hK K) | fail))
              (with_reducible refine ord_tail ?_)
              intro K hK
              go_simp
              have hb9 := hG.b
              go_at_call 92
              (with_reducible refine (AD.out _ (HB.out.grow hb9) (HR2.out.grow hb9)).mono ?_)
              rintro e1 w9 ⟨rfl, hb6, A6, c6, hbx6, hr6⟩
              (try dsimp only)
              (with_reducible refine hK _ _ ?_)
              clear hK K
              (with_reducible refine ord_nil ?_)
              go_wp2_with fail
              (first | go_end0 | refine bodyPost_ret (results_none rfl _ _ _) rfl ?_)
              rw [HL2.out]
              exact ⟨rfl, ((HC.out.grow hb9).bel (Nat.le_of_lt hbw)).trans hb6, A6, c6, by rw [HD0.out]; exact hbx6, hr6⟩
        · have hp : isPart xq = true := by rw [hpp]; simp
          clear hpp
          have hq1 : Hid (q + 1 + spn isPart (s.data.toList.drop (q + 1)) = d0 ∧ q < s.size) := by
            have hps : q < s.size := by
              rcases Nat.lt_or_ge q s.size with h | h
              · exact h
              · rw [nth_end (by exact h)] at hx9
                rw [← hx9] at hp
                exact absurd hp (by decide)
            have := HQ.out
            rw [spn_yes hps (by rw [hx9]; exact hp)] at this
            unfold Hid
            omega
          have hq2 : q + 1 ≤ d0 := by have := hq1.out; omega
          clear hx9 hp hv hl9
          go_wp2_with fail
          go_at_call 86
          (with_reducible refine (HH.out _ _ _ _ _ _ q rfl (by omega) HB.out).mono ?_)
          rw [HX.out]
          rintro e1 w8 ⟨rfl, rfl⟩
          go_wp2_with fail
          go_at_call 90
          (with_reducible refine (LT1.out _).mono ?_)
          rintro e1 w8 ⟨rfl, rfl⟩
          go_wp2_with fail
          go_at_call 86
          (with_reducible refine (HH.out _ _ _ _ _ _ q rfl (by omega) HB.out).mono ?_)
          rw [HX.out]
          rintro e1 w8 ⟨rfl, rfl⟩
          go_wp2_with fail
          go_at_call 91
          (with_reducible refine (DG1.out _).mono ?_)
          rintro e1 w8 ⟨rfl, rfl⟩
          go_wp2_with fail
          go_roundw
          case rel => exact ⟨q + 1, by omega, hq2, hq1.out.1, Lib.hid (HB.out.put rfl), Lib.hid (HC.out.set1 _ _)⟩
          case measure =>
            rw [rdI_of (Bx.put (i := 1) (v := .int .i64 ((q : Int) + 1)) HB.out rfl).c5.2.1, hm0.out]
            omega
      · have hp : isPart xq = true := by rw [hpp]; simp
        clear hpp
        have hq1 : Hid (q + 1 + spn isPart (s.data.toList.drop (q + 1)) = d0 ∧ q < s.size) := by
          have hps : q < s.size := by
            rcases Nat.lt_or_ge q s.size with h | h
            · exact h
            · rw [nth_end (by exact h)] at hx9
              rw [← hx9] at hp
              exact absurd hp (by decide)
          have := HQ.out
          rw [spn_yes hps (by rw [hx9]; exact hp)] at this
          unfold Hid
          omega
        have hq2 : q + 1 ≤ d0 := by have := hq1.out; omega
        clear hx9 hp hv hl9
        go_wp2_with fail
        go_at_call 86
        (with_reducible refine (HH.out _ _ _ _ _ _ q rfl (by omega) HB.out).mono ?_)
        rw [HX.out]
        rintro e1 w8 ⟨rfl, rfl⟩
        go_wp2_with fail
        go_at_call 90
        (with_reducible refine (LT1.out _).mono ?_)
        rintro e1 w8 ⟨rfl, rfl⟩
        go_wp2_with fail
        go_roundw
        case rel => exact ⟨q + 1, by omega, hq2, hq1.out.1, Lib.hid (HB.out.put rfl), Lib.hid (HC.out.set1 _ _)⟩
        case measure =>
          rw [rdI_of (Bx.put (i := 1) (v := .int .i64 ((q : Int) + 1)) HB.out rfl).c5.2.1, hm0.out]
          omega
end
end Go.Proofs.YtmchiibbodllaaaGreatDoor

namespace Go.Proofs.YtmchiibbodllaaaGreatDoor
set_option linter.unusedVariables false
set_option linter.unnecessarySimpa false
set_option linter.unusedSimpArgs false
open Go.RowKit

theorem symIx (w : World) (j : Nat) (h : j < 20) : (Instr.index 9 (.string ⟨#[40, 41, 123, 125, 91, 93, 60, 62, 61, 58, 59, 44, 46, 63, 43, 45, 42, 38, 64, 124]⟩) (.int .i64 (j : Int))).run Tryz.prog w = .ok (.int .u8 ((nth singlesL j).toNat : Int)) w := by
  have h0 : ∀ w : World, (Instr.index 9 (.string ⟨#[40, 41, 123, 125, 91, 93, 60, 62, 61, 58, 59, 44, 46, 63, 43, 45, 42, 38, 64, 124]⟩) (.int .i64 0)).run Tryz.prog w = .ok (.int .u8 40) w := fun w => by kernel_rfl
  have h1 : ∀ w : World, (Instr.index 9 (.string ⟨#[40, 41, 123, 125, 91, 93, 60, 62, 61, 58, 59, 44, 46, 63, 43, 45, 42, 38, 64, 124]⟩) (.int .i64 1)).run Tryz.prog w = .ok (.int .u8 41) w := fun w => by kernel_rfl
  have h2 : ∀ w : World, (Instr.index 9 (.string ⟨#[40, 41, 123, 125, 91, 93, 60, 62, 61, 58, 59, 44, 46, 63, 43, 45, 42, 38, 64, 124]⟩) (.int .i64 2)).run Tryz.prog w = .ok (.int .u8 123) w := fun w => by kernel_rfl
  have h3 : ∀ w : World, (Instr.index 9 (.string ⟨#[40, 41, 123, 125, 91, 93, 60, 62, 61, 58, 59, 44, 46, 63, 43, 45, 42, 38, 64, 124]⟩) (.int .i64 3)).run Tryz.prog w = .ok (.int .u8 125) w := fun w => by kernel_rfl
  have h4 : ∀ w : World, (Instr.index 9 (.string ⟨#[40, 41, 123, 125, 91, 93, 60, 62, 61, 58, 59, 44, 46, 63, 43, 45, 42, 38, 64, 124]⟩) (.int .i64 4)).run Tryz.prog w = .ok (.int .u8 91) w := fun w => by kernel_rfl
  have h5 : ∀ w : World, (Instr.index 9 (.string ⟨#[40, 41, 123, 125, 91, 93, 60, 62, 61, 58, 59, 44, 46, 63, 43, 45, 42, 38, 64, 124]⟩) (.int .i64 5)).run Tryz.prog w = .ok (.int .u8 93) w := fun w => by kernel_rfl
  have h6 : ∀ w : World, (Instr.index 9 (.string ⟨#[40, 41, 123, 125, 91, 93, 60, 62, 61, 58, 59, 44, 46, 63, 43, 45, 42, 38, 64, 124]⟩) (.int .i64 6)).run Tryz.prog w = .ok (.int .u8 60) w := fun w => by kernel_rfl
  have h7 : ∀ w : World, (Instr.index 9 (.string ⟨#[40, 41, 123, 125, 91, 93, 60, 62, 61, 58, 59, 44, 46, 63, 43, 45, 42, 38, 64, 124]⟩) (.int .i64 7)).run Tryz.prog w = .ok (.int .u8 62) w := fun w => by kernel_rfl
  have h8 : ∀ w : World, (Instr.index 9 (.string ⟨#[40, 41, 123, 125, 91, 93, 60, 62, 61, 58, 59, 44, 46, 63, 43, 45, 42, 38, 64, 124]⟩) (.int .i64 8)).run Tryz.prog w = .ok (.int .u8 61) w := fun w => by kernel_rfl
  have h9 : ∀ w : World, (Instr.index 9 (.string ⟨#[40, 41, 123, 125, 91, 93, 60, 62, 61, 58, 59, 44, 46, 63, 43, 45, 42, 38, 64, 124]⟩) (.int .i64 9)).run Tryz.prog w = .ok (.int .u8 58) w := fun w => by kernel_rfl
  have h10 : ∀ w : World, (Instr.index 9 (.string ⟨#[40, 41, 123, 125, 91, 93, 60, 62, 61, 58, 59, 44, 46, 63, 43, 45, 42, 38, 64, 124]⟩) (.int .i64 10)).run Tryz.prog w = .ok (.int .u8 59) w := fun w => by kernel_rfl
  have h11 : ∀ w : World, (Instr.index 9 (.string ⟨#[40, 41, 123, 125, 91, 93, 60, 62, 61, 58, 59, 44, 46, 63, 43, 45, 42, 38, 64, 124]⟩) (.int .i64 11)).run Tryz.prog w = .ok (.int .u8 44) w := fun w => by kernel_rfl
  have h12 : ∀ w : World, (Instr.index 9 (.string ⟨#[40, 41, 123, 125, 91, 93, 60, 62, 61, 58, 59, 44, 46, 63, 43, 45, 42, 38, 64, 124]⟩) (.int .i64 12)).run Tryz.prog w = .ok (.int .u8 46) w := fun w => by kernel_rfl
  have h13 : ∀ w : World, (Instr.index 9 (.string ⟨#[40, 41, 123, 125, 91, 93, 60, 62, 61, 58, 59, 44, 46, 63, 43, 45, 42, 38, 64, 124]⟩) (.int .i64 13)).run Tryz.prog w = .ok (.int .u8 63) w := fun w => by kernel_rfl
  have h14 : ∀ w : World, (Instr.index 9 (.string ⟨#[40, 41, 123, 125, 91, 93, 60, 62, 61, 58, 59, 44, 46, 63, 43, 45, 42, 38, 64, 124]⟩) (.int .i64 14)).run Tryz.prog w = .ok (.int .u8 43) w := fun w => by kernel_rfl
  have h15 : ∀ w : World, (Instr.index 9 (.string ⟨#[40, 41, 123, 125, 91, 93, 60, 62, 61, 58, 59, 44, 46, 63, 43, 45, 42, 38, 64, 124]⟩) (.int .i64 15)).run Tryz.prog w = .ok (.int .u8 45) w := fun w => by kernel_rfl
  have h16 : ∀ w : World, (Instr.index 9 (.string ⟨#[40, 41, 123, 125, 91, 93, 60, 62, 61, 58, 59, 44, 46, 63, 43, 45, 42, 38, 64, 124]⟩) (.int .i64 16)).run Tryz.prog w = .ok (.int .u8 42) w := fun w => by kernel_rfl
  have h17 : ∀ w : World, (Instr.index 9 (.string ⟨#[40, 41, 123, 125, 91, 93, 60, 62, 61, 58, 59, 44, 46, 63, 43, 45, 42, 38, 64, 124]⟩) (.int .i64 17)).run Tryz.prog w = .ok (.int .u8 38) w := fun w => by kernel_rfl
  have h18 : ∀ w : World, (Instr.index 9 (.string ⟨#[40, 41, 123, 125, 91, 93, 60, 62, 61, 58, 59, 44, 46, 63, 43, 45, 42, 38, 64, 124]⟩) (.int .i64 18)).run Tryz.prog w = .ok (.int .u8 64) w := fun w => by kernel_rfl
  have h19 : ∀ w : World, (Instr.index 9 (.string ⟨#[40, 41, 123, 125, 91, 93, 60, 62, 61, 58, 59, 44, 46, 63, 43, 45, 42, 38, 64, 124]⟩) (.int .i64 19)).run Tryz.prog w = .ok (.int .u8 124) w := fun w => by kernel_rfl
  have hn : j = 0 ∨ j = 1 ∨ j = 2 ∨ j = 3 ∨ j = 4 ∨ j = 5 ∨ j = 6 ∨ j = 7 ∨ j = 8 ∨ j = 9 ∨ j = 10 ∨ j = 11 ∨ j = 12 ∨ j = 13 ∨ j = 14 ∨ j = 15 ∨ j = 16 ∨ j = 17 ∨ j = 18 ∨ j = 19 := by omega
  clear h
  rcases hn with rfl | rfl | rfl | rfl | rfl | rfl | rfl | rfl | rfl | rfl | rfl | rfl | rfl | rfl | rfl | rfl | rfl | rfl | rfl | rfl
  · exact h0 w
  · exact h1 w
  · exact h2 w
  · exact h3 w
  · exact h4 w
  · exact h5 w
  · exact h6 w
  · exact h7 w
  · exact h8 w
  · exact h9 w
  · exact h10 w
  · exact h11 w
  · exact h12 w
  · exact h13 w
  · exact h14 w
  · exact h15 w
  · exact h16 w
  · exact h17 w
  · exact h18 w
  · exact h19 w
section
variable {w : World} {b i : Nat} {s : ByteArray} {ts : List Pl} {A : Option Addr} {c : Nat} {tb : Int}
set_option maxRecDepth 20000 in set_option maxHeartbeats 400000 in
theorem symbols_m (w : World) : Calls Tryz.prog 94 #[] w fun e w' => e = .returned (.tuple #[.slice (some ⟨w.heap.size, 0, none⟩) 5 5, .string ⟨#[40, 41, 123, 125, 91, 93, 60, 62, 61, 58, 59, 44, 46, 63, 43, 45, 42, 38, 64, 124]⟩]) ∧ Below w.heap.size w w' ∧ ∀ k p, pairsL[k]? = some p → w'.cell? ⟨w.heap.size, k, none⟩ = some (.string (B p)) := by
  go_enter Tryz.func94, Tryz.ntmps94
  go_wp2_with fail
  refine bodyPost_ret (v := .tuple #[.slice (some ⟨w.heap.size, 0, none⟩) 5 5, .string ⟨#[40, 41, 123, 125, 91, 93, 60, 62, 61, 58, 59, 44, 46, 63, 43, 45, 42, 38, 64, 124]⟩]) (by simp only [results, Tryz.results94]; go_simp) rfl ⟨rfl, G.alloc (G.refl w) _, fun k p hk => ?_⟩
  have hb := Bx.new (w := w) (B := w.heap.size) (l := pairsL.map (fun p => Value.string (B p))) (a := (pairsL.map (fun p => Value.string (B p))).toArray) (t := 56) rfl rfl
  have hk5 : k < 5 := (List.getElem?_eq_some_iff.1 hk).1
  match k, hk5, hk with
  | 0, _, hk | 1, _, hk | 2, _, hk | 3, _, hk | 4, _, hk =>
    simp [pairsL] at hk
    subst hk
    simp
    rfl
set_option maxRecDepth 20000 in set_option maxHeartbeats 8000000 in
theorem token_y (h : Bx w b (mC s (i : Int) (.slice A ts.length c) 0 tb)) (hr : MRow w b s ts A c) (hs : s.size ≤ 100000) (hi : i < s.size) (hn : ts.length ≤ 20000)
    (h0 : way (s.data.toList.drop i) = 4) :
    Calls Tryz.prog 56 #[.pointer (some ⟨b, 0, none⟩)] w (RetTk w b s i ts tb (lexY (s.data.toList.drop i))) := by
  have HB := Lib.hid h
  have HR := Lib.hid hr
  have hbw : b < w.heap.size := h.lt
  have FL := Lib.hid (fun (wx : World) (i k e : Int) (lv : Value) (tb : Int) (hb : Bx wx b (mC s i lv 0 tb)) => fail_m hb k e)
  have HH := Lib.hid (fun (wx : World) (p e : Int) (lv : Value) (tb a : Int) (k : Nat) (ha : a = (k : Int)) (hk : k ≤ 1000000) (hb : Bx wx b (mC s p lv e tb)) => here_a hb hs a k ha hk)
  have SI := Lib.hid symIx
  have hlx := lexY.eq_1 (s.data.toList.drop i)
  rw [nth_drop, Nat.add_zero, nth_idx s hi] at hlx
  have hrl : (s.data.toList.drop i).length = s.size - i := by rw [List.length_drop]; rfl
  have hp2 : (s.data.toList.drop i).take 2 ∈ pairsL → i + 2 ≤ s.size := fun h => by have := pair_len h; omega
  have ex1 := ext_take s i 1
  have ex2 := ext_take s i 2
  unfold way at h0
  rw [nth_drop, nth_drop, Nat.add_zero, nth_idx s hi] at h0
  obtain ⟨x, hx⟩ : ∃ x, s[i] = x := ⟨_, rfl⟩
  rw [hx] at h0 hlx
  obtain ⟨y, hy⟩ : ∃ y, nth s.data.toList (i + 1) = y := ⟨_, rfl⟩
  rw [hy] at h0
  have HY := Lib.hid hy
  obtain ⟨r2, hr2⟩ : ∃ r, (s.data.toList.drop i).take 2 = r := ⟨_, rfl⟩
  obtain ⟨r1, hr1⟩ : ∃ r, (s.data.toList.drop i).take 1 = r := ⟨_, rfl⟩
  rw [hr2] at hlx hp2 ex2
  rw [hr1] at hlx ex1
  have hw : ¬ (x.toNat = 120 ∧ y.toNat = 34) ∧ isLet x = false ∧ isDig x = false ∧ x.toNat ≠ 34 := by
    by_cases a1 : x.toNat = 120 ∧ y.toNat = 34
    · rw [if_pos a1] at h0; omega
    · rw [if_neg a1] at h0
      cases a2 : isLet x
      · rw [a2, if_neg (by simp)] at h0
        cases a3 : isDig x
        · rw [a3, if_neg (by simp)] at h0
          by_cases a4 : x.toNat = 34
          · rw [if_pos a4] at h0; omega
          · exact ⟨a1, rfl, rfl, a4⟩
        · rw [a3, if_pos rfl] at h0; omega
      · rw [a2, if_pos rfl] at h0; omega
  obtain ⟨w1, w2, w3, w4⟩ := hw
  have L1 := Lib.hid (fun wx => letter_m x wx)
  have D1 := Lib.hid (fun wx => digit_m x wx)
  rw [w2] at L1
  rw [w3] at D1
  have k120 : ((x.toNat : Int) == 120) = false := by
    have : x.toNat ≠ 120 := fun e => by unfold isLet at w2; simp [e] at w2
    simp; omega
  have k34 : ((x.toNat : Int) == 34) = false := by simp; omega
  have hi1 : (i : Int) < (s.size : Int) := by omega
  obtain ⟨z2, hz2⟩ : ∃ z, i + 2 = z := ⟨_, rfl⟩
  obtain ⟨z1, hz1⟩ : ∃ z, i + 1 = z := ⟨_, rfl⟩
  rw [hz2] at ex2 hp2
  rw [hz1] at ex1
  have hx2 : IntKind.i64.wrap ((i : Int) + 2) = (z2 : Int) := by rw [IntWalk.i64_in _ (by omega)]; omega
  have hx1 : IntKind.i64.wrap ((i : Int) + 1) = (z1 : Int) := by rw [IntWalk.i64_in _ (by omega)]; omega
  have i1 : (i : Int) ≤ (z1 : Int) := by omega
  have i2 : (i : Int) ≤ (z2 : Int) := by omega
  have i3 : (z1 : Int) ≤ (s.size : Int) := by omega
  have HZ2 := Lib.hid hz2
  have HZ1 := Lib.hid hz1
  have HLX := Lib.hid hlx
  have HP2 := Lib.hid hp2
  clear h hr h0 hlx hrl hp2 hy w1 w2 w3 w4 hr1 hr2 hz1 hz2
  (obtain ⟨c0, c1, c2, c3, c4⟩ := HB.out.c5; obtain ⟨f0, f1, f2, f3, f4⟩ := HB.out.f5; have lt := HB.out.lt)
  go_enter Tryz.func56, Tryz.ntmps56
  go_wp2_with fail
  go_at_call 90
  (with_reducible refine (L1.out _).mono ?_)
  rintro e1 w6 ⟨rfl, rfl⟩
  go_wp2_with fail
  go_at_call 91
  (with_reducible refine (D1.out _).mono ?_)
  rintro e1 w7 ⟨rfl, rfl⟩
  go_wp2_with fail
  go_at_call 94
  (with_reducible refine (symbols_m _).mono ?_)
  obtain ⟨W, hW⟩ : ∃ W, w7.heap.size = W := ⟨_, rfl⟩
  rw [hW]
  rintro e1 w8 ⟨rfl, hb8, hpc⟩
  have HPC := Lib.hid hpc
  have hb9 : Below w7.heap.size w7 w8 := by rw [hW]; exact hb8
  have hWl : W < w8.heap.size := cell_lt (hpc 0 _ rfl)
  replace HB := Lib.hid (HB.out.grow hb9)
  replace HR := Lib.hid (HR.out.grow hb9)
  have HG := Lib.hid hb9
  clear hpc hb8 hb9 hW L1 D1 HH HY k120 k34
  clear c0 c1 c2 c3 c4 f0 f1 f2 f3 f4 lt
  (obtain ⟨c0, c1, c2, c3, c4⟩ := HB.out.c5; obtain ⟨f0, f1, f2, f3, f4⟩ := HB.out.f5; have lt := HB.out.lt)
  go_wp2_with fail
  have H0 : Hid (((if x ∈ singlesL.take 0 then 1 else 0 : Nat)) = 0) := rfl
  go_loopw [8, 9] (fun nv jv wx => ∃ j m : Nat, j ≤ 20 ∧ nv = .int .i64 (m : Int) ∧ jv = .int .i64 (j : Int) ∧ Hid ((if x ∈ singlesL.take j then 1 else 0 : Nat) = m) ∧ w8 = wx) (fun _ jv _ => 20 - (intOf jv).toNat)
  case atStart => exact ⟨0, 0, by omega, rfl, rfl, H0, rfl⟩
  case round =>
    clear H0
    obtain ⟨j, m, hj, rfl, rfl, HM, rfl⟩ := hrel
    have hw2 : IntKind.i64.wrap ((j : Int) + 1) = ((j + 1 : Nat) : Int) := by rw [IntWalk.i64_in _ (by omega)]; omega
    by_cases hlt : j < 20
    · have hlt' : (j : Int) < 20 := by omega
      have S1 := SI.out w8 j hlt
      have hst : singlesL.take (j + 1) = singlesL.take j ++ [nth singlesL j] := by
        have hjl : j < singlesL.length := hlt
        rw [List.take_succ_eq_append_getElem hjl, nth_get hjl]
      obtain ⟨z, hz⟩ : ∃ z, nth singlesL j = z := ⟨_, rfl⟩
      rw [hz] at S1 hst
      have hm := HM.out
      by_cases hxz : x = z
      · have kz : ((x.toNat : Int) == (z.toNat : Int)) = true := by simp [hxz]
        have HM1 : Hid ((if x ∈ singlesL.take (j + 1) then 1 else 0 : Nat) = 1) := by unfold Hid; rw [hst, if_pos (by simp [hxz])]
        clear hst hm hxz hz
        go_wp2_with fail
        go_roundw
        case rel => exact ⟨j + 1, 1, by omega, rfl, by go_num, HM1, trivial⟩
        case measure => simp [intOf]; omega
      · have kz : ((x.toNat : Int) == (z.toNat : Int)) = false := by
          have : x.toNat ≠ z.toNat := fun e => hxz (UInt8.toNat_inj.1 e)
          simp; omega
        have HM1 : Hid ((if x ∈ singlesL.take (j + 1) then 1 else 0 : Nat) = m) := by
          unfold Hid
          rw [hst, ← hm]
          simp [hxz]
        clear hst hm hxz hz
        go_wp2_with fail
        go_roundw
        case rel => exact ⟨j + 1, m, by omega, rfl, by go_num, HM1, trivial⟩
        case measure => simp [intOf]; omega
    · have HM1 : Hid ((if x ∈ singlesL then 1 else 0 : Nat) = m) := by have := HM.out; rw [show j = 20 by omega, show singlesL.take 20 = singlesL from rfl] at this; exact this
      have hlt' : ¬ (j : Int) < 20 := by omega
      clear HM SI
      go_wp2_with fail
      have H1 : Hid ((if z2 ≤ s.size ∧ r2 ∈ pairsL.take 0 then 2 else m : Nat) = m) := by unfold Hid; simp
      go_loopw [39, 8] (fun kv nv wx => ∃ k q : Nat, k ≤ 5 ∧ kv = .int .i64 (k : Int) ∧ nv = .int .i64 (q : Int) ∧ Hid ((if z2 ≤ s.size ∧ r2 ∈ pairsL.take k then 2 else m : Nat) = q) ∧ w8 = wx) (fun kv _ _ => 5 - (intOf kv).toNat)
      case atStart => exact ⟨0, m, by omega, rfl, rfl, H1, rfl⟩
      case round =>
        clear H1
        obtain ⟨k, q, hk, rfl, rfl, HQ, rfl⟩ := hrel
        have hw3 : IntKind.i64.wrap ((k : Int) + 1) = ((k + 1 : Nat) : Int) := by rw [IntWalk.i64_in _ (by omega)]; omega
        by_cases hlt : k < 5
        · have hlt' : (k : Int) < 5 := by omega
          obtain ⟨p, hp⟩ : ∃ p, pairsL[k]? = some p := ⟨_, List.getElem?_eq_getElem (by exact hlt)⟩
          have hc9 := HPC.out k p hp
          have hst : pairsL.take (k + 1) = pairsL.take k ++ [p] := by
            obtain ⟨h1, h2⟩ := List.getElem?_eq_some_iff.1 hp
            rw [List.take_succ_eq_append_getElem h1, h2]
          have hq := HQ.out
          by_cases hsz : z2 ≤ s.size
          · have l1 : (z2 : Int) ≤ (s.size : Int) := by omega
            by_cases hrp : r2 = p
            · have kE : ((B r2).toList == (B p).toList) = true := by rw [B_eq]; simp [hrp]
              have HQ1 : Hid ((if z2 ≤ s.size ∧ r2 ∈ pairsL.take (k + 1) then 2 else m : Nat) = 2) := by unfold Hid; rw [hst, if_pos ⟨hsz, by simp [hrp]⟩]
              have kE2 : (B r2).toList = (B p).toList := by rw [hrp]
              clear hst hq hp hsz hrp
              go_wp2_with fail
              go_roundw
              case rel => exact ⟨k + 1, 2, by omega, by go_num, rfl, HQ1, trivial⟩
              case measure => simp [intOf]; omega
            · have kE : ((B r2).toList == (B p).toList) = false := by rw [B_eq]; simp [hrp]
              have kE2 : ¬ (B r2).toList = (B p).toList := by rw [B_eq']; exact hrp
              have HQ1 : Hid ((if z2 ≤ s.size ∧ r2 ∈ pairsL.take (k + 1) then 2 else m : Nat) = q) := by unfold Hid; rw [hst, ← hq]; simp [hrp]
              clear hst hq hp hsz hrp
              go_wp2_with fail
              go_roundw
              case rel => exact ⟨k + 1, q, by omega, by go_num, rfl, HQ1, trivial⟩
              case measure => simp [intOf]; omega
          · have l1 : ¬ (z2 : Int) ≤ (s.size : Int) := by omega
            have HQ1 : Hid ((if z2 ≤ s.size ∧ r2 ∈ pairsL.take (k + 1) then 2 else m : Nat) = q) := by unfold Hid; rw [← hq, if_neg (fun h => hsz h.1), if_neg (fun h => hsz h.1)]
            clear hst hq hp hsz
            go_wp2_with fail
            go_roundw
            case rel => exact ⟨k + 1, q, by omega, by go_num, rfl, HQ1, trivial⟩
            case measure => simp [intOf]; omega
        · have hlt' : ¬ (k : Int) < 5 := by omega
          have hk5 : k = 5 := by omega
          have HM2 : Hid ((if r2 ∈ pairsL then 2 else if x ∈ singlesL then 1 else 0 : Nat) = q) := by
            have h1 := HQ.out
            have h2 := HM1.out
            rw [hk5, show pairsL.take 5 = pairsL from rfl] at h1
            unfold Hid
            rw [h2, ← h1]
            by_cases h3 : r2 ∈ pairsL
            · rw [if_pos h3, if_pos ⟨HP2.out h3, h3⟩]
            · rw [if_neg h3, if_neg (fun h => h3 h.2)]
          clear HQ hk5
          have hm2 := HM2.out
          by_cases h3 : r2 ∈ pairsL
          · rw [if_pos h3] at hm2
            subst hm2
            have HL2 : Hid (lexY (s.data.toList.drop i) = .ok 2 ⟨5, r2, [], 0, 0⟩) := by unfold Hid; rw [HLX.out, if_pos h3]
            have l1 : (z2 : Int) ≤ (s.size : Int) := by have := HP2.out h3; omega
            clear h3
            have AD := Lib.hid (fun (wx : World) (hb : Bx wx b (mC s (z2 : Int) (.slice A ts.length c) 0 tb)) (hr : MRow wx b s ts A c) => add_m hb hr hs (Nat.le_of_lt hi) hn ⟨5, r2, [], 0, 0⟩)
            dsimp only [tnL] at AD
            rw [show B [] = (⟨#[]⟩ : ByteArray) from rfl] at AD
            clear HM2 HM1
            go_wp2_with fail
            refine wp_name (fun wx => Hid (Bx wx b (mC s (z2 : Int) (.slice A ts.length c) 0 tb)) ∧ Hid (Chg b b w8 wx)) ⟨HB.out.put rfl, (Chg.refl b b w8).set1 _ _⟩ ?_
            have HR8 := HR
            clear HB
            clear c0 c1 c2 c3 c4 f0 f1 f2 f3 f4 lt
            rintro w9 ⟨HB, HC⟩
            have HR2 := Lib.hid (HR8.out.chg HC.out)
            (obtain ⟨c0, c1, c2, c3, c4⟩ := HB.out.c5; obtain ⟨f0, f1, f2, f3, f4⟩ := HB.out.f5; have lt := HB.out.lt)
            refine wp_region_ord [(0, 1), (1, 1), (2, 1), (3, 1), (4, 1), (5, 1), (6, 1), (7, 1), (8, 1), (9, 1), (10, 1), (11, 1), (12, 1), (13, 3)] [13] 5 (by kernel_rfl) (by decide +kernel) ?_
            simp only [pickO, List.append_eq, List.cons_append, List.nil_append, List.getElem?_cons_succ, List.getElem?_cons_zero]
            intro w0 hG
            (repeat ((first | (with_reducible refine ord_q1 ?_) | (with_reducible refine ord_q0 ?_)); intro K hK; first | (refine Or.inr ⟨?_, ?_⟩; (focus (go_simp; first | done | (simp [undef]; done))); go_simp; (with_reducible refine hK _ ?_); clear hK K) | (refine Or.inl ⟨?_, ?_⟩; (focus (go_simp; done)); apply Exists.intro; refine And.intro ?_ ?_; (focus (first | (intro wq hq; obtain ⟨hcq, hfq⟩ := G.old hq; go_simp; (first | done | exact rfl); done) | (intro wq; go_simp; (first | done | exact rfl); done))); go_simp; (with_reducible refine hK _ ?_); clear hK K) | fail))
            (with_reducible refine ord_tail ?_)
            intro K hK
            go_simp
            have hb9 := hG.b
            go_at_call 92
            (with_reducible refine (AD.out _ (HB.out.grow hb9) (HR2.out.grow hb9)).mono ?_)
            rintro e1 w10 ⟨rfl, hb6, A6, c6, hbx6, hr6⟩
            (try dsimp only)
            (with_reducible refine hK _ _ ?_)
            clear hK K
            (with_reducible refine ord_nil ?_)
            go_wp2_with fail
            (first | go_end0 | refine bodyPost_ret (results_none rfl _ _ _) rfl ?_)
            rw [HL2.out]
            exact ⟨rfl, ((HG.out.mono (Nat.le_of_lt hbw)).trans ((HC.out.grow hb9).bel (Nat.le_of_lt (Nat.lt_of_lt_of_le hbw HG.out.size)))).trans hb6, A6, c6, by rw [HZ2.out]; exact hbx6, hr6⟩
          · rw [if_neg h3] at hm2
            by_cases h4 : x ∈ singlesL
            · rw [if_pos h4] at hm2
              subst hm2
              have HL2 : Hid (lexY (s.data.toList.drop i) = .ok 1 ⟨5, r1, [], 0, 0⟩) := by unfold Hid; rw [HLX.out, if_neg h3, if_pos h4]
              clear h3 h4
              have AD := Lib.hid (fun (wx : World) (hb : Bx wx b (mC s (z1 : Int) (.slice A ts.length c) 0 tb)) (hr : MRow wx b s ts A c) => add_m hb hr hs (Nat.le_of_lt hi) hn ⟨5, r1, [], 0, 0⟩)
              dsimp only [tnL] at AD
              rw [show B [] = (⟨#[]⟩ : ByteArray) from rfl] at AD
              clear HM2 HM1
              go_wp2_with fail
              refine wp_name (fun wx => Hid (Bx wx b (mC s (z1 : Int) (.slice A ts.length c) 0 tb)) ∧ Hid (Chg b b w8 wx)) ⟨HB.out.put rfl, (Chg.refl b b w8).set1 _ _⟩ ?_
              have HR8 := HR
              clear HB
              clear c0 c1 c2 c3 c4 f0 f1 f2 f3 f4 lt
              rintro w9 ⟨HB, HC⟩
              have HR2 := Lib.hid (HR8.out.chg HC.out)
              (obtain ⟨c0, c1, c2, c3, c4⟩ := HB.out.c5; obtain ⟨f0, f1, f2, f3, f4⟩ := HB.out.f5; have lt := HB.out.lt)
              refine wp_region_ord [(0, 1), (1, 1), (2, 1), (3, 1), (4, 1), (5, 1), (6, 1), (7, 1), (8, 1), (9, 1), (10, 1), (11, 1), (12, 1), (13, 3)] [13] 5 (by kernel_rfl) (by decide +kernel) ?_
              simp only [pickO, List.append_eq, List.cons_append, List.nil_append, List.getElem?_cons_succ, List.getElem?_cons_zero]
              intro w0 hG
              (repeat ((first | (with_reducible refine ord_q1 ?_) | (with_reducible refine ord_q0 ?_)); intro K hK; first | (refine Or.inr ⟨?_, ?_⟩; (focus (go_simp; first | done | (simp [undef]; done))); go_simp; (with_reducible refine hK _ ?_); clear hK K) | (refine Or.inl ⟨?_, ?_⟩; (focus (go_simp; done)); apply Exists.intro; refine And.intro ?_ ?_; (focus (first | (intro wq hq; obtain ⟨hcq, hfq⟩ := G.old hq; go_simp; (first | done | exact rfl); done) | (intro wq; go_simp; (first | done | exact rfl); done))); go_simp; (with_reducible refine hK _ ?_); clear hK K) | fail))
              (with_reducible refine ord_tail ?_)
              intro K hK
              go_simp
              have hb9 := hG.b
              go_at_call 92
              (with_reducible refine (AD.out _ (HB.out.grow hb9) (HR2.out.grow hb9)).mono ?_)
              rintro e1 w10 ⟨rfl, hb6, A6, c6, hbx6, hr6⟩
              (try dsimp only)
              (with_reducible refine hK _ _ ?_)
              clear hK K
              (with_reducible refine ord_nil ?_)
              go_wp2_with fail
              (first | go_end0 | refine bodyPost_ret (results_none rfl _ _ _) rfl ?_)
              rw [HL2.out]
              exact ⟨rfl, ((HG.out.mono (Nat.le_of_lt hbw)).trans ((HC.out.grow hb9).bel (Nat.le_of_lt (Nat.lt_of_lt_of_le hbw HG.out.size)))).trans hb6, A6, c6, by rw [HZ1.out]; exact hbx6, hr6⟩
            · rw [if_neg h4] at hm2
              subst hm2
              have HL2 : Hid (lexY (s.data.toList.drop i) = .bad 0 6) := by unfold Hid; rw [HLX.out, if_neg h3, if_neg h4]
              clear h3 h4 HM2 HM1
              go_wp2_with fail
              go_at_call 55
              (with_reducible refine (FL.out _ _ _ _ _ _ HB.out).mono ?_)
              rintro e1 w9 ⟨rfl, hb9, hc9⟩
              go_wp2_with fail
              (first | go_end0 | refine bodyPost_ret (results_none rfl _ _ _) rfl ?_)
              rw [HL2.out]
              exact ⟨rfl, (HG.out.mono (Nat.le_of_lt hbw)).trans (hc9.bel (Nat.le_of_lt (Nat.lt_of_lt_of_le hbw HG.out.size))), _, _, by rw [Nat.add_zero]; exact hb9⟩
end
end Go.Proofs.YtmchiibbodllaaaGreatDoor

namespace Go.Proofs.YtmchiibbodllaaaGreatDoor
set_option linter.unusedVariables false
set_option linter.unnecessarySimpa false
set_option linter.unusedSimpArgs false
open Go.RowKit

theorem scanA_le {l : List UInt8} (h : l.length ≤ 65536) : scanA l = scanL l := by unfold scanA; rw [if_neg (by omega)]
section
variable {w : World} {b i : Nat} {s : ByteArray} {ts : List Pl} {A : Option Addr} {c : Nat} {tb : Int}
theorem token_m (hE : Env w) (hgb : ¬ GB b) (h : Bx w b (mC s (i : Int) (.slice A ts.length c) 0 tb)) (hr : MRow w b s ts A c) (hs : s.size ≤ 100000) (hi : i < s.size) (hn : ts.length ≤ 20000) :
    Calls Tryz.prog 56 #[.pointer (some ⟨b, 0, none⟩)] w (RetTk w b s i ts tb (lex1 (s.data.toList.drop i))) := by
  have hw := lex1_way (s.data.toList.drop i)
  obtain ⟨k0, k1, k2, k3, k4⟩ := hw
  by_cases a1 : (nth (s.data.toList.drop i) 0).toNat = 120 ∧ (nth (s.data.toList.drop i) 1).toNat = 34
  · rw [k0 (by unfold way; rw [if_pos a1])]
    rw [nth_drop, nth_drop, Nat.add_zero] at a1
    exact token_x h hr hs hi hn a1.1 a1.2
  · by_cases a2 : isLet (nth (s.data.toList.drop i) 0) = true
    · rw [k1 (by unfold way; rw [if_neg a1, if_pos a2])]
      rw [nth_drop, nth_drop, Nat.add_zero] at a1
      rw [nth_drop, Nat.add_zero] at a2
      exact token_w h hr hs hi hn a2 a1
    · by_cases a3 : isDig (nth (s.data.toList.drop i) 0) = true
      · rw [k2 (by unfold way; rw [if_neg a1, if_neg a2, if_pos a3])]
        rw [nth_drop, Nat.add_zero] at a3
        exact token_n hE hgb h hr hs hi hn a3
      · by_cases a4 : (nth (s.data.toList.drop i) 0).toNat = 34
        · rw [k3 (by unfold way; rw [if_neg a1, if_neg a2, if_neg a3, if_pos a4])]
          rw [nth_drop, Nat.add_zero] at a4
          exact token_s hE hgb h hr hs hi hn a4
        · have hw4 : way (s.data.toList.drop i) = 4 := by unfold way; rw [if_neg a1, if_neg a2, if_neg a3, if_neg a4]
          rw [k4 hw4]
          exact token_y h hr hs hi hn hw4
def GoT (s : ByteArray) (b : Nat) (X : Sc) (wx : World) : Prop :=
  ∃ (f i : Nat) (last : Option Nat) (acc : List Pl) (A : Option Addr) (c : Nat), i ≤ s.size ∧ s.data.toList.length < i + f ∧ acc.length ≤ 16384 ∧ scanF s.data.toList f i last acc = X ∧
    Bx wx b (mC s (i : Int) (.slice A acc.length c) 0 (lastI last)) ∧ MRow wx b s acc A c
def BadT (s : ByteArray) (b : Nat) (X : Sc) (wx : World) : Prop :=
  ∃ (o : Nat) (e : Int) (lv : Value) (tb : Int), e ≠ 0 ∧ o ≤ s.size ∧ X = .bad o e ∧ Bx wx b (mC s (o : Int) lv e tb)
def msT (n b : Nat) (wx : World) : Nat := if rdI wx ⟨b, 3, none⟩ = 0 then n + 2 - (rdI wx ⟨b, 1, none⟩).toNat else 0
theorem msT_go {n b : Nat} {wx : World} {s : ByteArray} {p : Nat} {lv : Value} {tb : Int} (h : Bx wx b (mC s (p : Int) lv 0 tb)) : msT n b wx = n + 2 - p := by
  unfold msT
  rw [rdI_of h.c5.2.2.2.1, rdI_of h.c5.2.1]
  simp
theorem msT_bad {n b : Nat} {wx : World} {s : ByteArray} {i : Int} {lv : Value} {e tb : Int} (h : Bx wx b (mC s i lv e tb)) (hc : e ≠ 0) : msT n b wx = 0 := by
  unfold msT
  rw [rdI_of h.c5.2.2.2.1, if_neg hc]
theorem lastI_dec (last : Option Nat) (i : Nat) : decide (lastI last = (i : Int)) = decide (last = some i) := by
  cases last with
  | none => simp [lastI]
  | some j => exact decide_eq_decide.2 ⟨fun h => by have : (j : Int) = (i : Int) := h; rw [show j = i by omega], fun h => by cases h; rfl⟩
set_option maxRecDepth 20000 in set_option maxHeartbeats 8000000 in
theorem tokens_m (hE : Env w) (s : ByteArray) : Calls Tryz.prog 13 #[.string s] w (RetScan w s.data.toList (scanA s.data.toList)) := by
  have hll : s.data.toList.length = s.size := rfl
  by_cases hbig : 65536 < s.size
  · have hA : scanA s.data.toList = .bad 0 5 := by unfold scanA; rw [if_pos (by omega)]
    rw [hA]
    have l1 : (65536 : Int) < (s.size : Int) := by omega
    clear hA hbig hE
    go_enter Tryz.func13, Tryz.ntmps13
    go_wp2_with fail
    exact bodyPost_ret (v := .tuple #[.slice none 0 0, .int .i64 1, .int .i64 1, .int .i64 5]) (by simp only [results, Tryz.results13]; go_simp) rfl ⟨G.refl w, rfl⟩
  · have l1 : ¬ (65536 : Int) < (s.size : Int) := by omega
    obtain ⟨X, hX⟩ : ∃ X, scanA s.data.toList = X := ⟨_, rfl⟩
    rw [hX]
    have hs : s.size ≤ 100000 := by omega
    rw [scanA_le (by omega)] at hX
    have HE := Lib.hid hE
    have HX := Lib.hid hX
    obtain ⟨iU, hUi, hU0, hU1, hU2⟩ := info_parts infoTok
    have hbs : Hid (s.size ≤ 65536) := by unfold Hid; omega
    have FL := Lib.hid (fun (wx : World) (b : Nat) (i k e : Int) (lv : Value) (tb : Int) (hb : Bx wx b (mC s i lv 0 tb)) => fail_m hb k e)
    have PL := Lib.hid (fun (wx : World) (b : Nat) (i : Int) (k : Nat) (e : Int) (lv : Value) (tb : Int) (hk : k ≤ s.size) (hb : Bx wx b (mC s i lv e tb)) => place_m hb hs k hk)
    clear hX hbig hE
    go_enter Tryz.func13, Tryz.ntmps13
    go_wp2_with fail
    obtain ⟨b, hb⟩ : ∃ b, w.heap.size = b := ⟨_, rfl⟩
    rw [hb]
    refine wp_name (fun wx => Hid (Bx wx b (mC s 0 (.slice none 0 0) 0 (-1))) ∧ Hid (Below b w wx)) ⟨Bx.new hb.symm rfl, by rw [← hb]; exact G.alloc (G.refl w) _⟩ ?_
    rintro w1 ⟨HB, HG⟩
    have HBW := Lib.hid hb
    have hgb : ¬ GB b := HE.out.not (by omega)
    have hst : Hid (GoT s b X w1) := ⟨s.size + 1, 0, none, [], none, 0, Nat.zero_le _, by omega, by simp, HX.out, HB.out, ⟨rfl, .inl ⟨rfl, rfl⟩⟩⟩
    clear hb HB HX
    go_loopw [] (fun wx => Hid (GoT s b X wx ∨ BadT s b X wx) ∧ Hid (Below b w wx)) (fun wx => msT s.size b wx)
    case atStart => exact ⟨Lib.hid (.inl hst.out), HG⟩
    case round =>
      clear hst HG
      obtain ⟨HH, HG⟩ := hrel
      rcases HH.out with hgo | hbd
      · obtain ⟨f, i, last, acc, A, c, hi, hf, hacc, hsc, hbx, hrow⟩ := hgo
        have HB := Lib.hid hbx
        have HR := Lib.hid hrow
        have hm0 := Lib.hid (msT_go (n := s.size) hbx)
        obtain ⟨f, rfl⟩ : ∃ g, f = g + 1 := ⟨f - 1, by omega⟩
        have HF : Hid (s.size < i + (f + 1)) := hf
        have BL := Lib.hid (blanks_m hbx hs hi)
        have hbdd := blk_bd false s.data.toList (i := i) hi
        rw [scanF] at hsc
        obtain ⟨j, hj⟩ : ∃ j, i + blk false (s.data.toList.drop i) = j := ⟨_, rfl⟩
        rw [hj] at hsc hbdd BL
        have hjs : j ≤ s.size := hbdd
        have hij : i ≤ j := by omega
        have hEw : Hid (Env wr) := HE.out.grow (by rw [HBW.out]; exact HG.out)
        clear HH hbx hrow hbdd hj
        (obtain ⟨c0, c1, c2, c3, c4⟩ := HB.out.c5; obtain ⟨f0, f1, f2, f3, f4⟩ := HB.out.f5; have lt := HB.out.lt)
        go_wp2_with fail
        go_at_call 53
        (with_reducible refine BL.out.mono ?_)
        rintro e1 w2 ⟨rfl, hb2, hc2⟩
        have hbw : b ≤ wr.heap.size := Nat.le_of_lt HB.out.lt
        replace HR := Lib.hid (HR.out.chg hc2)
        replace hEw : Hid (Env w2) := hEw.out.chg hc2 hgb hgb
        replace HG : Hid (Below b w w2) := HG.out.trans (hc2.bel hbw)
        replace HB := Lib.hid hb2
        clear hb2 hc2 BL hbw
        clear c0 c1 c2 c3 c4 f0 f1 f2 f3 f4 lt
        (obtain ⟨c0, c1, c2, c3, c4⟩ := HB.out.c5; obtain ⟨f0, f1, f2, f3, f4⟩ := HB.out.f5; have lt := HB.out.lt)
        by_cases hend : j = s.size
        · have kE : ((j : Int) == (s.size : Int)) = true := by simp [hend]
          rw [if_pos (by omega)] at hsc
          have HX' := Lib.hid hsc.symm
          have hob := HR.out.lt
          obtain ⟨n, hn⟩ : ∃ n, acc.length = n := ⟨_, rfl⟩
          have HR2 : Hid (w2.ownsRow (b + 1) tT 8 (.slice A n c) n (rowC s.data.toList acc)) := by have := HR.out; unfold MRow at this; rw [hn] at this; exact this
          rw [hn] at HB c2 hob
          have hnb : n ≤ 16384 := by omega
          have HN := Lib.hid hn
          obtain ⟨⟨la, lb⟩, hlab⟩ : ∃ p, lnc s.data.toList s.size = p := ⟨_, rfl⟩
          have PL2 := Lib.hid (PL.out w2 b (j : Int) s.size 0 (.slice A n c) (lastI last) (Nat.le_refl _) HB.out)
          rw [hlab] at PL2
          dsimp only at PL2
          have HL := Lib.hid hlab
          have hT : Hid (rowC s.data.toList acc ++ tkC 0 la lb ⟨#[]⟩ ⟨#[]⟩ 0 0 false = rowC s.data.toList acc ++ endC s.data.toList) := by
            unfold Hid endC
            rw [hll, hlab]
          clear hsc hn hlab HR hend
          go_wp2_with (at_builtin; apply stopHere)
          go_at_call 54
          (with_reducible refine PL2.out.mono ?_)
          rintro e1 w3 ⟨rfl, rfl⟩
          go_wp2_with (at_builtin; apply stopHere)
          apply Lib.hid
          (refine wpList_app _ rfl (.tmp 41) (.tmp 45) _ rfl (b + 1) 33 iU _ 8 80 Tryz.underlying23 hUi hU0 hU1 hU2 rfl (by decide) _ n _ rfl (own_grow HR2.out (G.alloc (G.refl w3) _)) (some ⟨w3.heap.size, 0, none⟩) 1 1 (tkC 0 la lb ⟨#[]⟩ ⟨#[]⟩ 0 0 false) rfl (Sl.new rfl rfl) (tkC_one _ _ _ _ _ _ _ _) (by show _ ≤ 2 ^ 63 - 1; omega) (by omega) (by have := HB.out.lt; simp; omega) ?_; intro A3 cc3 w5 hown5 hc5 hm5 hg5; rw [hT.out] at hown5; refine wpList_nm (fun wx => Hid (wx.ownsRow (b + 1) tT 8 (.slice A3 (n + 1) cc3) (n + 1) (rowC s.data.toList acc ++ endC s.data.toList)) ∧ Hid (Below b w wx)) ⟨hown5, (HG.out.alloc (Nat.le_of_lt HB.out.lt) _).grown hg5 (by have := HB.out.lt; simp; omega) (fun k hk => by have := (hob _ hk).1; omega)⟩ ?_; clear hown5 hc5 hm5 hg5; rintro w8 ⟨HO8, HG8⟩)
          go_wp2_with fail
          refine bodyPost_ret (v := .tuple #[.slice A3 (n + 1) cc3, .int .i64 0, .int .i64 0, .int .i64 0]) (by simp only [results, Tryz.results13]; go_simp) rfl ?_
          rw [HX'.out]
          refine ⟨by rw [HBW.out]; exact HG8.out, A3, cc3, by rw [HN.out], ?_⟩
          rw [HN.out]
          exact own_mono HO8.out (by have := HBW.out; omega)
        · have kE : ((j : Int) == (s.size : Int)) = false := by simp; omega
          rw [if_neg (by omega)] at hsc
          have hjl : j < s.size := by omega
          by_cases hmax : acc.length = 16384
          · rw [if_pos hmax] at hsc
            have HX' := Lib.hid hsc.symm
            have kM : ((acc.length : Int) == 16384) = true := by simp [hmax]
            have kM2 : (acc.length : Int) = 16384 := by omega
            have HLN := Lib.hid kM2
            clear hsc hmax kM2
            go_wp2_with fail
            go_at_call 55
            (with_reducible refine (FL.out _ _ _ _ _ _ _ HB.out).mono ?_)
            rintro e1 w4 ⟨rfl, hb4, hc4⟩
            have HC4 := Lib.hid hc4
            have HB4 := Lib.hid hb4
            clear hb4 hc4
            clear c0 c1 c2 c3 c4 f0 f1 f2 f3 f4 lt
            obtain ⟨c0, c1, c2, c3, c4⟩ := HB4.out.c5
            obtain ⟨f0, f1, f2, f3, f4⟩ := HB4.out.f5
            have lt := HB4.out.lt
            go_wp2_with fail
            go_at_call 54
            (with_reducible refine (PL.out _ _ _ j _ _ _ hjs HB4.out).mono ?_)
            rintro e1 w3 ⟨rfl, rfl⟩
            obtain ⟨⟨la, lb⟩, hlab⟩ : ∃ p, lnc s.data.toList j = p := ⟨_, rfl⟩
            rw [hlab]
            dsimp only
            have HL := Lib.hid hlab
            go_wp2_with fail
            refine wp_region_ord [(0, 1), (1, 1), (2, 1), (3, 1), (4, 1), (5, 1), (6, 1), (7, 1), (8, 1), (9, 1)] [] 5 (by kernel_rfl) (by decide +kernel) ?_
            simp only [pickO, List.append_eq, List.cons_append, List.nil_append, List.getElem?_cons_succ, List.getElem?_cons_zero]
            intro w0 hG
            (repeat ((first | (with_reducible refine ord_q1 ?_) | (with_reducible refine ord_q0 ?_)); intro K hK; first | (refine Or.inr ⟨?_, ?_⟩; (focus (go_simp; first | done | (simp [undef]; done))); go_simp; (with_reducible refine hK _ ?_); clear hK K) | (refine Or.inl ⟨?_, ?_⟩; (focus (go_simp; done)); apply Exists.intro; refine And.intro ?_ ?_; (focus (first | (intro wq hq; obtain ⟨hcq, hfq⟩ := G.old hq; go_simp; (first | done | exact rfl); done) | (intro wq; go_simp; (first | done | exact rfl); done))); go_simp; (with_reducible refine hK _ ?_); clear hK K) | fail))
            (with_reducible refine ord_nil ?_)
            have hb9 := hG.b
            go_wp2_with fail
            refine bodyPost_ret (v := .tuple #[.slice none 0 0, .int .i64 la, .int .i64 lb, .int .i64 9]) (by simp only [results, Tryz.results13]; go_simp) rfl ?_
            rw [HX'.out]
            refine ⟨by rw [HBW.out]; exact (HG.out.trans (HC4.out.bel (Nat.le_of_lt HB.out.lt))).trans (hb9.mono (Nat.le_of_lt HB4.out.lt)), ?_⟩
            show _ = Ending.returned (.tuple #[.slice none 0 0, .int .i64 (lnc s.data.toList j).1, .int .i64 (lnc s.data.toList j).2, .int .i64 9])
            rw [HL.out]
          · rw [if_neg hmax] at hsc
            have HA2 : Hid (acc.length + 1 ≤ 16384) := by unfold Hid; omega
            have kM : ((acc.length : Int) == 16384) = false := by simp; omega
            have TK := Lib.hid (token_m hEw.out hgb HB.out HR.out hs hjl (by omega))
            have hin := lex1_in (r := s.data.toList.drop j) (by rw [List.length_drop]; omega)
            rcases hx : lex1 (s.data.toList.drop j) with ⟨n, t⟩ | ⟨o, e⟩
            · rw [hx] at hsc hin TK
              obtain ⟨hn1, hn2'⟩ := hin
              have hn2 : n ≤ s.size - j := by rw [List.length_drop] at hn2'; exact hn2'
              simp only at hsc
              rw [← lastI_dec] at hsc
              have HSC := Lib.hid hsc
              clear hsc hx hmax
              go_wp2_with fail
              go_at_call 56
              (with_reducible refine TK.out.mono ?_)
              rintro e1 w3 ⟨rfl, hb3, A3, c3', hbx3, hr3⟩
              have hgo : Hid (GoT s b X w3) := ⟨f, j + n, some (j + n), acc ++ [⟨j, decide (lastI last = (j : Int)), t⟩], A3, c3', by omega, by have := HF.out; rw [hll]; omega, by rw [List.length_append]; exact HA2.out, HSC.out, by rw [List.length_append]; exact hbx3, hr3⟩
              have hms : Hid (msT s.size b w3 = s.size + 2 - (j + n)) := msT_go hbx3
              replace HG := Lib.hid (HG.out.trans hb3)
              clear hbx3 hr3 hb3 TK HSC
              go_wp2_with fail
              go_roundw
              case rel => exact ⟨Lib.hid (.inl hgo.out), HG⟩
              case measure =>
                rw [hms.out, hm0.out]
                omega
            · rw [hx] at hsc hin TK
              obtain ⟨hn1', hn2⟩ := hin
              have hn1 : o ≤ s.size - j := by rw [List.length_drop] at hn1'; exact hn1'
              simp only at hsc
              have HSC := Lib.hid hsc
              clear hsc hx hmax
              go_wp2_with fail
              go_at_call 56
              (with_reducible refine TK.out.mono ?_)
              rintro e1 w3 ⟨rfl, hb3, lv3, tb3, hbx3⟩
              have hgo : Hid (BadT s b X w3) := ⟨j + o, e, lv3, tb3, hn2, by omega, HSC.out.symm, hbx3⟩
              have hms : Hid (msT s.size b w3 = 0) := msT_bad hbx3 hn2
              replace HG := Lib.hid (HG.out.trans hb3)
              clear hbx3 hb3 TK HSC
              go_wp2_with fail
              go_roundw
              case rel => exact ⟨Lib.hid (.inr hgo.out), HG⟩
              case measure =>
                rw [hms.out, hm0.out]
                omega
      · obtain ⟨o, e, lv, tb, he, ho, hX, hbx⟩ := hbd
        have HB := Lib.hid hbx
        have ke : (e == 0) = false := by simp [he]
        have HX' := Lib.hid hX
        clear HH hbx hX he
        (obtain ⟨c0, c1, c2, c3, c4⟩ := HB.out.c5; obtain ⟨f0, f1, f2, f3, f4⟩ := HB.out.f5; have lt := HB.out.lt)
        go_wp2_with fail
        go_at_call 54
        (with_reducible refine (PL.out _ _ _ o _ _ _ ho HB.out).mono ?_)
        rintro e1 w3 ⟨rfl, rfl⟩
        obtain ⟨⟨la, lb⟩, hlab⟩ : ∃ p, lnc s.data.toList o = p := ⟨_, rfl⟩
        rw [hlab]
        dsimp only
        have HL := Lib.hid hlab
        go_wp2_with fail
        refine wp_region_ord [(0, 1), (1, 1), (2, 1), (3, 1), (4, 1), (5, 1), (6, 1), (7, 1), (8, 1), (9, 1)] [] 5 (by kernel_rfl) (by decide +kernel) ?_
        simp only [pickO, List.append_eq, List.cons_append, List.nil_append, List.getElem?_cons_succ, List.getElem?_cons_zero]
        intro w0 hG
        (repeat ((first | (with_reducible refine ord_q1 ?_) | (with_reducible refine ord_q0 ?_)); intro K hK; first | (refine Or.inr ⟨?_, ?_⟩; (focus (go_simp; first | done | (simp [undef]; done))); go_simp; (with_reducible refine hK _ ?_); clear hK K) | (refine Or.inl ⟨?_, ?_⟩; (focus (go_simp; done)); apply Exists.intro; refine And.intro ?_ ?_; (focus (first | (intro wq hq; obtain ⟨hcq, hfq⟩ := G.old hq; go_simp; (first | done | exact rfl); done) | (intro wq; go_simp; (first | done | exact rfl); done))); go_simp; (with_reducible refine hK _ ?_); clear hK K) | fail))
        (with_reducible refine ord_nil ?_)
        have hb9 := hG.b
        go_wp2_with fail
        refine bodyPost_ret (v := .tuple #[.slice none 0 0, .int .i64 la, .int .i64 lb, .int .i64 e]) (by simp only [results, Tryz.results13]; go_simp) rfl ?_
        rw [HX'.out]
        refine ⟨by rw [HBW.out]; exact HG.out.trans (hb9.mono (Nat.le_of_lt HB.out.lt)), ?_⟩
        show _ = Ending.returned (.tuple #[.slice none 0 0, .int .i64 (lnc s.data.toList o).1, .int .i64 (lnc s.data.toList o).2, .int .i64 e])
        rw [HL.out]
theorem plc_len : ∀ (ps : List Pc) (i : Nat) (fst : Bool), (plc i fst ps).length = ps.length
  | [], _, _ => rfl
  | p :: ps, i, fst => by rw [plc, List.length_cons, List.length_cons, plc_len ps]
theorem nilT (w : World) : TksW w none 0 0 [] := ⟨rfl, Nat.le_refl 0, Nat.zero_le _, Sl.nil _ _⟩
set_option maxRecDepth 20000 in set_option maxHeartbeats 4000000 in
theorem lexerScans_w (hE : Env w) (s : ByteArray) : Calls Tryz.prog 3 #[.string s] w fun e w' => e = .returned (.bool true) ∧ Below w.heap.size w w' := by
  obtain ⟨v, hv⟩ : ∃ v, s.data.toList.take 1500 = v := ⟨_, rfl⟩
  have hvl : v.length ≤ 1500 := by rw [← hv, List.length_take]; omega
  have HC := Lib.hid (cut_any1 (w := w) s)
  rw [hv] at HC
  have S1 := Lib.hid (fun (w : World) (hE : Env w) => scan_any hE (B v))
  have S2 := Lib.hid (fun (w : World) (hE : Env w) => tokens_m hE (B v))
  rw [B_list] at S1 S2
  have HE := Lib.hid hE
  have hA := scanA_le (l := v) (by omega)
  clear hE hv
  rcases hs : scanL v with ts | ⟨o, x⟩
  · rw [hs] at hA
    have hn : ts.length ≤ 16384 := by
      obtain ⟨ps, _, rfl, hc⟩ := scanL_ok hs
      rw [plc_len]
      exact hc
    rw [hA] at S1 S2
    obtain ⟨n, hn'⟩ : ∃ n, ts.length + 1 = n := ⟨_, rfl⟩
    have hnb : n ≤ 20000 := by omega
    have HN := Lib.hid hn'
    clear hs hA hn hn'
    go_enter Tryz.func3, Tryz.ntmps3
    go_wp2_with fail
    go_at_call 11
    (with_reducible refine HC.out.mono ?_)
    rintro e1 w1 ⟨rfl, rfl⟩
    go_wp2_with fail
    go_at_call 12
    (with_reducible refine (S1.out _ HE.out).mono ?_)
    rintro e1 w2 ⟨hb2, A2, c2, rfl, hown⟩
    rw [rowC_rwT] at hown
    have HT := Lib.hid (TksW.of_own hown)
    rw [HN.out] at HT ⊢
    replace HE := Lib.hid (HE.out.grow hb2)
    have HG := Lib.hid hb2
    clear hown hb2 S1
    go_wp2_with fail
    go_at_call 13
    (with_reducible refine (S2.out _ HE.out).mono ?_)
    rintro e1 w5 ⟨hb, A5, c5, rfl, hown⟩
    rw [rowC_rwT] at hown
    have HU := Lib.hid (TksW.of_own hown)
    rw [HN.out] at HU ⊢
    replace HE := Lib.hid (HE.out.grow hb)
    replace HT := Lib.hid (HT.out.grow hb)
    replace HG := Lib.hid (G.trans HG.out hb)
    clear hb hown S2
    go_wp2_with fail
    go_at_call 14
    (with_reducible refine (known_any HE.out).mono ?_)
    rintro e1 w6 ⟨rfl, hb⟩
    replace HT := Lib.hid (HT.out.grow hb)
    replace HU := Lib.hid (HU.out.grow hb)
    replace HG := Lib.hid (G.trans HG.out hb)
    clear hb
    go_wp2_with fail
    go_at_call 15
    (with_reducible refine (same_true HT.out HU.out (by omega) (by omega)).mono ?_)
    rw [sameB_self]
    rintro e1 w8 ⟨rfl, hb⟩
    go_wp2_with fail
    go_ret
    exact ⟨rfl, G.trans HG.out hb⟩
  · rw [hs] at hA
    rw [hA] at S1 S2
    have HZ := Lib.hid (fun w => same_true (w := w) (nilT w) (nilT w) (by omega) (by omega))
    obtain ⟨⟨la, lb⟩, hlab⟩ : ∃ p, lnc v o = p := ⟨_, rfl⟩
    have HL := Lib.hid hlab
    clear hs hA hlab
    go_enter Tryz.func3, Tryz.ntmps3
    go_wp2_with fail
    go_at_call 11
    (with_reducible refine HC.out.mono ?_)
    rintro e1 w1 ⟨rfl, rfl⟩
    go_wp2_with fail
    go_at_call 12
    (with_reducible refine (S1.out _ HE.out).mono ?_)
    rintro e1 w2 ⟨hb2, rfl⟩
    rw [HL.out]
    dsimp only
    replace HE := Lib.hid (HE.out.grow hb2)
    go_wp2_with fail
    go_at_call 13
    (with_reducible refine (S2.out _ HE.out).mono ?_)
    rintro e1 w3 ⟨hb3, rfl⟩
    rw [HL.out]
    dsimp only
    replace HE := Lib.hid (HE.out.grow hb3)
    go_wp2_with fail
    go_at_call 14
    (with_reducible refine (known_any HE.out).mono ?_)
    rintro e1 w4 ⟨rfl, hb4⟩
    go_wp2_with fail
    go_at_call 15
    (with_reducible refine (HZ.out _).mono ?_)
    rw [sameB_self]
    rintro e1 w5 ⟨rfl, hb5⟩
    go_wp2_with fail
    go_ret
    exact ⟨rfl, G.trans (G.trans (G.trans hb2 hb3) hb4) hb5⟩
end
theorem lexerScans_any (t : ByteArray) (W : World) (ws : t.size ≤ maxLen) (hE : Env W) : Calls Tryz.prog 3 #[.string t] W fun e W' => e = .returned (.bool true) ∧ Below W.heap.size W W' := lexerScans_w hE t
end Go.Proofs.YtmchiibbodllaaaGreatDoor
