/- The law's model: add, value. -/
import Derived.Test.YtmchiibbodllaaaGreatDoorMc
import Derived.Test.YtmchiibbodllaaaGreatDoorScL
namespace Go.Proofs.YtmchiibbodllaaaGreatDoor
set_option linter.unusedVariables false
set_option linter.unnecessarySimpa false
set_option linter.unusedSimpArgs false
open Go.RowKit

/-- The tokens that have been read. -/
def MRow (w : World) (b : Nat) (s : ByteArray) (ts : List Pl) (A : Option Addr) (c : Nat) : Prop := w.ownsRow (b + 1) tT 8 (.slice A ts.length c) ts.length (rowC s.data.toList ts)
theorem MRow.keep {w w' : World} {b : Nat} {s : ByteArray} {ts : List Pl} {A : Option Addr} {c : Nat} (h : MRow w b s ts A c) (hk : Keeps (From (b + 1)) w w') : MRow w' b s ts A c := own_keep h hk
theorem MRow.grow {w w' : World} {b : Nat} {s : ByteArray} {ts : List Pl} {A : Option Addr} {c : Nat} (h : MRow w b s ts A c) (hb : Below w.heap.size w w') : MRow w' b s ts A c := own_grow h hb
theorem MRow.chg {w w' : World} {b : Nat} {s : ByteArray} {ts : List Pl} {A : Option Addr} {c : Nat} (h : MRow w b s ts A c) (hb : Chg b b w w') : MRow w' b s ts A c :=
  h.keep (hb.2.mono fun x hx => by have : b + 1 ≤ x := hx; exact ⟨by omega, by omega⟩)
theorem Chg.bel {b : Nat} {w w' : World} (h : Chg b b w w') (hb : b ≤ w.heap.size) : Below b w w' := h.below (Nat.le_refl b) (Nat.le_refl b) hb
theorem own_blk {w w' : World} {base : Nat} {e : TypeId} {size : Nat} {v : Value} {n : Nat} {xs : List Value} (h : w.ownsRow base e size v n xs) (hk : ∀ g, v.ownBlock = some g → w'.heap[g]? = w.heap[g]?) : w'.ownsRow base e size v n xs := by
  refine ⟨h.1, ?_⟩
  rcases h.2 with hn | ⟨g, cap, cur, hv, hb, hg, rest⟩
  · exact .inl hn
  · exact .inr ⟨g, cap, cur, hv, hb, by rw [hk g (by rw [hv]; rfl)]; exact hg, rest⟩
def RetTk (w : World) (b : Nat) (s : ByteArray) (i : Nat) (ts : List Pl) (tb : Int) (x : Lx) (e : Ending) (w' : World) : Prop :=
  e = .returned (.tuple #[]) ∧ Below b w w' ∧ match x with
  | .ok n t => ∃ A c, Bx w' b (mC s ((i + n : Nat) : Int) (.slice A (ts.length + 1) c) 0 ((i + n : Nat) : Int)) ∧ MRow w' b s (ts ++ [⟨i, decide (tb = (i : Int)), t⟩]) A c
  | .bad o c => ∃ lv tb', Bx w' b (mC s ((i + o : Nat) : Int) lv c tb')
section
variable {w : World} {b j i : Nat} {s : ByteArray} {ts : List Pl} {A : Option Addr} {c : Nat} {tb c' : Int}
set_option maxRecDepth 20000 in set_option maxHeartbeats 4000000 in
theorem add_m (h : Bx w b (mC s (j : Int) (.slice A ts.length c) 0 tb)) (hr : MRow w b s ts A c) (hs : s.size ≤ 100000) (hi : i ≤ s.size) (hn : ts.length ≤ 20000) (t : Tk) :
    Calls Tryz.prog 92 #[.pointer (some ⟨b, 0, none⟩), .int .i64 (i : Int), tnL t.k 0 0 t.tx t.v t.n t.s false] w fun e w' => e = .returned (.tuple #[]) ∧ Below b w w' ∧
      ∃ A' c', Bx w' b (mC s (j : Int) (.slice A' (ts.length + 1) c') 0 (j : Int)) ∧ MRow w' b s (ts ++ [⟨i, decide (tb = (i : Int)), t⟩]) A' c' := by
  obtain ⟨iU, hUi, hU0, hU1, hU2⟩ := info_parts infoTok
  have PL := Lib.hid (fun (wx : World) (k lv e tb) (hb : Bx wx b (mC s k lv e tb)) => place_m hb hs i hi)
  have HB := Lib.hid h
  have HR := Lib.hid hr
  have lt0 := h.lt
  obtain ⟨n, hnn⟩ : ∃ n, ts.length = n := ⟨_, rfl⟩
  have hlb := lnc_bd s.data.toList i
  obtain ⟨q, hq⟩ : ∃ q, lnc s.data.toList i = q := ⟨_, rfl⟩
  obtain ⟨la, lb⟩ := q
  rw [hq] at PL
  have HQ := Lib.hid hq
  obtain ⟨v, hv⟩ : ∃ v, (tb == (i : Int)) = v := ⟨_, rfl⟩
  have HV : Hid (decide (tb = (i : Int)) = v) := by unfold Hid; rw [← hv]; by_cases h : tb = (i : Int) <;> simp [h]
  have HN := Lib.hid hnn
  rw [hnn] at HB hn
  have HR2 : Hid (w.ownsRow (b + 1) tT 8 (.slice A n c) n (rowC s.data.toList ts)) := by have := HR.out; unfold MRow at this; rw [hnn] at this; exact this
  clear h hr hlb hq hnn HR
  go_enter Tryz.func92, Tryz.ntmps92
  go_wp2_with fail
  go_at_call 54
  obtain ⟨r, hr⟩ : ∃ r, w.heap.size = r := ⟨_, rfl⟩
  rw [hr]
  refine calls_name (fun wx => Hid (Bx wx b (mC s (j : Int) (.slice A n c) 0 tb)) ∧ Hid (Bx wx r (tkC t.k 0 0 (B t.tx) (B t.v) t.n t.s false)) ∧ Hid (Below r w wx) ∧ Hid (wx.ownsRow (b + 1) tT 8 (.slice A n c) n (rowC s.data.toList ts))) ⟨HB.out.alloc _, Bx.new hr.symm rfl, by rw [← hr]; exact G.alloc (G.refl w) _, own_grow HR2.out (G.alloc (G.refl w) _)⟩ ?_
  have hor : Hid (∀ g, (Value.slice A n c).ownBlock = some g → b + 1 ≤ g ∧ g < r) := by rw [← hr]; exact HR2.out.lt
  clear HB HR2
  rintro w1 ⟨HB, HX, HG, HR⟩
  have hbr : b < r := by omega
  have hbr2 : b ≠ r := by omega
  have hbr3 : r ≠ b := by omega
  have HS := Lib.hid hr
  clear hr lt0
  (with_reducible refine (PL.out _ _ _ _ _ HB.out).mono ?_)
  rintro e1 w2 ⟨rfl, rfl⟩
  obtain ⟨c0, c1, c2, c3, c4⟩ := HB.out.c5
  obtain ⟨f0, f1, f2, f3, f4⟩ := HB.out.f5
  have lt := HB.out.lt
  have d0 := (HX.out.2 0 _ rfl).1
  have d1 := (HX.out.2 1 _ rfl).1
  have d2 := (HX.out.2 2 _ rfl).1
  have d3 := (HX.out.2 3 _ rfl).1
  have d4 := (HX.out.2 4 _ rfl).1
  have d5 := (HX.out.2 5 _ rfl).1
  have d6 := (HX.out.2 6 _ rfl).1
  have d7 := (HX.out.2 7 _ rfl).1
  have g1 := (HX.out.2 1 _ rfl).2
  have g2 := (HX.out.2 2 _ rfl).2
  have g6 := (HX.out.2 7 _ rfl).2
  have ltr := HX.out.lt
  go_upto_region 4 with fail
  refine wp_name (fun wx => Hid (Bx wx b (mC s (j : Int) (.slice A n c) 0 (j : Int))) ∧ Hid (Bx wx r (tkC t.k la lb (B t.tx) (B t.v) t.n t.s v)) ∧ Hid (Below b w wx) ∧ Hid (r ≤ wx.heap.size) ∧ Hid (wx.ownsRow (b + 1) tT 8 (.slice A n c) n (rowC s.data.toList ts))) ?_ ?_
  · refine ⟨(((HB.out.other (p := ⟨r, 1, none⟩) hbr2 _).other (p := ⟨r, 2, none⟩) hbr2 _).other (p := ⟨r, 7, none⟩) hbr2 _).put rfl, (((HX.out.put (i := 1) (v := .int .i64 la) rfl).put (i := 2) (v := .int .i64 lb) rfl).put (i := 7) (v := .bool v) rfl).other (p := ⟨b, 4, none⟩) hbr3 _, ?_, ?_, ?_⟩
    · exact ((((HG.out.mono (Nat.le_of_lt hbr)).setCell (p := ⟨r, 1, none⟩) (Nat.le_of_lt hbr) _).setCell (p := ⟨r, 2, none⟩) (Nat.le_of_lt hbr) _).setCell (p := ⟨r, 7, none⟩) (Nat.le_of_lt hbr) _).setCell (p := ⟨b, 4, none⟩) (Nat.le_refl b) _
    · have := HG.out.size
      unfold Hid
      simp only [World.size_setCell]
      have := HS.out
      omega
    · refine own_blk HR.out fun g hg => ?_
      have h1 := hor.out g hg
      rw [Below.heap_setCell _ _ _ _ (by show g ≠ b; omega), Below.heap_setCell _ _ _ _ (by show g ≠ r; omega), Below.heap_setCell _ _ _ _ (by show g ≠ r; omega), Below.heap_setCell _ _ _ _ (by show g ≠ r; omega)]
  clear HB HX HG HR c0 c1 c2 c3 c4 f0 f1 f2 f3 f4 lt d0 d1 d2 d3 d4 d5 d6 d7 g1 g2 g6 ltr
  rintro w3 ⟨HB, HX, HG, hrs, HR⟩
  obtain ⟨c0, c1, c2, c3, c4⟩ := HB.out.c5
  obtain ⟨f0, f1, f2, f3, f4⟩ := HB.out.f5
  have lt := HB.out.lt
  obtain ⟨d0, d1, d2, d3, d4, d5, d6, d7⟩ := HX.out.c8
  have ltr := HX.out.lt
  have hT : Hid (rowC s.data.toList ts ++ tkC t.k la lb (B t.tx) (B t.v) t.n t.s v = rowC s.data.toList (ts ++ [⟨i, decide (tb = (i : Int)), t⟩])) := by
    unfold Hid
    rw [rowC_app]
    unfold plC
    rw [HQ.out, HV.out]
  have hob := HR.out.lt
  refine wp_region_ord [(0, 0), (1, 1), (2, 1), (3, 1), (4, 1), (5, 1), (6, 2), (7, 3), (8, 0), (9, 0), (10, 3)] [7, 10] 5 (by kernel_rfl) (by decide +kernel) ?_
  simp only [pickO, List.append_eq, List.cons_append, List.nil_append, List.getElem?_cons_succ, List.getElem?_cons_zero]
  intro w0 hG
  (repeat ((first | (with_reducible refine ord_q1 ?_) | (with_reducible refine ord_q0 ?_)); intro K hK; first | (refine Or.inr ⟨?_, ?_⟩; (focus (go_simp; first | done | (simp [undef]; done))); go_simp; (with_reducible refine hK _ ?_); clear hK K) | (refine Or.inl ⟨?_, ?_⟩; (focus (go_simp; done)); apply Exists.intro; refine And.intro ?_ ?_; (focus (first | (intro wq hq; obtain ⟨hcq, hfq⟩ := G.old hq; go_simp; (first | done | exact rfl); done) | (intro wq; go_simp; (first | done | exact rfl); done))); go_simp; (with_reducible refine hK _ ?_); clear hK K) | fail))
  have hG0 := hG.b
  have hs0 := hG0.size
  (with_reducible refine ord_run ?_ hG)
  intro K hK
  go_simp
  replace hG := Grew.alloc hG (.cells #[.int .i64 t.k, .int .i64 la, .int .i64 lb, .string (B t.tx), .string (B t.v), .int .i64 t.n, .int .i64 t.s, .bool v] 33)
  (with_reducible refine hK _ _ hG ?_)
  clear hK K
  (repeat ((first | (with_reducible refine ord_q1 ?_) | (with_reducible refine ord_q0 ?_)); intro K hK; first | (refine Or.inr ⟨?_, ?_⟩; (focus (go_simp; first | done | (simp [undef]; done))); go_simp; (with_reducible refine hK _ ?_); clear hK K) | (refine Or.inl ⟨?_, ?_⟩; (focus (go_simp; done)); apply Exists.intro; refine And.intro ?_ ?_; (focus (first | (intro wq hq; obtain ⟨hcq, hfq⟩ := G.old hq; go_simp; (first | done | exact rfl); done) | (intro wq; go_simp; (first | done | exact rfl); done))); go_simp; (with_reducible refine hK _ ?_); clear hK K) | fail))
  (with_reducible refine ord_tail ?_); intro K hK
  refine step_appB rfl (.tmp 32) (.tmp 34) _ rfl (b + 1) 33 iU _ 8 80 Tryz.underlying23 hUi hU0 hU1 hU2 rfl (by decide) _ n _ rfl (own_grow HR.out hG.b) (some ⟨w0.heap.size, 0, none⟩) 1 1 (tkC t.k la lb (B t.tx) (B t.v) t.n t.s v) rfl (Sl.new rfl rfl) (tkC_one _ _ _ _ _ _ _ _) (by show _ ≤ 2 ^ 63 - 1; omega) (by omega) (by have := HB.out.lt; simp; omega) ?_
  intro A3 cc3 w5 hown5 hc5 hm5 hg5 hob5
  rw [hT.out] at hown5
  refine name_k (fun wx => Hid (Bx wx b (mC s (j : Int) (.slice A n c) 0 (j : Int))) ∧ Hid (Below b w wx) ∧ Hid (wx.ownsRow (b + 1) tT 8 (.slice A3 (n + 1) cc3) (n + 1) (rowC s.data.toList (ts ++ [Pl.mk i (decide (tb = (i : Int))) t])))) ⟨((HB.out.grow hG0).alloc _).grown hg5 (fun e => by have := (hob _ e).1; omega), ((HG.out.trans (hG0.mono (Nat.le_of_lt HB.out.lt))).alloc (by have := HB.out.lt; omega) _).grown hg5 (by have := HB.out.lt; simp; omega) (fun k hk => by have := (hob _ hk).1; omega), Lib.hid hown5⟩ ?_
  clear HB HG HR HX hown5 hc5 hm5 hg5 hob5 hob hG hG0 hs0 c0 c1 c2 c3 c4 f0 f1 f2 f3 f4 lt d0 d1 d2 d3 d4 d5 d6 d7 ltr
  rintro w8 ⟨HB, HG, HR⟩
  obtain ⟨c0, c1, c2, c3, c4⟩ := HB.out.c5
  obtain ⟨f0, f1, f2, f3, f4⟩ := HB.out.f5
  have lt := HB.out.lt
  (with_reducible refine hK _ _ ?_); clear hK K
  (repeat ((first | (with_reducible refine ord_q1 ?_) | (with_reducible refine ord_q0 ?_)); intro K hK; first | (refine Or.inr ⟨?_, ?_⟩; (focus (go_simp; first | done | (simp [undef]; done))); go_simp; (with_reducible refine hK _ ?_); clear hK K) | (refine Or.inl ⟨?_, ?_⟩; (focus (go_simp; done)); apply Exists.intro; refine And.intro ?_ ?_; (focus (first | (intro wq hq; obtain ⟨hcq, hfq⟩ := G.old hq; go_simp; (first | done | exact rfl); done) | (intro wq; go_simp; (first | done | exact rfl); done))); go_simp; (with_reducible refine hK _ ?_); clear hK K) | fail))
  ((with_reducible refine ord_tail ?_); intro K hK; go_simp; (with_reducible refine hK _ _ ?_); clear hK K)
  (with_reducible refine ord_nil ?_)
  go_wp2_with fail
  (first | go_end0 | refine bodyPost_ret (results_none rfl _ _ _) rfl ?_)
  refine ⟨rfl, HG.out.setCell (p := ⟨b, 2, none⟩) (Nat.le_refl b) _, A3, cc3, ?_, ?_⟩
  · rw [HN.out]
    exact HB.out.put rfl
  · unfold MRow
    rw [List.length_append, HN.out]
    exact own_keep HR.out ((Keeps.refl _ _).setCell (p := ⟨b, 2, none⟩) (show ¬ b + 1 ≤ b by omega) _)
set_option maxRecDepth 20000 in set_option maxHeartbeats 400000 in
theorem value_bad (h : Bx w b (mC s (j : Int) (.slice A ts.length c) c' tb)) (hc' : c' ≠ 0) (k ln cl : Int) (x v : List UInt8) (n q : Int) (u : Bool) (i : Int) :
    Calls Tryz.prog 88 #[.pointer (some ⟨b, 0, none⟩), .int .i64 i, tnL k ln cl x v n q u] w fun e w' => e = .returned (.tuple #[]) ∧ Below w.heap.size w w' := by
  have kc : (c' != 0) = true := by simp [hc']
  obtain ⟨c0, c1, c2, c3, c4⟩ := h.c5
  have lt := h.lt
  clear h hc'
  go_enter Tryz.func88, Tryz.ntmps88
  go_wp2_with fail
  (first | go_end0 | refine bodyPost_ret (results_none rfl _ _ _) rfl ?_)
  exact ⟨rfl, G.alloc (G.refl w) _⟩
set_option maxRecDepth 20000 in set_option maxHeartbeats 1000000 in
theorem value_long (h : Bx w b (mC s (j : Int) (.slice A ts.length c) 0 tb)) (k ln cl : Int) (x v : List UInt8) (hv : 1024 < v.length) (n q : Int) (u : Bool) (i : Int) :
    Calls Tryz.prog 88 #[.pointer (some ⟨b, 0, none⟩), .int .i64 i, tnL k ln cl x v n q u] w fun e w' => e = .returned (.tuple #[]) ∧ Below b w w' ∧ Bx w' b (mC s i (.slice A ts.length c) 5 tb) := by
  obtain ⟨m, hm⟩ : ∃ m, v.length = m := ⟨_, rfl⟩
  have y0 : (B v).size = m := by rw [B_size, hm]
  have l0 : (1024 : Int) < (m : Int) := by omega
  have HB := Lib.hid h
  obtain ⟨c0, c1, c2, c3, c4⟩ := h.c5
  have lt := h.lt
  clear h hm hv
  go_enter Tryz.func88, Tryz.ntmps88
  go_wp2_with fail
  go_at_call 55
  (with_reducible refine (fail_m (HB.out.alloc _) _ _).mono ?_)
  rintro e1 w2 ⟨rfl, hb2, hc2⟩
  go_wp2_with fail
  (first | go_end0 | refine bodyPost_ret (results_none rfl _ _ _) rfl ?_)
  exact ⟨rfl, (((G.refl w).mono (Nat.le_of_lt HB.out.lt)).alloc (Nat.le_of_lt HB.out.lt) _).trans (hc2.bel (by have := HB.out.lt; simp; omega)), hb2⟩
set_option maxRecDepth 20000 in set_option maxHeartbeats 1000000 in
theorem value_ok (h : Bx w b (mC s (j : Int) (.slice A ts.length c) 0 tb)) (hr : MRow w b s ts A c) (hs : s.size ≤ 100000) (hi : i ≤ s.size) (hn : ts.length ≤ 20000) (t : Tk) (hv : t.v.length ≤ 1024) :
    Calls Tryz.prog 88 #[.pointer (some ⟨b, 0, none⟩), .int .i64 (i : Int), tnL t.k 0 0 t.tx t.v t.n t.s false] w fun e w' => e = .returned (.tuple #[]) ∧ Below b w w' ∧
      ∃ A' c', Bx w' b (mC s (j : Int) (.slice A' (ts.length + 1) c') 0 (j : Int)) ∧ MRow w' b s (ts ++ [⟨i, decide (tb = (i : Int)), t⟩]) A' c' := by
  obtain ⟨m, hm⟩ : ∃ m, t.v.length = m := ⟨_, rfl⟩
  have y0 : (B t.v).size = m := by rw [B_size, hm]
  have l0 : ¬ (1024 : Int) < (m : Int) := by omega
  have HB := Lib.hid h
  have HR := Lib.hid hr
  obtain ⟨c0, c1, c2, c3, c4⟩ := h.c5
  have lt := h.lt
  clear h hm hv hr
  go_enter Tryz.func88, Tryz.ntmps88
  go_wp2_with fail
  go_at_call 92
  (with_reducible refine (add_m (HB.out.alloc _) (HR.out.grow (G.alloc (G.refl w) _)) hs hi hn t).mono ?_)
  rintro e1 w2 ⟨rfl, hb2, A2, cc2, hb3, hr3⟩
  go_wp2_with fail
  (first | go_end0 | refine bodyPost_ret (results_none rfl _ _ _) rfl ?_)
  exact ⟨rfl, (((G.refl w).mono (Nat.le_of_lt HB.out.lt)).alloc (Nat.le_of_lt HB.out.lt) _).trans hb2, A2, cc2, hb3, hr3⟩
end
end Go.Proofs.YtmchiibbodllaaaGreatDoor
