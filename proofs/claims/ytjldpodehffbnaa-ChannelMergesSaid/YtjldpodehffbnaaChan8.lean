/- Items. -/
import Derived.Test.YtjldpodehffbnaaChan3
namespace Go.Proofs.Ytjldpodehffbnaa
set_option linter.unusedVariables false
set_option linter.unnecessarySimpa false
set_option linter.unusedSimpArgs false
open Go.RowKit

theorem ItemV.appended {L : Nat} {v v' : Value} {w w' : World} {cs : List Value} {it : It} (h : ItemV (Beside L v) w cs it) (hg : w.grownBy w' v.ownBlock) (hob : v'.ownBlock = v.ownBlock ∨ v'.ownBlock = some w.heap.size) : ItemV (Beside L v') w' cs it :=
  ((h.mono (ok' := fun b => Beside L v b ∧ Beside L v' b) fun b hb ho => ⟨ho, Tree.beside_later hob hb ho⟩).keep ((Keeps.refl _ _).grown hg fun k hk => .inr fun hx => hx.1.2 hk)).mono fun b _ h => h.2
/-- A list of items of the call's own has come back. -/
def RetIs (its : List It) (w : World) (e : Ending) (w' : World) : Prop :=
  ∃ A c xs, e = .returned (.slice A its.length c) ∧ Rw (From w.heap.size) w' 11 A its.length c xs ∧ (∀ j it, its[j]? = some it → ItemV (From w.heap.size) w' ((xs.drop (j * 11)).take 11) it) ∧ Below w.heap.size w w'
set_option maxRecDepth 20000 in set_option maxHeartbeats 2000000 in
theorem items_any {ok : Nat → Prop} {w : World} {b r : Nat} {c : Ch} (h : ChanAt ok w b r c) :
    Calls Try.prog 40 #[.pointer (some ⟨b, 0, none⟩)] w (RetIs c.items w) := by
  have hC := Lib.hid h
  obtain ⟨i0, hi0, hz0, hz1, hz2⟩ := info_parts Try.infoI33
  obtain ⟨first, ring, A, B, n, cc, m, d, hI⟩ := h
  have hfc := hI.2.2.2.2.2.1
  have hlc := hI.2.2.2.2.2.2.1
  have hc4 := hI.2.2.2.2.2.2.2.1
  have HI := Lib.hid hI
  clear hI
  go_enter Try.func40, Try.ntmps40
  go_wp2_with (go_at_call 21; (with_reducible refine (len_any hC.out).mono ?_); rintro e1 w1 ⟨rfl, hw1⟩; subst hw1)
  go_loopw [3, 7] (fun ov iv wr => ∃ (j : Nat) (A' : Option Addr) (c' : Nat) (zs : List Value), j ≤ c.items.length ∧ iv = .int .i64 j ∧ ov = .slice A' j c' ∧ wr.ownsRow w1.heap.size 33 11 (.slice A' j c') j zs ∧ Hid (∀ q it, q < j → c.items[q]? = some it → ItemV (Beside w1.heap.size (.slice A' j c')) wr ((zs.drop (q * 11)).take 11) it) ∧ Below w1.heap.size w1 wr) (fun _ iv _ => c.items.length - (intOf iv).toNat)
  case atStart => exact ⟨0, none, 0, [], Nat.zero_le _, rfl, rfl, World.ownsRow_nil _ _ _ _, fun q it hq => absurd hq (by omega), G.refl _⟩
  case round =>
    obtain ⟨j, A', c', zs, hj, rfl, rfl, hown, htr, hbr⟩ := hrel
    by_cases hlt : j < c.items.length
    · obtain ⟨it, hit⟩ : ∃ it, c.items[j]? = some it := ⟨_, List.getElem?_eq_getElem hlt⟩
      have hIr := HI.out.grow hbr
      have hiv := hIr.2.2.2.2.2.2.2.2.2.2.2.1 j it hit
      obtain ⟨F, hF⟩ : ∃ F, (first + j) % c.cap = F := ⟨_, rfl⟩
      have hFl : F < c.cap := by rw [← hF]; exact Nat.mod_lt _ (by omega)
      have hmod : Int.tmod ((first : Int) + (j : Int)) (c.cap : Int) = (F : Int) := by rw [← hF]; rfl
      rw [hF] at hiv
      have hch := hIr.2.1.chunk F
      obtain ⟨z0, A5, n5, c5', z1, A6, n6, c6', z2, z3, z4, z5, A7, n7, c7', A8, n8, c8', A9, n9, c9', he⟩ := item_cells hiv
      rw [he] at hiv hch
      have e0 : wr.cell? ⟨r, F * 11, none⟩ = _ := hch 0 _ rfl
      have e1 := hch 1 _ rfl
      have e2 := hch 2 _ rfl
      have e3 := hch 3 _ rfl
      have e4 := hch 4 _ rfl
      have e5 := hch 5 _ rfl
      have e6 := hch 6 _ rfl
      have e7 := hch 7 _ rfl
      have e8 := hch 8 _ rfl
      have e9 := hch 9 _ rfl
      have e10 := hch 10 _ rfl
      have k0 := (hIr.1.2 0 _ rfl).1
      have k1 := (hIr.1.2 1 _ rfl).1
      have ltb := hIr.1.lt
      have ltr := hIr.2.1.lt
      have hc0 : ¬ c.cap = 0 := by omega
      have hw1 : IntKind.i64.wrap ((first : Int) + (j : Int)) = (first : Int) + (j : Int) := IntWalk.i64_in _ (by omega)
      have hw2 : IntKind.i64.wrap (F : Int) = (F : Int) := IntWalk.i64_in _ (by omega)
      have hF0 : (0 : Int) ≤ (F : Int) := by omega
      have hF1 : (F : Int) < (c.cap : Int) := by omega
      replace hiv := Lib.hid hiv
      replace hit := Lib.hid hit
      have hol := Lib.hid fun q hq => hown.lt q hq
      have hz := hown.1
      clear hF hch he hIr
      go_wp2_with fail
      refine wp_region_ord [(0, 1), (1, 1), (2, 1), (3, 1), (4, 1), (5, 1), (6, 1), (7, 1), (8, 1), (9, 1), (10, 1), (11, 1), (12, 1), (13, 1), (14, 1), (15, 1), (16, 1), (17, 1), (18, 1), (19, 2), (20, 2), (21, 3), (22, 0)] [21] 12 (by kernel_rfl) (by decide +kernel) ?_
      simp only [pickO, List.append_eq, List.cons_append, List.nil_append, List.getElem?_cons_succ, List.getElem?_cons_zero]
      intro w0 hG
      (repeat ((first | (with_reducible refine ord_q1 ?_) | (with_reducible refine ord_q0 ?_)); intro K hK; first | (refine Or.inr ⟨?_, ?_⟩; (focus (go_simp; first | done | (simp [undef]; done))); go_simp; (with_reducible refine hK _ ?_); clear hK K) | (refine Or.inl ⟨?_, ?_⟩; (focus (go_simp; done)); apply Exists.intro; refine And.intro ?_ ?_; (focus (first | (intro wq hq; obtain ⟨hcq, hfq⟩ := G.old hq; go_simp; (first | done | exact rfl); done) | (intro wq; go_simp; (first | done | exact rfl); done))); go_simp; (with_reducible refine hK _ ?_); clear hK K) | fail))
      have hs0 := hG.b.size
      (with_reducible refine ord_run ?_ hG)
      intro K hK
      go_simp
      go_at_call 46; (with_reducible refine (cloneI_any (hiv.out.grow hG.b)).mono ?_); rintro e' w2 ⟨cs2, rfl, hi2, hb2⟩; obtain ⟨y0, A15, n15, c15', y1, A16, n16, c16', y2, y3, y4, y5, A17, n17, c17', A18, n18, c18', A19, n19, c19', rfl⟩ := item_cells hi2; replace hi2 := Lib.hid hi2
      replace hG := Grew.trans hG hb2
      (try dsimp only)
      (with_reducible refine hK _ _ hG ?_)
      clear hK K
      (repeat ((first | (with_reducible refine ord_q1 ?_) | (with_reducible refine ord_q0 ?_)); intro K hK; first | (refine Or.inr ⟨?_, ?_⟩; (focus (go_simp; first | done | (simp [undef]; done))); go_simp; (with_reducible refine hK _ ?_); clear hK K) | (refine Or.inl ⟨?_, ?_⟩; (focus (go_simp; done)); apply Exists.intro; refine And.intro ?_ ?_; (focus (first | (intro wq hq; obtain ⟨hcq, hfq⟩ := G.old hq; go_simp; (first | done | exact rfl); done) | (intro wq; go_simp; (first | done | exact rfl); done))); go_simp; (with_reducible refine hK _ ?_); clear hK K) | fail))
      have hbw2 := hG.b
      (with_reducible refine ord_run ?_ hG)
      intro K hK
      go_simp
      replace hG := Grew.alloc hG (.cells #[.int .i64 y0, .slice A15 n15 c15', .int .i64 y1, .slice A16 n16 c16', .int .i64 y2, .int .i64 y3, .int .i64 y4, .string y5, .slice A17 n17 c17', .slice A18 n18 c18', .slice A19 n19 c19'] 33)
      (with_reducible refine hK _ _ hG ?_)
      clear hK K
      (repeat ((first | (with_reducible refine ord_q1 ?_) | (with_reducible refine ord_q0 ?_)); intro K hK; first | (refine Or.inr ⟨?_, ?_⟩; (focus (go_simp; first | done | (simp [undef]; done))); go_simp; (with_reducible refine hK _ ?_); clear hK K) | (refine Or.inl ⟨?_, ?_⟩; (focus (go_simp; done)); apply Exists.intro; refine And.intro ?_ ?_; (focus (first | (intro wq hq; obtain ⟨hcq, hfq⟩ := G.old hq; go_simp; (first | done | exact rfl); done) | (intro wq; go_simp; (first | done | exact rfl); done))); go_simp; (with_reducible refine hK _ ?_); clear hK K) | fail))
      have hown2 := own_grow hown hbw2
      have hs2 := hbw2.size
      have hsr := hbr.size
      have hin : ItemV (Beside w1.heap.size (.slice A' j c')) w2 [.int .i64 y0, .slice A15 n15 c15', .int .i64 y1, .slice A16 n16 c16', .int .i64 y2, .int .i64 y3, .int .i64 y4, .string y5, .slice A17 n17 c17', .slice A18 n18 c18', .slice A19 n19 c19'] it := hi2.out.mono fun q _ (hq : w0.heap.size ≤ q) => ⟨by omega, fun e => by have := (hol.out q e).2; omega⟩
      replace hin := Lib.hid hin
      (with_reducible refine ord_tail ?_); intro K hK
      refine step_appB rfl (.tmp 10) (.tmp 30) _ rfl w1.heap.size 33 i0 _ 11 176 Try.underlying79 hi0 hz0 hz1 hz2 rfl (by decide) (.slice A' j c') j zs rfl (hown2.alloc _) (some ⟨w2.heap.size, 0, none⟩) 1 1 [.int .i64 y0, .slice A15 n15 c15', .int .i64 y1, .slice A16 n16 c16', .int .i64 y2, .int .i64 y3, .int .i64 y4, .string y5, .slice A17 n17 c17', .slice A18 n18 c18', .slice A19 n19 c19'] rfl (Sl.new rfl rfl) (by simp [Value.oneCell']) (by show _ ≤ 2 ^ 63 - 1; omega) (by omega) (by simp; omega) ?_
      intro A20 c20 w5 hown5 hc5 hm5 hg5 hob5
      have hb5 : Below w1.heap.size w1 w5 := Below.grown ((hbr.trans (hbw2.mono hsr)).alloc (by omega) _) hg5 (by simp; omega) (fun q hq => (hol.out q hq).1)
      have htr5 : Hid (∀ q it, q < j + 1 → c.items[q]? = some it → ItemV (Beside w1.heap.size (.slice A20 (j + 1) c20)) w5 (((zs ++ ([.int .i64 y0, .slice A15 n15 c15', .int .i64 y1, .slice A16 n16 c16', .int .i64 y2, .int .i64 y3, .int .i64 y4, .string y5, .slice A17 n17 c17', .slice A18 n18 c18', .slice A19 n19 c19'] : List Value)).drop (q * 11)).take 11) it) := by
        intro q it' hq hqi
        rcases Nat.lt_or_ge q j with hqj | hqj
        · rw [chunk_old hz hqj]
          exact (((htr.out q it' hqj hqi).grow hbw2).grow (G.alloc (G.refl _) _)).appended hg5 hob5
        · obtain rfl : q = j := by omega
          rw [hit.out] at hqi
          cases hqi
          rw [chunk_new hz rfl]
          exact ((hin.out).grow (G.alloc (G.refl _) _)).appended hg5 hob5
      (with_reducible refine hK _ _ ?_); clear hK K
      (repeat ((first | (with_reducible refine ord_q1 ?_) | (with_reducible refine ord_q0 ?_)); intro K hK; first | (refine Or.inr ⟨?_, ?_⟩; (focus (go_simp; first | done | (simp [undef]; done))); go_simp; (with_reducible refine hK _ ?_); clear hK K) | (refine Or.inl ⟨?_, ?_⟩; (focus (go_simp; done)); apply Exists.intro; refine And.intro ?_ ?_; (focus (first | (intro wq hq; obtain ⟨hcq, hfq⟩ := G.old hq; go_simp; (first | done | exact rfl); done) | (intro wq; go_simp; (first | done | exact rfl); done))); go_simp; (with_reducible refine hK _ ?_); clear hK K) | fail))
      (with_reducible refine ord_nil ?_)
      go_wp2_with fail
      go_roundw
      case rel => exact ⟨j + 1, A20, c20, _, by omega, by go_num, rfl, hown5, htr5.out, hb5⟩
      case measure => simp [intOf]; omega
    · have hjn : j = c.items.length := by omega
      go_wp2
      go_ret
      have hr := (Rw.of_own hown)
      rw [hjn] at hr ⊢
      exact ⟨A', c', zs, rfl, hr, fun q it hq => (htr.out q it (by have := (List.getElem?_eq_some_iff.1 hq).1; omega) hq).mono fun x _ hx => hx.1, hbr⟩
end Go.Proofs.Ytjldpodehffbnaa
