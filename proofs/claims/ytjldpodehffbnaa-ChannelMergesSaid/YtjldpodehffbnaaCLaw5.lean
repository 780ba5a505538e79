/- ChannelWaits returns true. -/
import Derived.Test.YtjldpodehffbnaaPlay2
import Derived.Test.YtjldpodehffbnaaCLaw2
import Derived.Test.YtjldpodehffbnaaChan5
namespace Go.Proofs.Ytjldpodehffbnaa
set_option linter.unusedVariables false
set_option linter.unnecessarySimpa false
set_option linter.unusedSimpArgs false
open Go.RowKit

theorem next_true {l : List CP} {k : Int} (h : nextC l = (k, true)) : ∃ (j : Nat) (b r : Nat) (c : Ch), k = j ∧ l[j]? = some (some (b, r, c)) ∧ 0 < c.items.length ∧ ∀ b' r' c', some (b', r', c') ∈ l → 0 ≤ cmpS (leE c') (leP c') (leE c) (leP c) := by
  unfold nextC at h
  rcases hb : bestO l l.length with _ | ⟨j, c⟩
  · rw [hb] at h; cases h
  · rw [hb] at h
    dsimp only at h
    split at h
    · cases h
    · rename_i han
      obtain ⟨h1, ⟨b, r, h2⟩, h3⟩ := bestO_at l _ hb
      refine ⟨j, b, r, c, by cases h; rfl, h2, h3, fun b' r' c' hm => ?_⟩
      rcases Int.lt_or_le (cmpS (leE c') (leP c') (leE c) (leP c)) 0 with hl | hl
      · exfalso
        exact han (List.any_eq_true.2 ⟨_, hm, decide_eq_true hl⟩)
      · exact hl
section
variable {ok : Nat → Prop} {L : Nat} {w w' : World} {prs l1 l2 : List PRec} {A1 A2 : Option Addr} {n1 n2 q1 q2 : Nat}
theorem ChW.rec (h : ChW ok L w prs l1 l2 A1 n1 q1 A2 n2 q2) {p : PRec} (hp : p ∈ prs) : PRecW (okS (ok2 ok (.slice A1 n1 q1) (.slice A2 n2 q2)) prs) L w p := h.1.1 p hp
theorem ChW.chans (h : ChW ok L w prs l1 l2 A1 n1 q1 A2 n2 q2) : ChansAt (okS (ok2 ok (.slice A1 n1 q1) (.slice A2 n2 q2)) prs) w (cps prs) := fun b r c hm => by
  unfold cps at hm
  rw [List.mem_map] at hm
  obtain ⟨p, hp, he⟩ := hm
  cases he
  exact (h.rec hp).1
theorem ChW.row1 (h : ChW ok L w prs l1 l2 A1 n1 q1 A2 n2 q2) : Sl w A1 n1 (chs (cps l1)) := by
  have := Sl.of_own h.2.1.1
  rwa [Nat.mul_one] at this
theorem ChW.row2 (h : ChW ok L w prs l1 l2 A1 n1 q1 A2 n2 q2) : Sl w A2 n2 (mps l2) := by
  have := Sl.of_own h.2.1.2
  rwa [Nat.mul_one] at this
theorem ChW.mods (h : ChW ok L w prs l1 l2 A1 n1 q1 A2 n2 q2) : ∀ p ∈ prs, ModR (okS (ok2 ok (.slice A1 n1 q1) (.slice A2 n2 q2)) prs) L w p.mb p.c p.A := fun p hp => (h.rec hp).2.1
/-- The blocks that no channel's operation writes. -/
def okK (prs : List PRec) : Nat → Prop := fun x => ∀ p ∈ prs, x ≠ p.b ∧ x ≠ p.r
theorem ChW.rowK (h : ChW ok L w prs l1 l2 A1 n1 q1 A2 n2 q2) : OkA (okK prs) A1 := fun ad e p hp => by
  subst e
  have h1 := h.2.2.1 p hp _ (.inl rfl)
  have h2 := h.2.2.1 p hp _ (.inr (.inl rfl))
  exact ⟨fun e => h1.1 (by rw [← e]; rfl), fun e => h2.1 (by rw [← e]; rfl)⟩
theorem Chg.keepK {p : PRec} (hp : p ∈ prs) (h : Chg p.b p.r w w') : Keeps (okK prs) w w' := h.2.mono fun x hx => hx p hp
end
theorem cps_mem {l : List PRec} {p : PRec} (h : p ∈ l) : some (p.b, p.r, p.c) ∈ cps l := by unfold cps; exact List.mem_map_of_mem (f := PRec.cp) h
theorem cps_get' {l : List PRec} {k b r : Nat} {c : Ch} (h : (cps l)[k]? = some (some (b, r, c))) : ∃ p, l[k]? = some p ∧ p.b = b ∧ p.r = r ∧ p.c = c := by
  unfold cps at h
  rw [List.getElem?_map] at h
  rcases hp : l[k]? with _ | p
  · rw [hp] at h; cases h
  · rw [hp] at h
    cases h
    exact ⟨p, rfl, rfl, rfl, rfl⟩
theorem put_ge {k : Int} {c c' : Ch} {it : It} (h : putC k c it = (0, c')) : 0 ≤ cmpS it.e it.p c.me c.mp := by
  unfold putC at h
  split at h
  · rename_i hk; cases h; exact absurd rfl hk
  · split at h
    · cases h
    · rename_i hor
      exact Int.not_lt.1 fun hh => hor (.inl hh)
theorem Chg.of_grow {b r : Nat} {w w1 w2 : World} (h : Chg b r w1 w2) (hb : Below w.heap.size w w1) : Chg b r w w2 := (Chg.of_below hb).trans h
set_option maxRecDepth 20000 in set_option maxHeartbeats 4000000 in
theorem channelWaits_any {w : World} {A : Option Addr} {n c : Nat} {ps : List (Nat × List (Int × It))} (h : ∃ xs, PlaysV (fun _ => True) w A n c xs ps) {cs : List Value} {it : It} (hx : ItemV (fun _ => True) w cs it) :
    Calls Try.prog 8 #[.slice A n c, .agg cs.toArray] w fun e w' => e = .returned (.bool true) ∧ Below w.heap.size w w' := by
  obtain ⟨z0, A5, n5, c5', z1, A6, n6, c6', z2, z3, z4, z5, A7, n7, c7', A8, n8, c8', A9, n9, c9', rfl⟩ := item_cells hx
  obtain ⟨xs, h⟩ := h
  have hnn := h.2.1
  have H := Lib.hid h
  have HX := Lib.hid hx
  clear h hx
  go_enter Try.func8, Try.ntmps8
  go_wp2_with fail
  refine (known_any _).mono ?_
  rintro e1 w1 ⟨rfl, hb1⟩
  have x1 : Bx w1 w.heap.size [.int .i64 z0, .slice A5 n5 c5', .int .i64 z1, .slice A6 n6 c6', .int .i64 z2, .int .i64 z3, .int .i64 z4, .string z5, .slice A7 n7 c7', .slice A8 n8 c8', .slice A9 n9 c9'] := Bx.grow (by repeat (first | with_reducible assumption | (with_reducible exact Bx.new (by simp; done) (by rfl)) | (with_reducible refine Bx.alloc ?_ _) | (with_reducible refine Bx.drewN ?_ _) | ((with_reducible apply Bx.put); rotate_right; (first | rfl | skip)) | (with_reducible refine Bx.other ?_ (by first | (simp; done) | (simp; omega)) _))) hb1
  have hbw1 : Below w.heap.size w w1 := G.trans (by repeat (first | with_reducible assumption | with_reducible exact G.refl _ | with_reducible refine G.drew ?_ | with_reducible refine G.drewN ?_ _ | with_reducible refine G.alloc ?_ _ | with_reducible refine Below.setCell ?_ (by first | (simp; done) | (simp; omega)) _ | with_reducible refine G.trans ?_ hb12 | with_reducible refine G.trans ?_ hb11 | with_reducible refine G.trans ?_ hb10 | with_reducible refine G.trans ?_ hb9 | with_reducible refine G.trans ?_ hb8 | with_reducible refine G.trans ?_ hb7 | with_reducible refine G.trans ?_ hb6 | with_reducible refine G.trans ?_ hb5 | with_reducible refine G.trans ?_ hb4 | with_reducible refine G.trans ?_ hb3 | with_reducible refine G.trans ?_ hb2 | with_reducible refine G.trans ?_ hb1 | with_reducible refine G.trans ?_ hb | assumption)) hb1
  clear hb1
  go_wp2_with fail
  refine (fine_any (H.out.grow hbw1)).mono ?_
  rintro e2 w2 ⟨rfl, hb2⟩
  have hbw2 := G.trans hbw1 hb2
  replace x1 := x1.grow hb2
  rcases hfi : fineL ps with _ | _
  · replace hfi := Lib.hid hfi
    go_wp2_with fail
    refine (known_any _).mono ?_
    rintro e3 w3 ⟨rfl, hb3⟩
    go_wp2_with fail
    go_ret
    exact ⟨rfl, G.trans hbw2 hb3⟩
  have hn6 : n ≤ 6 := by have := fine_len hfi; rw [hnn] at this; exact this
  have hall : Hid (∀ p ∈ ps, smallL p.2 = true) := fun p hp => by
    obtain ⟨k, hk⟩ := List.getElem?_of_mem hp
    exact fine_all hfi (j := k) (k := p.1) (ops := p.2) hk
  obtain ⟨c0, c1, c2, c3, c4, c5, c6, c7, c8, c9, c10⟩ := x1.c11
  have HX2 := Lib.hid (HX.out.grow hbw2)
  replace hfi := Lib.hid hfi
  clear hb2
  go_wp2_with fail
  refine (small_any (ops_one rfl HX2.out trivial rfl)).mono ?_
  rw [smallL_one]
  rintro e3 w3 ⟨rfl, hb3⟩
  have hb23 : Below w2.heap.size w2 w3 := G.trans (by repeat (first | with_reducible assumption | with_reducible exact G.refl _ | with_reducible refine G.drew ?_ | with_reducible refine G.drewN ?_ _ | with_reducible refine G.alloc ?_ _ | with_reducible refine Below.setCell ?_ (by first | (simp; done) | (simp; omega)) _ | with_reducible refine G.trans ?_ hb12 | with_reducible refine G.trans ?_ hb11 | with_reducible refine G.trans ?_ hb10 | with_reducible refine G.trans ?_ hb9 | with_reducible refine G.trans ?_ hb8 | with_reducible refine G.trans ?_ hb7 | with_reducible refine G.trans ?_ hb6 | with_reducible refine G.trans ?_ hb5 | with_reducible refine G.trans ?_ hb4 | with_reducible refine G.trans ?_ hb3 | with_reducible refine G.trans ?_ hb2 | with_reducible refine G.trans ?_ hb1 | with_reducible refine G.trans ?_ hb | assumption)) hb3
  have hbw3 := G.trans hbw2 hb23
  have x3 := Lib.hid (x1.grow hb23)
  clear hb3 hb23 c0 c1 c2 c3 c4 c5 c6 c7 c8 c9 c10 x1
  rcases smallI it with _ | _
  · go_wp2_with fail
    refine (known_any _).mono ?_
    rintro e4 w4 ⟨rfl, hb4⟩
    go_wp2_with fail
    go_ret
    exact ⟨rfl, G.trans hbw3 hb4⟩
  go_wp2_with fail
  refine (channels_any (H.out.grow hbw3) hall.out hn6 (fun _ _ => trivial)).mono ?_
  rintro e4 w4 ⟨A1, q1, A2, q2, prs, rfl, hC4, hpl, hM4, hb4⟩
  have hbw4 := G.trans hbw3 hb4
  have x4 := Lib.hid (x3.out.grow hb4)
  replace hC4 := Lib.hid hC4
  replace hM4 := Lib.hid hM4
  go_wp2_with fail
  refine (next_any hC4.out.row1 (by unfold maxLen; omega) hC4.out.chans).mono ?_
  rintro e5 w5 ⟨rfl, hb5⟩
  have hbw5 := G.trans hbw4 hb5
  have x5 := Lib.hid (x4.out.grow hb5)
  have hC5 := Lib.hid (hC4.out.grow hb5)
  obtain ⟨kv, rd, hnx⟩ : ∃ kv rd, nextC (cps prs) = (kv, rd) := ⟨_, _, rfl⟩
  rw [hnx]
  dsimp only
  rcases rd with _ | _
  · replace hnx := Lib.hid hnx
    go_wp2_with fail
    go_ret
    exact ⟨rfl, hbw5⟩
  obtain ⟨j, jb, jr, jc, rfl, hjx, hj0, hmin⟩ := next_true hnx
  obtain ⟨pj, hpj, rfl, rfl, rfl⟩ := cps_get' hjx
  have hjn : j < n := by have := (List.getElem?_eq_some_iff.1 hpj).1; omega
  have hcjr := hC5.out.row1
  obtain ⟨bx, ox, hA1, hbl, _⟩ := hcjr.2 (by omega)
  subst hA1
  have hcj : w5.cell? ⟨bx, ox + j, none⟩ = some (.pointer (some ⟨pj.b, 0, none⟩)) := hcjr.getC hjn hjx
  obtain ⟨itj, lj, hjit⟩ : ∃ it l, pj.c.items = it :: l := by
    rcases hh : pj.c.items with _ | ⟨it, l⟩
    · rw [hh] at hj0; exact absurd hj0 (Nat.lt_irrefl _)
    · exact ⟨it, l, rfl⟩
  have hlt1 : ¬ (j : Int) < 0 := by omega
  have hlt2 : ¬ (n : Int) ≤ (j : Int) := by omega
  have hlt3 : ¬ n ≤ j := by omega
  have hmin' : Hid (∀ p ∈ prs, 0 ≤ cmpS (leE p.c) (leP p.c) itj.e itj.p) := fun p hp => by
    have := hmin p.b p.r p.c (cps_mem hp)
    have e1 : leE pj.c = itj.e := by unfold leE; rw [hjit]
    have e2 : leP pj.c = itj.p := by unfold leP; rw [hjit]
    rwa [e1, e2] at this
  have hpjm := Lib.hid (List.mem_of_getElem? hpj)
  replace hjit := Lib.hid hjit
  replace hnx := Lib.hid hnx
  replace hjx := Lib.hid hjx
  replace hpj := Lib.hid hpj
  clear hmin hj0 hcjr hC4
  go_wp2_with fail
  refine (peek1_any (hC5.out.rec hpjm.out).1 hjit.out).mono ?_
  rintro e6 w6 ⟨cs6, rfl, hi6, hb6⟩
  obtain ⟨x0, X5, m5, d5', y1, X6, m6, d6', y2, y3, y4, y5, X7, m7, d7', X8, m8, d8', X9, m9, d9', rfl⟩ := item_cells hi6
  replace hi6 := Lib.hid hi6
  clear hcj
  go_wp2_with fail
  refine wp_name (fun wx => Below w6.heap.size w6 wx ∧ Bx wx w6.heap.size [.int .i64 x0, .slice X5 m5 d5', .int .i64 y1, .slice X6 m6 d6', .int .i64 y2, .int .i64 y3, .int .i64 y4, .string y5, .slice X7 m7 d7', .slice X8 m8 d8', .slice X9 m9 d9']) ⟨by repeat (first | with_reducible assumption | with_reducible exact G.refl _ | with_reducible refine G.drew ?_ | with_reducible refine G.drewN ?_ _ | with_reducible refine G.alloc ?_ _ | with_reducible refine Below.setCell ?_ (by first | (simp; done) | (simp; omega)) _ | with_reducible refine G.trans ?_ hb12 | with_reducible refine G.trans ?_ hb11 | with_reducible refine G.trans ?_ hb10 | with_reducible refine G.trans ?_ hb9 | with_reducible refine G.trans ?_ hb8 | with_reducible refine G.trans ?_ hb7 | with_reducible refine G.trans ?_ hb6 | with_reducible refine G.trans ?_ hb5 | with_reducible refine G.trans ?_ hb4 | with_reducible refine G.trans ?_ hb3 | with_reducible refine G.trans ?_ hb2 | with_reducible refine G.trans ?_ hb1 | with_reducible refine G.trans ?_ hb | assumption), by repeat (first | with_reducible assumption | (with_reducible exact Bx.new (by simp; done) (by rfl)) | (with_reducible refine Bx.alloc ?_ _) | (with_reducible refine Bx.drewN ?_ _) | ((with_reducible apply Bx.put); rotate_right; (first | rfl | skip)) | (with_reducible refine Bx.other ?_ (by first | (simp; done) | (simp; omega)) _))⟩ ?_
  rintro w7 ⟨hb67, xB⟩
  have hb57 : Below w5.heap.size w5 w7 := G.trans hb6 hb67
  have hbw7 := G.trans hbw5 hb57
  have xA := x5.out.grow hb57
  have hC7 := hC5.out.grow hb57
  have hltT : Hid (w5.heap.size ≤ w6.heap.size) := hb6.size
  have hge3 : Hid (w.heap.size ≤ w3.heap.size) := hbw3.size
  have hHas : Hid (∀ p ∈ prs, ∀ x, p.has x → w3.heap.size ≤ x ∧ x < w5.heap.size) := fun p hp x hx => (hC5.out.rec hp).in_ hx
  have hi7 := Lib.hid ((hi6.out.mono (ok' := okK prs) fun x _ (hx : _ ≤ x) p hp => by
    have h1 := hHas.out p hp _ (.inl rfl)
    have h2 := hHas.out p hp _ (.inr (.inl rfl))
    omega).grow hb67)
  have hXA : Hid (okK prs w.heap.size) := fun p hp => by
    have h1 := hHas.out p hp _ (.inl rfl)
    have h2 := hHas.out p hp _ (.inr (.inl rfl))
    have := hge3.out
    have := x3.out.lt
    omega
  have hXB : Hid (okK prs w6.heap.size) := fun p hp => by
    have h1 := hHas.out p hp _ (.inl rfl)
    have h2 := hHas.out p hp _ (.inr (.inl rfl))
    have := hltT.out
    omega
  have hsub : Hid (∀ x, okS (ok2 (fun _ => True) (.slice (some ⟨bx, ox, none⟩) n q1) (.slice A2 n q2)) prs x → okK prs x) := fun x hx p hp => ⟨fun e => hx.2 p hp (.inl e), fun e => hx.2 p hp (.inr (.inl e))⟩
  have HXK : Hid (∀ wx, Keeps (okK prs) w7 wx → ItemV (okS (ok2 (fun _ => True) (.slice (some ⟨bx, ox, none⟩) n q1) (.slice A2 n q2)) prs) wx [.int .i64 z0, .slice A5 n5 c5', .int .i64 z1, .slice A6 n6 c6', .int .i64 z2, .int .i64 z3, .int .i64 z4, .string z5, .slice A7 n7 c7', .slice A8 n8 c8', .slice A9 n9 c9'] it) := fun wx hk => ((HX.out.mono fun x hx _ => hC7.old x (by have := hge3.out; omega) trivial).grow hbw7).keep (hk.mono hsub.out)
  have hfr : Hid (∀ s, w7.heap.size ≤ s → ∀ x, s ≤ x → okS (ok2 (fun _ => True) (.slice (some ⟨bx, ox, none⟩) n q1) (.slice A2 n q2)) prs x) := fun s hs x hx => hC7.fresh (fun _ _ => trivial) x (by omega)
  have hrow7 := Lib.hid (And.intro hC7.row1 hC7.rowK)
  have hpw := Lib.hid hC7.1.2
  have hnot : Hid (∀ p ∈ prs, ∀ x, p.has x → ¬ okS (ok2 (fun _ => True) (.slice (some ⟨bx, ox, none⟩) n q1) (.slice A2 n q2)) prs x) := fun p hp x hx ho => ho.2 p hp hx
  have hCh7 : ∀ (q : Nat) (p : PRec), 0 ≤ q → prs[q]? = some p → ChanAt (okS (ok2 (fun _ => True) (.slice (some ⟨bx, ox, none⟩) n q1) (.slice A2 n q2)) prs) w7 p.b p.r p.c := fun q p _ hq => (hC7.rec (List.mem_of_getElem? hq)).1
  replace hCh7 := Lib.hid hCh7
  clear hC7 hb57 hb67 hb6 hbw5 hi6 x5 hC5 x3 x4 hM4 hb4 hb5 hbw4
  go_loopw [12] (fun iv wr => ∃ i : Nat, i ≤ n ∧ iv = .int .i64 i ∧ Keeps (okK prs) w7 wr ∧ Hid (∀ (q : Nat) (p : PRec), i ≤ q → prs[q]? = some p → ChanAt (okS (ok2 (fun _ => True) (.slice (some ⟨bx, ox, none⟩) n q1) (.slice A2 n q2)) prs) wr p.b p.r p.c) ∧ Below w.heap.size w wr) (fun iv _ => n - (intOf iv).toNat)
  case atStart => exact ⟨0, Nat.zero_le _, rfl, Keeps.refl _ _, hCh7, hbw7⟩
  case round =>
    clear hCh7 hbw7
    obtain ⟨i, hi, rfl, hkr, hCh, hbr⟩ := hrel
    replace xA := Lib.hid (xA.keep hkr hXA.out)
    replace xB := Lib.hid (xB.keep hkr hXB.out)
    by_cases hlt : i < n
    · obtain ⟨p, hpi⟩ : ∃ p, prs[i]? = some p := ⟨_, List.getElem?_eq_getElem (by rw [hpl]; exact hlt)⟩
      have hpm := Lib.hid (List.mem_of_getElem? hpi)
      have hcx : wr.cell? ⟨bx, ox + i, none⟩ = some (.pointer (some ⟨p.b, 0, none⟩)) := (hrow7.out.1.keep hrow7.out.2 hkr).getC hlt (cps_get hpi)
      have hCp := Lib.hid (hCh.out i p (Nat.le_refl _) hpi)
      have hltc := hCp.out.lt.1
      have hpge : Hid (w.heap.size ≤ p.b ∧ w.heap.size ≤ p.r) := by
        have h1 := hHas.out p hpm.out _ (.inl rfl)
        have h2 := hHas.out p hpm.out _ (.inr (.inl rfl))
        have := hge3.out
        exact ⟨by omega, by omega⟩
      have hnx8 : Hid (∀ wx, Chg p.b p.r wr wx → ∀ (q : Nat) (p' : PRec), i + 1 ≤ q → prs[q]? = some p' → ChanAt (okS (ok2 (fun _ => True) (.slice (some ⟨bx, ox, none⟩) n q1) (.slice A2 n q2)) prs) wx p'.b p'.r p'.c) := fun wx hch q p' hq hp' => by
        refine (hCh.out q p' (by omega) hp').other hch (hnot.out p hpm.out _ (.inl rfl)) (hnot.out p hpm.out _ (.inr (.inl rfl))) ?_ ?_
        all_goals (
          have hd := List.pairwise_iff_getElem.1 hpw.out i q (List.getElem?_eq_some_iff.1 hpi).1 (List.getElem?_eq_some_iff.1 hp').1 (by omega)
          rw [(List.getElem?_eq_some_iff.1 hpi).2, (List.getElem?_eq_some_iff.1 hp').2] at hd)
        · exact ⟨fun e => hd p.b (.inl rfl) (.inl e.symm), fun e => hd p.r (.inr (.inl rfl)) (.inl e.symm)⟩
        · exact ⟨fun e => hd p.b (.inl rfl) (.inr (.inl e.symm)), fun e => hd p.r (.inr (.inl rfl)) (.inr (.inl e.symm))⟩
      replace hpi := Lib.hid hpi
      replace hCh := Lib.hid hCh.out
      go_wp2_with fail
      refine (len_any hCp.out).mono ?_
      rintro e8 w8 ⟨rfl, hw8⟩
      replace hw8 := hw8.symm
      subst hw8
      have ltx := cell_lt hcx
      dsimp only at ltx
      by_cases hl0 : p.c.items.length = 0
      · have hl0' : ¬ (0 : Int) < (p.c.items.length : Int) := by omega
        obtain ⟨v, c', hpc⟩ : ∃ v c', putC (chkI (zeroC [.int .i64 z0, .slice A5 n5 c5', .int .i64 z1, .slice A6 n6 c6', .int .i64 z2, .int .i64 z3, .int .i64 z4, .string z5, .slice A7 n7 c7', .slice A8 n8 c8', .slice A9 n9 c9']) it) p.c it = (v, c') := ⟨_, _, rfl⟩
        by_cases hv0 : v = 0
        · have hge := Lib.hid (put_ge (hv0 ▸ hpc))
          obtain ⟨u, hu⟩ : ∃ u, cmpS it.e it.p itj.e itj.p = u := ⟨_, rfl⟩
          have hu0 : ¬ u < 0 := by
            have h1 := hge.out
            have h2 := hmin'.out p hpm.out
            have hnil : p.c.items = [] := List.eq_nil_of_length_eq_zero hl0
            have e1 : leE p.c = p.c.me := by unfold leE; rw [hnil]
            have e2 : leP p.c = p.c.mp := by unfold leP; rw [hnil]
            rw [e1, e2] at h2
            have h3 := (cmpS_tri it.e p.c.me itj.e it.p p.c.mp itj.p).2 h1 h2
            rw [hu] at h3
            omega
          replace hu := Lib.hid hu
          replace hpc := Lib.hid hpc
          subst hv0
          clear hge
          go_wp2_with fail
          refine wp_region_ordD [(0, 1), (1, 1), (2, 1), (3, 1), (4, 0), (5, 3), (6, 0), (7, 0), (8, 0), (10, 0), (9, 3), (11, 3), (12, 3), (13, 0), (14, 0)] [5, 9, 11, 12] 5 (Two w.heap.size [.int .i64 z0, .slice A5 n5 c5', .int .i64 z1, .slice A6 n6 c6', .int .i64 z2, .int .i64 z3, .int .i64 z4, .string z5, .slice A7 n7 c7', .slice A8 n8 c8', .slice A9 n9 c9'] w6.heap.size [.int .i64 x0, .slice X5 m5 d5', .int .i64 y1, .slice X6 m6 d6', .int .i64 y2, .int .i64 y3, .int .i64 y4, .string y5, .slice X7 m7 d7', .slice X8 m8 d8', .slice X9 m9 d9']) (by kernel_rfl) (by decide +kernel) ?_
          simp only [pickO, List.append_eq, List.cons_append, List.nil_append, List.getElem?_cons_succ, List.getElem?_cons_zero]
          intro w0 hG
          have hD := Two.mk (xA.out.grow hG.b) (xB.out.grow hG.b)
          refine ⟨hD, ?_⟩
          (repeat ((first | (with_reducible refine ord_q1D ?_) | (with_reducible refine ord_q0D ?_)); intro K hK; first | (refine Or.inr ⟨?_, ?_⟩; (focus (go_simp; first | done | (simp [undef]; done))); go_simp; (with_reducible refine hK _ ?_); clear hK K) | (refine Or.inl ⟨?_, ?_⟩; (focus (go_simp; done)); apply Exists.intro; refine And.intro ?_ ?_; (focus (first | (intro wq hq; have hcf := G.old hq; obtain ⟨hcq, hfq⟩ := hcf; go_simp; (first | done | exact rfl); done) | (intro wq hq; have c0 := (hq.a.2 0 _ rfl).1; have d0 := (hq.b.2 0 _ rfl).1; have c1 := (hq.a.2 1 _ rfl).1; have d1 := (hq.b.2 1 _ rfl).1; have c2 := (hq.a.2 2 _ rfl).1; have d2 := (hq.b.2 2 _ rfl).1; have c3 := (hq.a.2 3 _ rfl).1; have d3 := (hq.b.2 3 _ rfl).1; have c4 := (hq.a.2 4 _ rfl).1; have d4 := (hq.b.2 4 _ rfl).1; have c5 := (hq.a.2 5 _ rfl).1; have d5 := (hq.b.2 5 _ rfl).1; have c6 := (hq.a.2 6 _ rfl).1; have d6 := (hq.b.2 6 _ rfl).1; have c7 := (hq.a.2 7 _ rfl).1; have d7 := (hq.b.2 7 _ rfl).1; have c8 := (hq.a.2 8 _ rfl).1; have d8 := (hq.b.2 8 _ rfl).1; have c9 := (hq.a.2 9 _ rfl).1; have d9 := (hq.b.2 9 _ rfl).1; have c10 := (hq.a.2 10 _ rfl).1; have d10 := (hq.b.2 10 _ rfl).1; have dlt1 := hq.a.lt; have dlt2 := hq.b.lt; go_simp; (first | done | exact rfl); done))); go_simp; (with_reducible refine hK _ ?_); clear hK K) | fail))
          have hGb := hG.b
          have hbr0 := G.trans hbr hGb
          have hks := Nat.le_trans hkr.1 hGb.size
          have hkr0 := hkr.trans (Keeps.of_below hGb)
          (with_reducible refine ord_tailD hD ?_)
          intro K hK
          go_simp
          go_at_call 22; (with_reducible refine (put_any (hCp.out.grow hGb) ((HXK.out wr hkr).grow hGb) (hfr.out _ hks)).mono ?_); rintro e8 w8 ⟨he8, hC8, hch8⟩; (rw [hpc.out] at he8); subst he8; have hD' := Two.mk (Bx.keep hD.a (Chg.keepK hpm.out hch8) hXA.out) (Bx.keep hD.b (Chg.keepK hpm.out hch8) hXB.out)
          replace hD := hD'
          clear hD'
          (try dsimp only)
          (with_reducible refine hK _ _ hD ?_)
          clear hK K
          (repeat ((first | (with_reducible refine ord_q1D ?_) | (with_reducible refine ord_q0D ?_)); intro K hK; first | (refine Or.inr ⟨?_, ?_⟩; (focus (go_simp; first | done | (simp [undef]; done))); go_simp; (with_reducible refine hK _ ?_); clear hK K) | (refine Or.inl ⟨?_, ?_⟩; (focus (go_simp; done)); apply Exists.intro; refine And.intro ?_ ?_; (focus (first | (intro wq hq; have hcf := G.old hq; obtain ⟨hcq, hfq⟩ := hcf; go_simp; (first | done | exact rfl); done) | (intro wq hq; have c0 := (hq.a.2 0 _ rfl).1; have d0 := (hq.b.2 0 _ rfl).1; have c1 := (hq.a.2 1 _ rfl).1; have d1 := (hq.b.2 1 _ rfl).1; have c2 := (hq.a.2 2 _ rfl).1; have d2 := (hq.b.2 2 _ rfl).1; have c3 := (hq.a.2 3 _ rfl).1; have d3 := (hq.b.2 3 _ rfl).1; have c4 := (hq.a.2 4 _ rfl).1; have d4 := (hq.b.2 4 _ rfl).1; have c5 := (hq.a.2 5 _ rfl).1; have d5 := (hq.b.2 5 _ rfl).1; have c6 := (hq.a.2 6 _ rfl).1; have d6 := (hq.b.2 6 _ rfl).1; have c7 := (hq.a.2 7 _ rfl).1; have d7 := (hq.b.2 7 _ rfl).1; have c8 := (hq.a.2 8 _ rfl).1; have d8 := (hq.b.2 8 _ rfl).1; have c9 := (hq.a.2 9 _ rfl).1; have d9 := (hq.b.2 9 _ rfl).1; have c10 := (hq.a.2 10 _ rfl).1; have d10 := (hq.b.2 10 _ rfl).1; have dlt1 := hq.a.lt; have dlt2 := hq.b.lt; go_simp; (first | done | exact rfl); done))); go_simp; (with_reducible refine hK _ ?_); clear hK K) | fail))
          have hbr8 := hbr0.trans (hch8.below hpge.out.1 hpge.out.2 hbr0.size)
          have hkr8 := hkr0.trans (hch8.keepK hpm.out)
          have hnext := Lib.hid (hnx8.out w8 (hch8.of_grow hGb))
          (with_reducible refine ord_tailD hD ?_)
          intro K hK
          go_simp
          go_at_call 17; (with_reducible refine (of_any (HXK.out w8 hkr8)).mono ?_); rintro e9 w9 ⟨X9', k9, s9, rfl, hq9, hb9⟩; have hD' := Two.mk (hD.a.grow hb9) (hD.b.grow hb9)
          replace hD := hD'
          clear hD'
          (try dsimp only)
          (with_reducible refine hK _ _ hD ?_)
          clear hK K
          (repeat ((first | (with_reducible refine ord_q1D ?_) | (with_reducible refine ord_q0D ?_)); intro K hK; first | (refine Or.inr ⟨?_, ?_⟩; (focus (go_simp; first | done | (simp [undef]; done))); go_simp; (with_reducible refine hK _ ?_); clear hK K) | (refine Or.inl ⟨?_, ?_⟩; (focus (go_simp; done)); apply Exists.intro; refine And.intro ?_ ?_; (focus (first | (intro wq hq; have hcf := G.old hq; obtain ⟨hcq, hfq⟩ := hcf; go_simp; (first | done | exact rfl); done) | (intro wq hq; have c0 := (hq.a.2 0 _ rfl).1; have d0 := (hq.b.2 0 _ rfl).1; have c1 := (hq.a.2 1 _ rfl).1; have d1 := (hq.b.2 1 _ rfl).1; have c2 := (hq.a.2 2 _ rfl).1; have d2 := (hq.b.2 2 _ rfl).1; have c3 := (hq.a.2 3 _ rfl).1; have d3 := (hq.b.2 3 _ rfl).1; have c4 := (hq.a.2 4 _ rfl).1; have d4 := (hq.b.2 4 _ rfl).1; have c5 := (hq.a.2 5 _ rfl).1; have d5 := (hq.b.2 5 _ rfl).1; have c6 := (hq.a.2 6 _ rfl).1; have d6 := (hq.b.2 6 _ rfl).1; have c7 := (hq.a.2 7 _ rfl).1; have d7 := (hq.b.2 7 _ rfl).1; have c8 := (hq.a.2 8 _ rfl).1; have d8 := (hq.b.2 8 _ rfl).1; have c9 := (hq.a.2 9 _ rfl).1; have d9 := (hq.b.2 9 _ rfl).1; have c10 := (hq.a.2 10 _ rfl).1; have d10 := (hq.b.2 10 _ rfl).1; have dlt1 := hq.a.lt; have dlt2 := hq.b.lt; go_simp; (first | done | exact rfl); done))); go_simp; (with_reducible refine hK _ ?_); clear hK K) | fail))
          (with_reducible refine ord_tailD hD ?_)
          intro K hK
          go_simp
          go_at_call 17; (with_reducible refine (of_any ((hi7.out.keep hkr8).grow hb9)).mono ?_); rintro e10 w10 ⟨X10', k10, s10, rfl, hq10, hb10⟩; have hD' := Two.mk (hD.a.grow hb10) (hD.b.grow hb10)
          replace hD := hD'
          clear hD'
          (try dsimp only)
          (with_reducible refine hK _ _ hD ?_)
          clear hK K
          (repeat ((first | (with_reducible refine ord_q1D ?_) | (with_reducible refine ord_q0D ?_)); intro K hK; first | (refine Or.inr ⟨?_, ?_⟩; (focus (go_simp; first | done | (simp [undef]; done))); go_simp; (with_reducible refine hK _ ?_); clear hK K) | (refine Or.inl ⟨?_, ?_⟩; (focus (go_simp; done)); apply Exists.intro; refine And.intro ?_ ?_; (focus (first | (intro wq hq; have hcf := G.old hq; obtain ⟨hcq, hfq⟩ := hcf; go_simp; (first | done | exact rfl); done) | (intro wq hq; have c0 := (hq.a.2 0 _ rfl).1; have d0 := (hq.b.2 0 _ rfl).1; have c1 := (hq.a.2 1 _ rfl).1; have d1 := (hq.b.2 1 _ rfl).1; have c2 := (hq.a.2 2 _ rfl).1; have d2 := (hq.b.2 2 _ rfl).1; have c3 := (hq.a.2 3 _ rfl).1; have d3 := (hq.b.2 3 _ rfl).1; have c4 := (hq.a.2 4 _ rfl).1; have d4 := (hq.b.2 4 _ rfl).1; have c5 := (hq.a.2 5 _ rfl).1; have d5 := (hq.b.2 5 _ rfl).1; have c6 := (hq.a.2 6 _ rfl).1; have d6 := (hq.b.2 6 _ rfl).1; have c7 := (hq.a.2 7 _ rfl).1; have d7 := (hq.b.2 7 _ rfl).1; have c8 := (hq.a.2 8 _ rfl).1; have d8 := (hq.b.2 8 _ rfl).1; have c9 := (hq.a.2 9 _ rfl).1; have d9 := (hq.b.2 9 _ rfl).1; have c10 := (hq.a.2 10 _ rfl).1; have d10 := (hq.b.2 10 _ rfl).1; have dlt1 := hq.a.lt; have dlt2 := hq.b.lt; go_simp; (first | done | exact rfl); done))); go_simp; (with_reducible refine hK _ ?_); clear hK K) | fail))
          (with_reducible refine ord_tailD hD ?_)
          intro K hK
          go_simp
          go_at_call 25; (with_reducible refine (compare_any it.e itj.e X9' X10' k9 k10 s9 s10 it.p itj.p _ (hq9.sl.grow hb10) hq10.sl hq9.max).mono ?_); rintro e11 w11 ⟨rfl, hb11⟩; (rw [hu.out]); have hD' := Two.mk (hD.a.grow hb11) (hD.b.grow hb11)
          replace hD := hD'
          clear hD'
          (try dsimp only)
          (with_reducible refine hK _ _ hD ?_)
          clear hK K
          (repeat ((first | (with_reducible refine ord_q1D ?_) | (with_reducible refine ord_q0D ?_)); intro K hK; first | (refine Or.inr ⟨?_, ?_⟩; (focus (go_simp; first | done | (simp [undef]; done))); go_simp; (with_reducible refine hK _ ?_); clear hK K) | (refine Or.inl ⟨?_, ?_⟩; (focus (go_simp; done)); apply Exists.intro; refine And.intro ?_ ?_; (focus (first | (intro wq hq; have hcf := G.old hq; obtain ⟨hcq, hfq⟩ := hcf; go_simp; (first | done | exact rfl); done) | (intro wq hq; have c0 := (hq.a.2 0 _ rfl).1; have d0 := (hq.b.2 0 _ rfl).1; have c1 := (hq.a.2 1 _ rfl).1; have d1 := (hq.b.2 1 _ rfl).1; have c2 := (hq.a.2 2 _ rfl).1; have d2 := (hq.b.2 2 _ rfl).1; have c3 := (hq.a.2 3 _ rfl).1; have d3 := (hq.b.2 3 _ rfl).1; have c4 := (hq.a.2 4 _ rfl).1; have d4 := (hq.b.2 4 _ rfl).1; have c5 := (hq.a.2 5 _ rfl).1; have d5 := (hq.b.2 5 _ rfl).1; have c6 := (hq.a.2 6 _ rfl).1; have d6 := (hq.b.2 6 _ rfl).1; have c7 := (hq.a.2 7 _ rfl).1; have d7 := (hq.b.2 7 _ rfl).1; have c8 := (hq.a.2 8 _ rfl).1; have d8 := (hq.b.2 8 _ rfl).1; have c9 := (hq.a.2 9 _ rfl).1; have d9 := (hq.b.2 9 _ rfl).1; have c10 := (hq.a.2 10 _ rfl).1; have d10 := (hq.b.2 10 _ rfl).1; have dlt1 := hq.a.lt; have dlt2 := hq.b.lt; go_simp; (first | done | exact rfl); done))); go_simp; (with_reducible refine hK _ ?_); clear hK K) | fail))
          (with_reducible refine ord_nilD ?_)
          have hb811 := G.trans (G.trans hb9 hb10) hb11
          go_wp2_with fail
          go_roundw
          case rel => exact ⟨i + 1, by omega, by go_num, hkr8.trans (Keeps.of_below hb811), fun q p' hq hp' => (hnext.out q p' hq hp').grow hb811, G.trans hbr8 hb811⟩
          case measure => simp [intOf]; omega
        · replace hpc := Lib.hid hpc
          go_wp2_with fail
          refine wp_region_ordD [(0, 1), (1, 1), (2, 1), (3, 1), (4, 0), (5, 3), (6, 0), (7, 0), (8, 0), (10, 0), (9, 3), (11, 3), (12, 3), (13, 0), (14, 0)] [5, 9, 11, 12] 5 (Two w.heap.size [.int .i64 z0, .slice A5 n5 c5', .int .i64 z1, .slice A6 n6 c6', .int .i64 z2, .int .i64 z3, .int .i64 z4, .string z5, .slice A7 n7 c7', .slice A8 n8 c8', .slice A9 n9 c9'] w6.heap.size [.int .i64 x0, .slice X5 m5 d5', .int .i64 y1, .slice X6 m6 d6', .int .i64 y2, .int .i64 y3, .int .i64 y4, .string y5, .slice X7 m7 d7', .slice X8 m8 d8', .slice X9 m9 d9']) (by kernel_rfl) (by decide +kernel) ?_
          simp only [pickO, List.append_eq, List.cons_append, List.nil_append, List.getElem?_cons_succ, List.getElem?_cons_zero]
          intro w0 hG
          have hD := Two.mk (xA.out.grow hG.b) (xB.out.grow hG.b)
          refine ⟨hD, ?_⟩
          (repeat ((first | (with_reducible refine ord_q1D ?_) | (with_reducible refine ord_q0D ?_)); intro K hK; first | (refine Or.inr ⟨?_, ?_⟩; (focus (go_simp; first | done | (simp [undef]; done))); go_simp; (with_reducible refine hK _ ?_); clear hK K) | (refine Or.inl ⟨?_, ?_⟩; (focus (go_simp; done)); apply Exists.intro; refine And.intro ?_ ?_; (focus (first | (intro wq hq; have hcf := G.old hq; obtain ⟨hcq, hfq⟩ := hcf; go_simp; (first | done | exact rfl); done) | (intro wq hq; have c0 := (hq.a.2 0 _ rfl).1; have d0 := (hq.b.2 0 _ rfl).1; have c1 := (hq.a.2 1 _ rfl).1; have d1 := (hq.b.2 1 _ rfl).1; have c2 := (hq.a.2 2 _ rfl).1; have d2 := (hq.b.2 2 _ rfl).1; have c3 := (hq.a.2 3 _ rfl).1; have d3 := (hq.b.2 3 _ rfl).1; have c4 := (hq.a.2 4 _ rfl).1; have d4 := (hq.b.2 4 _ rfl).1; have c5 := (hq.a.2 5 _ rfl).1; have d5 := (hq.b.2 5 _ rfl).1; have c6 := (hq.a.2 6 _ rfl).1; have d6 := (hq.b.2 6 _ rfl).1; have c7 := (hq.a.2 7 _ rfl).1; have d7 := (hq.b.2 7 _ rfl).1; have c8 := (hq.a.2 8 _ rfl).1; have d8 := (hq.b.2 8 _ rfl).1; have c9 := (hq.a.2 9 _ rfl).1; have d9 := (hq.b.2 9 _ rfl).1; have c10 := (hq.a.2 10 _ rfl).1; have d10 := (hq.b.2 10 _ rfl).1; have dlt1 := hq.a.lt; have dlt2 := hq.b.lt; go_simp; (first | done | exact rfl); done))); go_simp; (with_reducible refine hK _ ?_); clear hK K) | fail))
          have hGb := hG.b
          have hbr0 := G.trans hbr hGb
          have hks := Nat.le_trans hkr.1 hGb.size
          have hkr0 := hkr.trans (Keeps.of_below hGb)
          (with_reducible refine ord_tailD hD ?_)
          intro K hK
          go_simp
          go_at_call 22; (with_reducible refine (put_any (hCp.out.grow hGb) ((HXK.out wr hkr).grow hGb) (hfr.out _ hks)).mono ?_); rintro e8 w8 ⟨he8, hC8, hch8⟩; (rw [hpc.out] at he8); subst he8; have hD' := Two.mk (Bx.keep hD.a (Chg.keepK hpm.out hch8) hXA.out) (Bx.keep hD.b (Chg.keepK hpm.out hch8) hXB.out)
          replace hD := hD'
          clear hD'
          (try dsimp only)
          (with_reducible refine hK _ _ hD ?_)
          clear hK K
          (repeat ((first | (with_reducible refine ord_q1D ?_) | (with_reducible refine ord_q0D ?_)); intro K hK; first | (refine Or.inr ⟨?_, ?_⟩; (focus (go_simp; first | done | (simp [undef]; done))); go_simp; (with_reducible refine hK _ ?_); clear hK K) | (refine Or.inl ⟨?_, ?_⟩; (focus (go_simp; done)); apply Exists.intro; refine And.intro ?_ ?_; (focus (first | (intro wq hq; have hcf := G.old hq; obtain ⟨hcq, hfq⟩ := hcf; go_simp; (first | done | exact rfl); done) | (intro wq hq; have c0 := (hq.a.2 0 _ rfl).1; have d0 := (hq.b.2 0 _ rfl).1; have c1 := (hq.a.2 1 _ rfl).1; have d1 := (hq.b.2 1 _ rfl).1; have c2 := (hq.a.2 2 _ rfl).1; have d2 := (hq.b.2 2 _ rfl).1; have c3 := (hq.a.2 3 _ rfl).1; have d3 := (hq.b.2 3 _ rfl).1; have c4 := (hq.a.2 4 _ rfl).1; have d4 := (hq.b.2 4 _ rfl).1; have c5 := (hq.a.2 5 _ rfl).1; have d5 := (hq.b.2 5 _ rfl).1; have c6 := (hq.a.2 6 _ rfl).1; have d6 := (hq.b.2 6 _ rfl).1; have c7 := (hq.a.2 7 _ rfl).1; have d7 := (hq.b.2 7 _ rfl).1; have c8 := (hq.a.2 8 _ rfl).1; have d8 := (hq.b.2 8 _ rfl).1; have c9 := (hq.a.2 9 _ rfl).1; have d9 := (hq.b.2 9 _ rfl).1; have c10 := (hq.a.2 10 _ rfl).1; have d10 := (hq.b.2 10 _ rfl).1; have dlt1 := hq.a.lt; have dlt2 := hq.b.lt; go_simp; (first | done | exact rfl); done))); go_simp; (with_reducible refine hK _ ?_); clear hK K) | fail))
          have hbr8 := hbr0.trans (hch8.below hpge.out.1 hpge.out.2 hbr0.size)
          have hkr8 := hkr0.trans (hch8.keepK hpm.out)
          have hnext := Lib.hid (hnx8.out w8 (hch8.of_grow hGb))
          (with_reducible refine ord_tailD hD ?_)
          intro K hK
          go_simp
          (try dsimp only)
          (with_reducible refine hK _ _ hD ?_)
          clear hK K
          (repeat ((first | (with_reducible refine ord_q1D ?_) | (with_reducible refine ord_q0D ?_)); intro K hK; first | (refine Or.inr ⟨?_, ?_⟩; (focus (go_simp; first | done | (simp [undef]; done))); go_simp; (with_reducible refine hK _ ?_); clear hK K) | (refine Or.inl ⟨?_, ?_⟩; (focus (go_simp; done)); apply Exists.intro; refine And.intro ?_ ?_; (focus (first | (intro wq hq; have hcf := G.old hq; obtain ⟨hcq, hfq⟩ := hcf; go_simp; (first | done | exact rfl); done) | (intro wq hq; have c0 := (hq.a.2 0 _ rfl).1; have d0 := (hq.b.2 0 _ rfl).1; have c1 := (hq.a.2 1 _ rfl).1; have d1 := (hq.b.2 1 _ rfl).1; have c2 := (hq.a.2 2 _ rfl).1; have d2 := (hq.b.2 2 _ rfl).1; have c3 := (hq.a.2 3 _ rfl).1; have d3 := (hq.b.2 3 _ rfl).1; have c4 := (hq.a.2 4 _ rfl).1; have d4 := (hq.b.2 4 _ rfl).1; have c5 := (hq.a.2 5 _ rfl).1; have d5 := (hq.b.2 5 _ rfl).1; have c6 := (hq.a.2 6 _ rfl).1; have d6 := (hq.b.2 6 _ rfl).1; have c7 := (hq.a.2 7 _ rfl).1; have d7 := (hq.b.2 7 _ rfl).1; have c8 := (hq.a.2 8 _ rfl).1; have d8 := (hq.b.2 8 _ rfl).1; have c9 := (hq.a.2 9 _ rfl).1; have d9 := (hq.b.2 9 _ rfl).1; have c10 := (hq.a.2 10 _ rfl).1; have d10 := (hq.b.2 10 _ rfl).1; have dlt1 := hq.a.lt; have dlt2 := hq.b.lt; go_simp; (first | done | exact rfl); done))); go_simp; (with_reducible refine hK _ ?_); clear hK K) | fail))
          (with_reducible refine ord_tailD hD ?_)
          intro K hK
          go_simp
          (try dsimp only)
          (with_reducible refine hK _ _ hD ?_)
          clear hK K
          (repeat ((first | (with_reducible refine ord_q1D ?_) | (with_reducible refine ord_q0D ?_)); intro K hK; first | (refine Or.inr ⟨?_, ?_⟩; (focus (go_simp; first | done | (simp [undef]; done))); go_simp; (with_reducible refine hK _ ?_); clear hK K) | (refine Or.inl ⟨?_, ?_⟩; (focus (go_simp; done)); apply Exists.intro; refine And.intro ?_ ?_; (focus (first | (intro wq hq; have hcf := G.old hq; obtain ⟨hcq, hfq⟩ := hcf; go_simp; (first | done | exact rfl); done) | (intro wq hq; have c0 := (hq.a.2 0 _ rfl).1; have d0 := (hq.b.2 0 _ rfl).1; have c1 := (hq.a.2 1 _ rfl).1; have d1 := (hq.b.2 1 _ rfl).1; have c2 := (hq.a.2 2 _ rfl).1; have d2 := (hq.b.2 2 _ rfl).1; have c3 := (hq.a.2 3 _ rfl).1; have d3 := (hq.b.2 3 _ rfl).1; have c4 := (hq.a.2 4 _ rfl).1; have d4 := (hq.b.2 4 _ rfl).1; have c5 := (hq.a.2 5 _ rfl).1; have d5 := (hq.b.2 5 _ rfl).1; have c6 := (hq.a.2 6 _ rfl).1; have d6 := (hq.b.2 6 _ rfl).1; have c7 := (hq.a.2 7 _ rfl).1; have d7 := (hq.b.2 7 _ rfl).1; have c8 := (hq.a.2 8 _ rfl).1; have d8 := (hq.b.2 8 _ rfl).1; have c9 := (hq.a.2 9 _ rfl).1; have d9 := (hq.b.2 9 _ rfl).1; have c10 := (hq.a.2 10 _ rfl).1; have d10 := (hq.b.2 10 _ rfl).1; have dlt1 := hq.a.lt; have dlt2 := hq.b.lt; go_simp; (first | done | exact rfl); done))); go_simp; (with_reducible refine hK _ ?_); clear hK K) | fail))
          (with_reducible refine ord_tailD hD ?_)
          intro K hK
          go_simp
          (try dsimp only)
          (with_reducible refine hK _ _ hD ?_)
          clear hK K
          (repeat ((first | (with_reducible refine ord_q1D ?_) | (with_reducible refine ord_q0D ?_)); intro K hK; first | (refine Or.inr ⟨?_, ?_⟩; (focus (go_simp; first | done | (simp [undef]; done))); go_simp; (with_reducible refine hK _ ?_); clear hK K) | (refine Or.inl ⟨?_, ?_⟩; (focus (go_simp; done)); apply Exists.intro; refine And.intro ?_ ?_; (focus (first | (intro wq hq; have hcf := G.old hq; obtain ⟨hcq, hfq⟩ := hcf; go_simp; (first | done | exact rfl); done) | (intro wq hq; have c0 := (hq.a.2 0 _ rfl).1; have d0 := (hq.b.2 0 _ rfl).1; have c1 := (hq.a.2 1 _ rfl).1; have d1 := (hq.b.2 1 _ rfl).1; have c2 := (hq.a.2 2 _ rfl).1; have d2 := (hq.b.2 2 _ rfl).1; have c3 := (hq.a.2 3 _ rfl).1; have d3 := (hq.b.2 3 _ rfl).1; have c4 := (hq.a.2 4 _ rfl).1; have d4 := (hq.b.2 4 _ rfl).1; have c5 := (hq.a.2 5 _ rfl).1; have d5 := (hq.b.2 5 _ rfl).1; have c6 := (hq.a.2 6 _ rfl).1; have d6 := (hq.b.2 6 _ rfl).1; have c7 := (hq.a.2 7 _ rfl).1; have d7 := (hq.b.2 7 _ rfl).1; have c8 := (hq.a.2 8 _ rfl).1; have d8 := (hq.b.2 8 _ rfl).1; have c9 := (hq.a.2 9 _ rfl).1; have d9 := (hq.b.2 9 _ rfl).1; have c10 := (hq.a.2 10 _ rfl).1; have d10 := (hq.b.2 10 _ rfl).1; have dlt1 := hq.a.lt; have dlt2 := hq.b.lt; go_simp; (first | done | exact rfl); done))); go_simp; (with_reducible refine hK _ ?_); clear hK K) | fail))
          (with_reducible refine ord_nilD ?_)
          go_wp2_with fail
          go_roundw
          case rel => exact ⟨i + 1, by omega, by go_num, hkr8, hnext.out, hbr8⟩
          case measure => simp [intOf]; omega
      · have hl0' : (0 : Int) < (p.c.items.length : Int) := by omega
        have hl1 : 0 < p.c.items.length := by omega
        have hnx9 := hnx8.out _ (Chg.refl _ _ _)
        replace hnx9 := Lib.hid hnx9
        go_wp2_with fail
        go_roundw
        case rel => exact ⟨i + 1, by omega, by go_num, hkr, hnx9.out, hbr⟩
        case measure => simp [intOf]; omega
    · go_wp2_with fail
      go_ret
      exact ⟨rfl, hbr⟩
end Go.Proofs.Ytjldpodehffbnaa
