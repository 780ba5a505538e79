/- segment: text, scan -/
import Derived.Test.YtbafnlccpbonmaaGreatDoorGMk
import Derived.Test.YtbafnlccpbonmaaGreatDoorGMb
import Derived.Test.YtbafnlccpbonmaaGreatDoorGMe
import Derived.Sort.OwnSortedInts
namespace Go.Proofs.YtbafnlccpbonmaaGreatDoor
set_option linter.unusedVariables false
set_option linter.unnecessarySimpa false
set_option linter.unusedSimpArgs false
open Go.RowKit

/-- All bytes of a file. -/
def textD (s : Ds) (nm : List UInt8) : List UInt8 × Int := if s.down = true then ([], 31) else match lkC s.fs nm with
  | none => ([], 8)
  | some f => (f.data, 0)
theorem size_text (s : Ds) (nm : List UInt8) : (sizeD s nm).2 = (textD s nm).2 ∧ (sizeD s nm).1 = ((textD s nm).1.length : Int) := by
  unfold sizeD textD
  by_cases h : s.down = true
  · rw [if_pos h, if_pos h]
    exact ⟨rfl, rfl⟩
  · rw [if_neg h, if_neg h]
    rcases lkC s.fs nm with _ | f
    · exact ⟨rfl, rfl⟩
    · exact ⟨rfl, rfl⟩
theorem read_text {s : Ds} {nm : List UInt8} (h : (textD s nm).2 = 0) : readD s nm 0 ((textD s nm).1.length : Int) = textD s nm := by
  unfold textD at h ⊢
  unfold readD
  by_cases hd : s.down = true
  · rw [if_pos hd] at h
    exact absurd h (by simp)
  · rw [if_neg hd] at h
    rw [if_neg hd, if_neg hd]
    rcases hl : lkC s.fs nm with _ | f
    · rfl
    · dsimp only
      rw [if_neg (by omega), Int.toNat_natCast, List.take_of_length_le (by simp)]
      rfl
theorem text_bad {s : Ds} {nm : List UInt8} (h : (textD s nm).2 ≠ 0) : (textD s nm).1 = [] := by
  unfold textD at h ⊢
  split
  · rfl
  · rename_i hd
    rw [if_neg hd] at h
    split
    · rfl
    · rename_i hl
      rw [hl] at h
      exact absurd rfl h
theorem text_len {s : Ds} (ho : s.Ok) (nm : List UInt8) : (textD s nm).1.length ≤ 16777216 := by
  unfold textD
  split
  · simp
  · split
    · simp
    · rename_i f hl
      exact ho.sz f (lkC_some hl).1
section
variable {w0 w w' : World} {S0 T0 : Nat → Prop} {L d : Nat} {l l' : Lg} {s s' : Ds} {P : Option Addr} {c : Nat} {rs : List PR}
theorem szB {n : Nat} {a : Array Value} {w : World} {Q : Ending → Prop} (h : Calls Tryz.prog n a w fun e w' => Q e ∧ w' = w) : Calls Tryz.prog n a w fun e w' => Q e ∧ Below w.heap.size w w' := h.mono fun e w' hh => ⟨hh.1, by rw [hh.2]; exact G.refl _⟩
set_option maxRecDepth 20000 in set_option maxHeartbeats 4000000 in
theorem LXr.text (hE : EnvL w0 S0 T0) (h : LXr w0 S0 T0 w d L s l P c rs) (ho : s.Ok) (n : Int) : Calls Tryz.prog 60 #[.pointer (some ⟨L, 0, none⟩), .int .i64 n] w fun e w' => e = .returned (.tuple #[.string (B (textD s (l.file n)).1), .int .i64 (textD s (l.file n)).2]) ∧ Below w.heap.size w w' := by
  have LF := Lib.hid (fun (wx : World) (hb : Below w.heap.size w wx) => (h.grow hb).log.file ((h.grow hb).lx.pow hE) n)
  have hff := lfile_len l n
  obtain ⟨f, hf⟩ : ∃ f, l.file n = f := ⟨_, rfl⟩
  rw [hf] at LF hff ⊢
  obtain ⟨c0, c1, c2, c3, c4⟩ := h.log.box.c5
  have lt := h.log.box.lt
  obtain ⟨S, hD, _⟩ := h.dev
  have SZ := Lib.hid (fun (wx : World) (hb : Below w.heap.size w wx) => szB (size_any (hD.grow hb) (B f) (by rw [B_size]; unfold maxLen; omega)))
  rw [B_list] at SZ
  obtain ⟨s1, s2⟩ := size_text s f
  have hlen := text_len ho f
  by_cases hx : (textD s f).2 = 0
  · have RD := Lib.hid (fun (wx : World) (hb : Below w.heap.size w wx) => read_any (hD.grow hb) ho (B f) (by rw [B_size]; unfold maxLen; omega) 0 ((textD s f).1.length : Int) (by omega))
    rw [B_list] at RD
    unfold RetR at RD
    rw [read_text hx] at RD
    have hr2 : (sizeD s f).2 = 0 := by rw [s1]; exact hx
    have hr1 := s2
    rw [hr2, hr1] at SZ
    obtain ⟨X, hX⟩ : ∃ X, textD s f = X := ⟨_, rfl⟩
    rw [hX] at SZ RD hx ⊢
    obtain ⟨t, e⟩ := X
    dsimp only at SZ RD hx ⊢
    subst hx
    rw [show BA t = B t from rfl] at RD
    clear s1 s2 hr1 hr2 hX hf hlen h hD
    go_enter Tryz.func60, Tryz.ntmps60
    go_wp2_with fail
    refine wp_region_ord [(0, 1), (1, 1), (2, 1), (3, 1), (4, 1), (5, 1), (6, 2), (7, 2), (8, 1), (9, 1), (10, 1), (11, 1), (12, 1)] [] 16 (by kernel_rfl) (by decide +kernel) ?_
    simp only [pickO, List.append_eq, List.cons_append, List.nil_append, List.getElem?_cons_succ, List.getElem?_cons_zero]
    intro w0 hG
    (repeat ((first | (with_reducible refine ord_q1 ?_) | (with_reducible refine ord_q0 ?_)); intro K hK; first | (refine Or.inr ⟨?_, ?_⟩; (focus (go_simp; first | done | (simp [undef]; done))); go_simp; (with_reducible refine hK _ ?_); clear hK K) | (refine Or.inl ⟨?_, ?_⟩; (focus (go_simp; done)); apply Exists.intro; refine And.intro ?_ ?_; (focus (first | (intro wq hq; obtain ⟨hcq, hfq⟩ := G.old hq; go_simp; (first | done | exact rfl); done) | (intro wq; go_simp; (first | done | exact rfl); done))); go_simp; (with_reducible refine hK _ ?_); clear hK K) | fail))
    (with_reducible refine ord_run ?_ hG)
    intro K hK
    go_simp
    go_at_call 62; (with_reducible refine (LF.out _ hG.b).mono ?_); rintro e w2 ⟨rfl, hb1⟩
    replace hG := Grew.trans hG hb1
    (try dsimp only)
    (with_reducible refine hK _ _ hG ?_)
    clear hK K
    (repeat ((first | (with_reducible refine ord_q1 ?_) | (with_reducible refine ord_q0 ?_)); intro K hK; first | (refine Or.inr ⟨?_, ?_⟩; (focus (go_simp; first | done | (simp [undef]; done))); go_simp; (with_reducible refine hK _ ?_); clear hK K) | (refine Or.inl ⟨?_, ?_⟩; (focus (go_simp; done)); apply Exists.intro; refine And.intro ?_ ?_; (focus (first | (intro wq hq; obtain ⟨hcq, hfq⟩ := G.old hq; go_simp; (first | done | exact rfl); done) | (intro wq; go_simp; (first | done | exact rfl); done))); go_simp; (with_reducible refine hK _ ?_); clear hK K) | fail))
    (with_reducible refine ord_run ?_ hG)
    intro K hK
    go_simp
    go_at_call 65; (with_reducible refine (SZ.out _ hG.b).mono ?_); rintro e w3 ⟨rfl, hb1⟩
    replace hG := Grew.trans hG hb1
    (try dsimp only)
    (with_reducible refine hK _ _ hG ?_)
    clear hK K
    (repeat ((first | (with_reducible refine ord_q1 ?_) | (with_reducible refine ord_q0 ?_)); intro K hK; first | (refine Or.inr ⟨?_, ?_⟩; (focus (go_simp; first | done | (simp [undef]; done))); go_simp; (with_reducible refine hK _ ?_); clear hK K) | (refine Or.inl ⟨?_, ?_⟩; (focus (go_simp; done)); apply Exists.intro; refine And.intro ?_ ?_; (focus (first | (intro wq hq; obtain ⟨hcq, hfq⟩ := G.old hq; go_simp; (first | done | exact rfl); done) | (intro wq; go_simp; (first | done | exact rfl); done))); go_simp; (with_reducible refine hK _ ?_); clear hK K) | fail))
    (with_reducible refine ord_nil ?_)
    have hb1 := hG.b
    replace c0 := G.cell c0 hb1
    replace lt := cell_lt c0
    clear hG c1 c2 c3 c4
    go_wp2_with fail
    refine wp_region_ord [(0, 1), (1, 1), (2, 1), (3, 1), (4, 1), (5, 1), (7, 1), (6, 2), (8, 2), (9, 1), (10, 1), (11, 1), (12, 1)] [] 16 (by kernel_rfl) (by decide +kernel) ?_
    simp only [pickO, List.append_eq, List.cons_append, List.nil_append, List.getElem?_cons_succ, List.getElem?_cons_zero]
    intro w0 hG
    (repeat ((first | (with_reducible refine ord_q1 ?_) | (with_reducible refine ord_q0 ?_)); intro K hK; first | (refine Or.inr ⟨?_, ?_⟩; (focus (go_simp; first | done | (simp [undef]; done))); go_simp; (with_reducible refine hK _ ?_); clear hK K) | (refine Or.inl ⟨?_, ?_⟩; (focus (go_simp; done)); apply Exists.intro; refine And.intro ?_ ?_; (focus (first | (intro wq hq; obtain ⟨hcq, hfq⟩ := G.old hq; go_simp; (first | done | exact rfl); done) | (intro wq; go_simp; (first | done | exact rfl); done))); go_simp; (with_reducible refine hK _ ?_); clear hK K) | fail))
    (with_reducible refine ord_run ?_ hG)
    intro K hK
    go_simp
    go_at_call 62; (with_reducible refine (LF.out _ (G.trans hb1 hG.b)).mono ?_); rintro e w2 ⟨rfl, hb2⟩
    replace hG := Grew.trans hG hb2
    (try dsimp only)
    (with_reducible refine hK _ _ hG ?_)
    clear hK K
    (repeat ((first | (with_reducible refine ord_q1 ?_) | (with_reducible refine ord_q0 ?_)); intro K hK; first | (refine Or.inr ⟨?_, ?_⟩; (focus (go_simp; first | done | (simp [undef]; done))); go_simp; (with_reducible refine hK _ ?_); clear hK K) | (refine Or.inl ⟨?_, ?_⟩; (focus (go_simp; done)); apply Exists.intro; refine And.intro ?_ ?_; (focus (first | (intro wq hq; obtain ⟨hcq, hfq⟩ := G.old hq; go_simp; (first | done | exact rfl); done) | (intro wq; go_simp; (first | done | exact rfl); done))); go_simp; (with_reducible refine hK _ ?_); clear hK K) | fail))
    (with_reducible refine ord_run ?_ hG)
    intro K hK
    go_simp
    go_at_call 66; (with_reducible refine (RD.out _ (G.trans hb1 hG.b)).mono ?_); rintro e w3 ⟨rfl, hb2⟩
    replace hG := Grew.trans hG hb2
    (try dsimp only)
    (with_reducible refine hK _ _ hG ?_)
    clear hK K
    (repeat ((first | (with_reducible refine ord_q1 ?_) | (with_reducible refine ord_q0 ?_)); intro K hK; first | (refine Or.inr ⟨?_, ?_⟩; (focus (go_simp; first | done | (simp [undef]; done))); go_simp; (with_reducible refine hK _ ?_); clear hK K) | (refine Or.inl ⟨?_, ?_⟩; (focus (go_simp; done)); apply Exists.intro; refine And.intro ?_ ?_; (focus (first | (intro wq hq; obtain ⟨hcq, hfq⟩ := G.old hq; go_simp; (first | done | exact rfl); done) | (intro wq; go_simp; (first | done | exact rfl); done))); go_simp; (with_reducible refine hK _ ?_); clear hK K) | fail))
    (with_reducible refine ord_nil ?_)
    have hb3 := G.trans hb1 hG.b
    clear hG c0 lt
    go_wp2_with fail
    refine bodyPost_ret (v := .tuple #[.string (B t), .int .i64 0]) (by simp only [results, Tryz.results60]; go_simp) rfl ⟨rfl, hb3⟩
  · have hr2 := s1
    rw [hr2] at SZ
    have ht := text_bad hx
    obtain ⟨X, hX⟩ : ∃ X, textD s f = X := ⟨_, rfl⟩
    rw [hX] at SZ hx ht ⊢
    obtain ⟨t, e⟩ := X
    dsimp only at SZ hx ht ⊢
    subst ht
    have hx2 : (e != 0) = true := by rw [bne_iff_ne]; exact hx
    clear s1 s2 hX hf hlen h hD hr2
    go_enter Tryz.func60, Tryz.ntmps60
    go_wp2_with fail
    refine wp_region_ord [(0, 1), (1, 1), (2, 1), (3, 1), (4, 1), (5, 1), (6, 2), (7, 2), (8, 1), (9, 1), (10, 1), (11, 1), (12, 1)] [] 16 (by kernel_rfl) (by decide +kernel) ?_
    simp only [pickO, List.append_eq, List.cons_append, List.nil_append, List.getElem?_cons_succ, List.getElem?_cons_zero]
    intro w0 hG
    (repeat ((first | (with_reducible refine ord_q1 ?_) | (with_reducible refine ord_q0 ?_)); intro K hK; first | (refine Or.inr ⟨?_, ?_⟩; (focus (go_simp; first | done | (simp [undef]; done))); go_simp; (with_reducible refine hK _ ?_); clear hK K) | (refine Or.inl ⟨?_, ?_⟩; (focus (go_simp; done)); apply Exists.intro; refine And.intro ?_ ?_; (focus (first | (intro wq hq; obtain ⟨hcq, hfq⟩ := G.old hq; go_simp; (first | done | exact rfl); done) | (intro wq; go_simp; (first | done | exact rfl); done))); go_simp; (with_reducible refine hK _ ?_); clear hK K) | fail))
    (with_reducible refine ord_run ?_ hG)
    intro K hK
    go_simp
    go_at_call 62; (with_reducible refine (LF.out _ hG.b).mono ?_); rintro e w2 ⟨rfl, hb1⟩
    replace hG := Grew.trans hG hb1
    (try dsimp only)
    (with_reducible refine hK _ _ hG ?_)
    clear hK K
    (repeat ((first | (with_reducible refine ord_q1 ?_) | (with_reducible refine ord_q0 ?_)); intro K hK; first | (refine Or.inr ⟨?_, ?_⟩; (focus (go_simp; first | done | (simp [undef]; done))); go_simp; (with_reducible refine hK _ ?_); clear hK K) | (refine Or.inl ⟨?_, ?_⟩; (focus (go_simp; done)); apply Exists.intro; refine And.intro ?_ ?_; (focus (first | (intro wq hq; obtain ⟨hcq, hfq⟩ := G.old hq; go_simp; (first | done | exact rfl); done) | (intro wq; go_simp; (first | done | exact rfl); done))); go_simp; (with_reducible refine hK _ ?_); clear hK K) | fail))
    (with_reducible refine ord_run ?_ hG)
    intro K hK
    go_simp
    go_at_call 65; (with_reducible refine (SZ.out _ hG.b).mono ?_); rintro e w3 ⟨rfl, hb1⟩
    replace hG := Grew.trans hG hb1
    (try dsimp only)
    (with_reducible refine hK _ _ hG ?_)
    clear hK K
    (repeat ((first | (with_reducible refine ord_q1 ?_) | (with_reducible refine ord_q0 ?_)); intro K hK; first | (refine Or.inr ⟨?_, ?_⟩; (focus (go_simp; first | done | (simp [undef]; done))); go_simp; (with_reducible refine hK _ ?_); clear hK K) | (refine Or.inl ⟨?_, ?_⟩; (focus (go_simp; done)); apply Exists.intro; refine And.intro ?_ ?_; (focus (first | (intro wq hq; obtain ⟨hcq, hfq⟩ := G.old hq; go_simp; (first | done | exact rfl); done) | (intro wq; go_simp; (first | done | exact rfl); done))); go_simp; (with_reducible refine hK _ ?_); clear hK K) | fail))
    (with_reducible refine ord_nil ?_)
    have hb1 := hG.b
    clear hG c0 c1 c2 c3 c4 lt
    go_wp2_with fail
    refine bodyPost_ret (v := .tuple #[.string ⟨#[]⟩, .int .i64 e]) (by simp only [results, Tryz.results60]; go_simp) rfl ⟨rfl, hb1⟩
end
end Go.Proofs.YtbafnlccpbonmaaGreatDoor

namespace Go.Proofs.YtbafnlccpbonmaaGreatDoor
set_option linter.unusedVariables false
set_option linter.unnecessarySimpa false
set_option linter.unusedSimpArgs false
open Go.RowKit

theorem parseR_ok {r d : List UInt8} {n : Int} (h : parseR r n = .ok d) : 16 + d.length ≤ r.length ∧ d.length ≤ 1048576 := by
  unfold parseR at h
  split at h
  · cases h
  split at h
  · cases h
  split at h
  · cases h
  split at h
  · cases h
  split at h
  · cases h
  · cases h
    rw [List.length_take, List.length_drop]
    omega
theorem parseR_bad {r : List UInt8} {n e : Int} (h : parseR r n = .bad e) : e ≠ 0 ∧ e ≠ 2 := by
  unfold parseR at h
  split at h
  · cases h; decide
  split at h
  · cases h; decide
  split at h
  · cases h; decide
  split at h
  · cases h; decide
  split at h
  · cases h; decide
  · cases h
theorem parseP_ok {t d : List UInt8} {a : Nat} {n : Int} (h : parseP t a n = .ok d) : a + 16 + d.length ≤ t.length := by
  unfold parseP at h
  split at h
  · cases h
  · have := (parseR_ok h).1
    rw [List.length_drop, Int.toNat_natCast] at this
    omega
theorem parseP_bad {t : List UInt8} {a n e : Int} (h : parseP t a n = .bad e) : e ≠ 0 := by
  unfold parseP at h
  split at h
  · cases h; decide
  · exact (parseR_bad h).1
/-- What a scan has found so far. -/
def ScI (t : List UInt8) (first : Nat) (p : Pt) : Prop := p.first = first ∧ p.offs ≠ [] ∧ (∀ o ∈ p.offs, o ≤ t.length) ∧ p.offs.length ≤ p.size + 1
theorem size_snoc (f : Nat) (l : List Nat) (x : Nat) : (⟨f, l ++ [x]⟩ : Pt).size = x := by unfold Pt.size; simp
theorem ScI.next {t d : List UInt8} {first : Nat} {p : Pt} (h : ScI t first p) (hd : p.size + 16 + d.length ≤ t.length) : ScI t first ⟨p.first, p.offs ++ [p.size + 16 + d.length]⟩ := by
  obtain ⟨h1, h2, h3, h4⟩ := h
  refine ⟨h1, by simp, fun o ho => ?_, ?_⟩
  · rcases List.mem_append.1 ho with ho | ho
    · exact h3 o ho
    · simp at ho
      subst ho
      exact hd
  · rw [size_snoc, List.length_append]
    show p.offs.length + 1 ≤ _
    omega
theorem ScI.size {t : List UInt8} {first : Nat} {p : Pt} (h : ScI t first p) : p.size ≤ t.length := h.2.2.1 _ (List.mem_of_getElem? (last_get h.2.1))
theorem ScI.ok {t : List UInt8} {first : Nat} {p : Pt} (h : ScI t first p) (ht : t.length ≤ 16777216) (hf : 1 ≤ first ∧ first ≤ 99999999) : p.Ok := by
  have := h.size
  obtain ⟨h1, h2, h3, h4⟩ := h
  exact ⟨by rw [h1]; omega, by omega, h2, fun o ho => by have := h3 o ho; omega⟩
def slLen (w : World) (a : Addr) : Nat := match w.cell? a with
  | some (.slice _ n _) => n
  | _ => 0
theorem slLen_of {w : World} {a : Addr} {A : Option Addr} {n c : Nat} (h : w.cell? a = some (.slice A n c)) : slLen w a = n := by unfold slLen; rw [h]
/-- A scan's variables: the part at b6, the result's at b4. -/
structure ScW (w0 : World) (t : List UInt8) (first b4 b6 : Nat) (w : World) (A : Option Addr) (c : Nat) (p : Pt) : Prop where
  x4 : Bx w b4 [.int .i64 0, .slice none 0 0]
  x6 : Bx w b6 [.int .i64 (first : Int), .slice A p.offs.length c]
  own : OwnO w w0.heap.size 1 A p.offs.length c (natsC p.offs)
  out : ∀ ad, A = some ad → ad.block ≠ b4 ∧ ad.block ≠ b6
  inv : ScI t first p
  below : Below w0.heap.size w0 w
theorem OwnO.base {w : World} {base size : Nat} {A : Option Addr} {n c : Nat} {xs : List Value} (h : OwnO w 0 size A n c xs) {g off : Nat} (e : A = some ⟨g, off, none⟩) (hb : base ≤ g) : OwnO w base size A n c xs := by
  obtain ⟨h1, h2, h3, h4⟩ := h
  refine ⟨h1, h2, h3, ?_⟩
  rcases h4 with ⟨h4, _⟩ | ⟨g', off', a, b, c, d, x⟩
  · rw [e] at h4
    cases h4
  · rw [e] at a
    cases a
    exact .inr ⟨g, off, e, hb, c, d, x⟩
theorem OwnO.base0 {w : World} {base size : Nat} {A : Option Addr} {n c : Nat} {xs : List Value} (h : OwnO w base size A n c xs) : OwnO w 0 size A n c xs := by
  obtain ⟨h1, h2, h3, h4⟩ := h
  refine ⟨h1, h2, h3, ?_⟩
  rcases h4 with h4 | ⟨g, off, a, b, c, d, e⟩
  · exact .inl h4
  · exact .inr ⟨g, off, a, Nat.zero_le _, c, d, e⟩
theorem OwnO.grow {w w' : World} {base size : Nat} {A : Option Addr} {n c : Nat} {xs : List Value} (h : OwnO w base size A n c xs) (hb : Below w.heap.size w w') : OwnO w' base size A n c xs :=
  h.block hb.size fun ad ha => hb.block _ (h.lt ha).1
theorem ScW.grow {w0 w w' : World} {t : List UInt8} {first b4 b6 : Nat} {A : Option Addr} {c : Nat} {p : Pt} (h : ScW w0 t first b4 b6 w A c p) (hb : Below w.heap.size w w') : ScW w0 t first b4 b6 w' A c p :=
  ⟨h.x4.grow hb, h.x6.grow hb, h.own.grow hb, h.out, h.inv, G.trans h.below hb⟩
theorem ScW.ret {w0 w : World} {t : List UInt8} {first b4 b6 : Nat} {A : Option Addr} {c n : Nat} {p : Pt} (h : ScW w0 t first b4 b6 w A c p) (hn : p.offs.length = n) (hb : w0.heap.size ≤ b4) :
    Bx ((w.setCell ⟨b4, 0, none⟩ (.int .i64 (first : Int))).setCell ⟨b4, 1, none⟩ (.slice A n c)) b4 [.int .i64 (first : Int), .slice A n c] ∧
    OwnO ((w.setCell ⟨b4, 0, none⟩ (.int .i64 (first : Int))).setCell ⟨b4, 1, none⟩ (.slice A n c)) w0.heap.size 1 A n c (natsC p.offs) ∧ Below w0.heap.size w0 ((w.setCell ⟨b4, 0, none⟩ (.int .i64 (first : Int))).setCell ⟨b4, 1, none⟩ (.slice A n c)) := by
  subst hn
  refine ⟨(h.x4.put rfl).put rfl, h.own.block (by simp [World.setCell]) fun ad ha => ?_, (h.below.setCell (p := ⟨b4, 0, none⟩) hb _).setCell (p := ⟨b4, 1, none⟩) hb _⟩
  have := (h.out ad ha).1
  rw [Below.heap_setCell _ _ _ _ this, Below.heap_setCell _ _ _ _ this]
theorem ScW.next {w0 w w2 w3 : World} {t : List UInt8} {first b4 b6 : Nat} {A A' : Option Addr} {c c' n z : Nat} {p : Pt} (h : ScW w0 t first b4 b6 w A c p) (hn : p.offs.length = n) (hb6 : w0.heap.size ≤ b6) (hne : b4 ≠ b6) (hb : Below w.heap.size w w2)
    (ho : OwnO w3 w0.heap.size 1 A' (n + 1) c' (natsC p.offs ++ [.int .i64 (z : Int)])) (hg : w2.grownBy w3 (A.map (·.block))) (hP : A'.map (·.block) = A.map (·.block) ∨ A'.map (·.block) = some w2.heap.size) (hi : ScI t first ⟨p.first, p.offs ++ [z]⟩) :
    ScW w0 t first b4 b6 (w3.setCell ⟨b6, 1, none⟩ (.slice A' (n + 1) c')) A' c' ⟨p.first, p.offs ++ [z]⟩ := by
  subst hn
  have h2 := h.grow hb
  have l4 := h.x4.lt
  have l6 := h.x6.lt
  have hs := hb.size
  have hA : ∀ ad, A = some ad → ad.block < w.heap.size := fun ad ha => (h.own.lt ha).1
  have hA' : ∀ ad, A' = some ad → ad.block ≠ b4 ∧ ad.block ≠ b6 := fun ad ha => by
    subst ha
    rcases hP with hP | hP
    · rcases A with _ | ap
      · simp at hP
      · simp at hP
        have := h.out ap rfl
        omega
    · simp at hP
      omega
  have hk : ∀ x, x < w.heap.size → (∀ ad, A = some ad → ad.block ≠ x) → w3.heap[x]? = w2.heap[x]? := fun x hx hn => hg.block x (by omega) fun e => by
    rcases A with _ | ad
    · cases e
    · simp at e
      exact hn ad rfl e.symm
  have y4 := h2.x4.block hg.size (hk b4 l4 fun ad ha => (h.out ad ha).1)
  have y6 := h2.x6.block hg.size (hk b6 l6 fun ad ha => (h.out ad ha).2)
  refine ⟨y4.block (by simp [World.setCell]) (Below.heap_setCell _ _ _ _ hne), ?_, ?_, hA', hi, ?_⟩
  · have := y6.put (i := 1) (v := .slice A' (p.offs.length + 1) c') rfl
    rw [List.length_append]
    exact this
  · have := ho.block (w' := w3.setCell ⟨b6, 1, none⟩ (.slice A' (p.offs.length + 1) c')) (by simp [World.setCell]) fun ad ha => Below.heap_setCell _ _ _ _ (hA' ad ha).2
    rw [List.length_append]
    unfold natsC at this ⊢
    rw [List.map_append]
    exact this
  · exact (h2.below.grown hg h2.below.size fun k hk => by
      rcases hA2 : A with _ | ad
      · rw [hA2] at hk
        cases hk
      · rw [hA2] at hk
        simp at hk
        rw [← hk]
        exact (h.own.lt hA2).2).setCell (p := ⟨b6, 1, none⟩) hb6 _
/-- What scan gives. -/
def RetS1 (R : Pt × Int) (w : World) (e : Ending) (w' : World) : Prop := ∃ A c, e = .returned (.tuple #[.agg #[.int .i64 (R.1.first : Int), .slice A R.1.offs.length c], .int .i64 R.2]) ∧ OwnO w' w.heap.size 1 A R.1.offs.length c (natsC R.1.offs) ∧ Below w.heap.size w w'
set_option maxRecDepth 20000 in set_option maxHeartbeats 8000000 in
theorem scan_any (t : List UInt8) (ht : t.length ≤ 16777216) (first : Nat) (hf : 1 ≤ first ∧ first ≤ 99999999) (w : World) : Calls Tryz.prog 61 #[.string (B t), .int .i64 (first : Int)] w (RetS1 (scanT (t.length + 1) t ⟨first, [0]⟩) w) := by
  obtain ⟨R, hR⟩ : ∃ R, scanT (t.length + 1) t ⟨first, [0]⟩ = R := ⟨_, rfl⟩
  rw [hR]
  have HR := Lib.hid hR
  clear hR
  have hs := B_size t
  obtain ⟨N, hN⟩ : ∃ N, t.length = N := ⟨_, rfl⟩
  rw [hN] at hs
  have HN := Lib.hid hN
  clear hN
  go_enter Tryz.func61, Tryz.ntmps61
  go_wp2_with fail
  refine wp_name (fun wx => ScW w t first w.heap.size (w.heap.size + 1 + 1) wx (some ⟨w.heap.size + 1, 0, none⟩) 1 ⟨first, [0]⟩) ⟨by repeat (first | with_reducible assumption | (with_reducible exact Bx.new (by simp; done) (by rfl)) | (with_reducible refine Bx.alloc ?_ _) | (with_reducible refine Bx.drewN ?_ _) | ((with_reducible apply Bx.put); rotate_right; (first | rfl | skip)) | (with_reducible refine Bx.other ?_ (by first | (simp; done) | (simp; omega)) _)), by (show Bx _ _ [_, .slice (some ⟨w.heap.size + 1, 0, none⟩) 1 1]); repeat (first | with_reducible assumption | (with_reducible exact Bx.new (by simp; done) (by rfl)) | (with_reducible refine Bx.alloc ?_ _) | (with_reducible refine Bx.drewN ?_ _) | ((with_reducible apply Bx.put); rotate_right; (first | rfl | skip)) | (with_reducible refine Bx.other ?_ (by first | (simp; done) | (simp; omega)) _)), OwnO.base ?o1 rfl (Nat.le_succ _), fun ad ha => by cases ha; dsimp only; omega, ⟨rfl, by simp, by simp, by simp⟩, by repeat (first | with_reducible assumption | with_reducible exact G.refl _ | with_reducible refine G.drew ?_ | with_reducible refine G.drewN ?_ _ | with_reducible refine G.alloc ?_ _ | with_reducible refine Below.setCell ?_ (by first | (simp; done) | (simp; omega)) _ | with_reducible refine G.trans ?_ hb12 | with_reducible refine G.trans ?_ hb11 | with_reducible refine G.trans ?_ hb10 | with_reducible refine G.trans ?_ hb9 | with_reducible refine G.trans ?_ hb8 | with_reducible refine G.trans ?_ hb7 | with_reducible refine G.trans ?_ hb6 | with_reducible refine G.trans ?_ hb5 | with_reducible refine G.trans ?_ hb4 | with_reducible refine G.trans ?_ hb3 | with_reducible refine G.trans ?_ hb2 | with_reducible refine G.trans ?_ hb1 | with_reducible refine G.trans ?_ hb | assumption)⟩ ?_
  case o1 =>
    have h1 : Bx ((w.alloc (.cells #[.int .i64 0, .slice none 0 0] 105)).alloc (.cells #[.int .i64 0] 3)) (w.heap.size + 1) [.int .i64 0] := Bx.new (by simp) rfl
    exact OwnO.of_bx (h1.alloc _)
  intro w1 hS1
  replace hS1 := Lib.hid hS1
  go_loopw [] (fun wr => ∃ A c p f, Hid (ScW w t first w.heap.size (w.heap.size + 1 + 1) wr A c p) ∧ Hid (scanT f t p = R) ∧ Hid (t.length < p.size + f)) (fun wr => N + 2 - slLen wr ⟨w.heap.size + 1 + 1, 1, none⟩)
  case atStart => exact ⟨_, _, ⟨first, [0]⟩, t.length + 1, hS1, HR, by unfold Hid; omega⟩
  case round =>
    obtain ⟨A, c, p, f, H, HS, HF⟩ := hrel
    clear hS1 HR
    have hp1 : p.first = first := H.out.inv.1
    have hok := H.out.inv.ok ht hf
    have hsz := H.out.inv.size
    have hln := H.out.inv.2.2.2
    have hne := H.out.inv.2.1
    obtain ⟨d0, d1⟩ : wr.cell? ⟨w.heap.size + 1 + 1, 0, none⟩ = some (.int .i64 (first : Int)) ∧ wr.cell? ⟨w.heap.size + 1 + 1, 1, none⟩ = some (.slice A p.offs.length c) := ⟨(H.out.x6.2 0 _ rfl).1, (H.out.x6.2 1 _ rfl).1⟩
    have ltb := H.out.x6.lt
    have ltb4 := H.out.x4.lt
    have hm0 : Hid (slLen wr ⟨w.heap.size + 1 + 1, 1, none⟩ = p.offs.length) := Lib.hid (slLen_of d1)
    have PS := Lib.hid (fun (wx : World) (hb : Below wr.heap.size wr wx) => psize_any ⟨first, A, c, p.offs⟩ wx (H.out.own.grow hb).base0 (by rw [← hp1]; exact hok))
    have PB := Lib.hid (fun (wx : World) => pbehind_any ⟨first, A, c, p.offs⟩ wx (by rw [← hp1]; exact hok))
    rw [show (⟨first, A, c, p.offs⟩ : PR).val = .slice A p.offs.length c from rfl, show (⟨first, A, c, p.offs⟩ : PR).pt = p by rw [← hp1]; rfl] at PS PB
    dsimp only at PS PB
    have hq0 : 0 < p.offs.length := List.length_pos_iff.2 hne
    have PA := Lib.hid (fun (wx : World) => parse_any t (by omega) (p.size : Int) p.behind (wf_of (by unfold Pt.behind; omega) (by unfold Pt.behind; omega)) wx)
    obtain ⟨n, hn⟩ : ∃ n, p.offs.length = n := ⟨_, rfl⟩
    obtain ⟨z, hz⟩ : ∃ z, p.size = z := ⟨_, rfl⟩
    rw [hz] at PS PA hsz hln
    rw [hn] at d1 PS PB hln hq0
    have hNl : t.length = N := HN.out
    rw [hNl] at hsz
    by_cases hlt : z < N
    · have hlt' : (z : Int) < (N : Int) := by omega
      obtain ⟨f, rfl⟩ : ∃ g, f = g + 1 := ⟨f - 1, by have := HF.out; omega⟩
      have hsc := HS.out
      unfold scanT at hsc
      rw [if_pos (by omega), hz] at hsc
      unfold parseV at PA
      obtain ⟨bh, hbh⟩ : ∃ b, p.behind = b := ⟨_, rfl⟩
      rw [hbh] at PB PA hsc
      rcases hpp : parseP t (z : Int) bh with dd | ee
      · rw [hpp] at PA hsc
        dsimp only at PA hsc
        have hdl := Lib.hid (parseP_ok (t := t) (a := z) (n := bh) hpp)
        obtain ⟨y, hy⟩ : ∃ y, z + 16 + dd.length = y := ⟨_, rfl⟩
        rw [hy] at hsc hdl
        rw [show (z : Int) + 16 + (dd.length : Int) = (y : Int) by omega] at PA
        have hI2 := Lib.hid (H.out.inv.next (d := dd) (by rw [hz]; have := hdl.out; omega))
        rw [hz, hy] at hI2
        have hR := Lib.hid hsc
        have hFN : Hid (t.length < y + f) := by have := HF.out; unfold Hid; omega
        have hyz : Hid (n + 1 ≤ N + 1) := by unfold Hid; omega
        have hnn : n ≤ 16777217 := by omega
        obtain ⟨i0, hi, hz0, hz1, hz2⟩ := info_parts infoIntG
        clear hsc HS hpp hlt hz hbh hok hln hne hNl hsz hy HF
        go_wp2_with fail
        go_at_call 63
        (with_reducible refine (PS.out _ (G.refl _)).mono ?_)
        rintro e1 w2 ⟨rfl, hb2⟩
        replace d0 := G.cell d0 hb2
        replace d1 := G.cell d1 hb2
        replace ltb := cell_lt d0
        go_wp2_with fail
        refine wp_region_ord [(0, 1), (1, 1), (3, 1), (2, 2), (4, 2), (5, 2), (6, 1), (7, 1), (8, 1), (9, 1), (10, 1), (11, 1), (12, 1)] [] 16 (by kernel_rfl) (by decide +kernel) ?_
        simp only [pickO, List.append_eq, List.cons_append, List.nil_append, List.getElem?_cons_succ, List.getElem?_cons_zero]
        intro w0 hG
        (repeat ((first | (with_reducible refine ord_q1 ?_) | (with_reducible refine ord_q0 ?_)); intro K hK; first | (refine Or.inr ⟨?_, ?_⟩; (focus (go_simp; first | done | (simp [undef]; done))); go_simp; (with_reducible refine hK _ ?_); clear hK K) | (refine Or.inl ⟨?_, ?_⟩; (focus (go_simp; done)); apply Exists.intro; refine And.intro ?_ ?_; (focus (first | (intro wq hq; obtain ⟨hcq, hfq⟩ := G.old hq; go_simp; (first | done | exact rfl); done) | (intro wq; go_simp; (first | done | exact rfl); done))); go_simp; (with_reducible refine hK _ ?_); clear hK K) | fail))
        (with_reducible refine ord_run ?_ hG)
        intro K hK
        go_simp
        go_at_call 63; (with_reducible refine (PS.out _ (G.trans hb2 hG.b)).mono ?_); rintro e w3 ⟨rfl, hb3⟩
        replace hG := Grew.trans hG hb3
        (try dsimp only)
        (with_reducible refine hK _ _ hG ?_)
        clear hK K
        (repeat ((first | (with_reducible refine ord_q1 ?_) | (with_reducible refine ord_q0 ?_)); intro K hK; first | (refine Or.inr ⟨?_, ?_⟩; (focus (go_simp; first | done | (simp [undef]; done))); go_simp; (with_reducible refine hK _ ?_); clear hK K) | (refine Or.inl ⟨?_, ?_⟩; (focus (go_simp; done)); apply Exists.intro; refine And.intro ?_ ?_; (focus (first | (intro wq hq; obtain ⟨hcq, hfq⟩ := G.old hq; go_simp; (first | done | exact rfl); done) | (intro wq; go_simp; (first | done | exact rfl); done))); go_simp; (with_reducible refine hK _ ?_); clear hK K) | fail))
        (with_reducible refine ord_run ?_ hG)
        intro K hK
        go_simp
        go_at_call 59; (with_reducible refine (PB.out _).mono ?_); rintro e w3 ⟨rfl, hb3⟩
        replace hG := Grew.trans hG hb3
        (try dsimp only)
        (with_reducible refine hK _ _ hG ?_)
        clear hK K
        (repeat ((first | (with_reducible refine ord_q1 ?_) | (with_reducible refine ord_q0 ?_)); intro K hK; first | (refine Or.inr ⟨?_, ?_⟩; (focus (go_simp; first | done | (simp [undef]; done))); go_simp; (with_reducible refine hK _ ?_); clear hK K) | (refine Or.inl ⟨?_, ?_⟩; (focus (go_simp; done)); apply Exists.intro; refine And.intro ?_ ?_; (focus (first | (intro wq hq; obtain ⟨hcq, hfq⟩ := G.old hq; go_simp; (first | done | exact rfl); done) | (intro wq; go_simp; (first | done | exact rfl); done))); go_simp; (with_reducible refine hK _ ?_); clear hK K) | fail))
        (with_reducible refine ord_run ?_ hG)
        intro K hK
        go_simp
        go_at_call 16; (with_reducible refine (PA.out _).mono ?_); rintro e w3 ⟨rfl, hb3⟩
        replace hG := Grew.trans hG hb3
        (try dsimp only)
        (with_reducible refine hK _ _ hG ?_)
        clear hK K
        (repeat ((first | (with_reducible refine ord_q1 ?_) | (with_reducible refine ord_q0 ?_)); intro K hK; first | (refine Or.inr ⟨?_, ?_⟩; (focus (go_simp; first | done | (simp [undef]; done))); go_simp; (with_reducible refine hK _ ?_); clear hK K) | (refine Or.inl ⟨?_, ?_⟩; (focus (go_simp; done)); apply Exists.intro; refine And.intro ?_ ?_; (focus (first | (intro wq hq; obtain ⟨hcq, hfq⟩ := G.old hq; go_simp; (first | done | exact rfl); done) | (intro wq; go_simp; (first | done | exact rfl); done))); go_simp; (with_reducible refine hK _ ?_); clear hK K) | fail))
        (with_reducible refine ord_nil ?_)
        have hb3 := G.trans hb2 hG.b
        replace d0 := G.cell d0 hG.b
        replace d1 := G.cell d1 hG.b
        replace ltb := cell_lt d0
        have H2 := Lib.hid (H.out.grow hb3)
        have e0 := (H2.out.x4.2 0 _ rfl).1
        have e1 := (H2.out.x4.2 1 _ rfl).1
        have f0 := (H2.out.x4.2 0 _ rfl).2
        have f1 := (H2.out.x4.2 1 _ rfl).2
        have lt4 := H2.out.x4.lt
        clear hG H PS PB PA hb2 hb3
        clear e0 e1 f0 f1 lt4
        have HO := Lib.hid (H2.out.own.grow (G.alloc (G.refl w3) (.cells #[.int .i64 (y : Int)] 3)))
        rw [hn] at HO
        have hbs := Lib.hid H2.out.below.size
        go_wp2_with (at_builtin; refine wpList_appO rfl (.tmp 33) (.tmp 35) _ rfl w.heap.size 3 i0 _ 1 8 Tryz.underlying48 hi hz0 hz1 hz2 rfl A n c (natsC p.offs) rfl HO.out w3.heap.size 1 [.int .i64 (y : Int)] rfl rfl (fun j u hu => ((Bx.new (w := w3) (l := [.int .i64 (y : Int)]) (t := 3) rfl rfl).2 j u hu).1) (by simp [Value.oneCell']) (by unfold maxLen; omega) (by omega) (by have := hbs.out; simp; omega) ?_)
        intro A7 cc7 w7 ho7 hg7 hp7
        have H9 := Lib.hid (H2.out.next (z := y) hn (by omega) (by omega) (G.alloc (G.refl w3) (.cells #[.int .i64 (y : Int)] 3)) ho7 hg7 (by rcases hp7 with e | ⟨a, e1, e2⟩; exact .inl e; exact .inr (by rw [e1]; simp [e2])) hI2.out)
        have hg6 : w7.heap[w.heap.size + 1 + 1]? = (w3.alloc (.cells #[.int .i64 (y : Int)] 3)).heap[w.heap.size + 1 + 1]? := hg7.block _ (by simp; omega) fun e => by
          rcases A with _ | ad
          · cases e
          · simp at e
            exact (H2.out.out ad rfl).2 e.symm
        have k7 : w7.cell? ⟨w.heap.size + 1 + 1, 1, none⟩ = some (.slice A n c) := by rw [World.cell?_of_block hg6, World.cell?_of_block ((G.alloc (G.refl w3) _).block _ ltb)]; exact d1
        have kf7 : w7.frozen? ⟨w.heap.size + 1 + 1, 1, none⟩ = false := by rw [World.frozen?_of_block hg6, World.frozen?_of_block ((G.alloc (G.refl w3) _).block _ ltb)]; exact (H2.out.x6.2 1 _ rfl).2
        have lt7 := cell_lt k7
        clear HO ho7 hg7 hp7 hg6 hi hz0 hz1 hz2 d0 d1 H2 hI2
        go_wp2_with fail
        refine ⟨⟨A7, cc7, ⟨p.first, p.offs ++ [y]⟩, f, H9, hR, ?_⟩, ?_⟩
        · rw [size_snoc]
          exact hFN
        · have hm1 : slLen (w7.setCell ⟨w.heap.size + 1 + 1, 1, none⟩ (.slice A7 (n + 1) cc7)) ⟨w.heap.size + 1 + 1, 1, none⟩ = n + 1 := slLen_of (World.cell?_setCell_same' _ _ _ (by rw [k7]; rfl))
          have hm2 : slLen wr ⟨w.heap.size + 1 + 1, 1, none⟩ = n := by rw [hm0.out, hn]
          have := hyz.out
          rw [hm1, hm2]
          omega
      · rw [hpp] at PA hsc
        dsimp only at PA hsc
        have hee := parseP_bad hpp
        have hx2 : (ee != 0) = true := by rw [bne_iff_ne]; exact hee
        have hR := Lib.hid hsc
        clear hsc HS hpp hlt hz hbh hok hln hne hNl hsz hm0
        go_wp2_with fail
        go_at_call 63
        (with_reducible refine (PS.out _ (G.refl _)).mono ?_)
        rintro e1 w2 ⟨rfl, hb2⟩
        replace d0 := G.cell d0 hb2
        replace d1 := G.cell d1 hb2
        replace ltb := cell_lt d0
        go_wp2_with fail
        refine wp_region_ord [(0, 1), (1, 1), (3, 1), (2, 2), (4, 2), (5, 2), (6, 1), (7, 1), (8, 1), (9, 1), (10, 1), (11, 1), (12, 1)] [] 16 (by kernel_rfl) (by decide +kernel) ?_
        simp only [pickO, List.append_eq, List.cons_append, List.nil_append, List.getElem?_cons_succ, List.getElem?_cons_zero]
        intro w0 hG
        (repeat ((first | (with_reducible refine ord_q1 ?_) | (with_reducible refine ord_q0 ?_)); intro K hK; first | (refine Or.inr ⟨?_, ?_⟩; (focus (go_simp; first | done | (simp [undef]; done))); go_simp; (with_reducible refine hK _ ?_); clear hK K) | (refine Or.inl ⟨?_, ?_⟩; (focus (go_simp; done)); apply Exists.intro; refine And.intro ?_ ?_; (focus (first | (intro wq hq; obtain ⟨hcq, hfq⟩ := G.old hq; go_simp; (first | done | exact rfl); done) | (intro wq; go_simp; (first | done | exact rfl); done))); go_simp; (with_reducible refine hK _ ?_); clear hK K) | fail))
        (with_reducible refine ord_run ?_ hG)
        intro K hK
        go_simp
        go_at_call 63; (with_reducible refine (PS.out _ (G.trans hb2 hG.b)).mono ?_); rintro e w3 ⟨rfl, hb3⟩
        replace hG := Grew.trans hG hb3
        (try dsimp only)
        (with_reducible refine hK _ _ hG ?_)
        clear hK K
        (repeat ((first | (with_reducible refine ord_q1 ?_) | (with_reducible refine ord_q0 ?_)); intro K hK; first | (refine Or.inr ⟨?_, ?_⟩; (focus (go_simp; first | done | (simp [undef]; done))); go_simp; (with_reducible refine hK _ ?_); clear hK K) | (refine Or.inl ⟨?_, ?_⟩; (focus (go_simp; done)); apply Exists.intro; refine And.intro ?_ ?_; (focus (first | (intro wq hq; obtain ⟨hcq, hfq⟩ := G.old hq; go_simp; (first | done | exact rfl); done) | (intro wq; go_simp; (first | done | exact rfl); done))); go_simp; (with_reducible refine hK _ ?_); clear hK K) | fail))
        (with_reducible refine ord_run ?_ hG)
        intro K hK
        go_simp
        go_at_call 59; (with_reducible refine (PB.out _).mono ?_); rintro e w3 ⟨rfl, hb3⟩
        replace hG := Grew.trans hG hb3
        (try dsimp only)
        (with_reducible refine hK _ _ hG ?_)
        clear hK K
        (repeat ((first | (with_reducible refine ord_q1 ?_) | (with_reducible refine ord_q0 ?_)); intro K hK; first | (refine Or.inr ⟨?_, ?_⟩; (focus (go_simp; first | done | (simp [undef]; done))); go_simp; (with_reducible refine hK _ ?_); clear hK K) | (refine Or.inl ⟨?_, ?_⟩; (focus (go_simp; done)); apply Exists.intro; refine And.intro ?_ ?_; (focus (first | (intro wq hq; obtain ⟨hcq, hfq⟩ := G.old hq; go_simp; (first | done | exact rfl); done) | (intro wq; go_simp; (first | done | exact rfl); done))); go_simp; (with_reducible refine hK _ ?_); clear hK K) | fail))
        (with_reducible refine ord_run ?_ hG)
        intro K hK
        go_simp
        go_at_call 16; (with_reducible refine (PA.out _).mono ?_); rintro e w3 ⟨rfl, hb3⟩
        replace hG := Grew.trans hG hb3
        (try dsimp only)
        (with_reducible refine hK _ _ hG ?_)
        clear hK K
        (repeat ((first | (with_reducible refine ord_q1 ?_) | (with_reducible refine ord_q0 ?_)); intro K hK; first | (refine Or.inr ⟨?_, ?_⟩; (focus (go_simp; first | done | (simp [undef]; done))); go_simp; (with_reducible refine hK _ ?_); clear hK K) | (refine Or.inl ⟨?_, ?_⟩; (focus (go_simp; done)); apply Exists.intro; refine And.intro ?_ ?_; (focus (first | (intro wq hq; obtain ⟨hcq, hfq⟩ := G.old hq; go_simp; (first | done | exact rfl); done) | (intro wq; go_simp; (first | done | exact rfl); done))); go_simp; (with_reducible refine hK _ ?_); clear hK K) | fail))
        (with_reducible refine ord_nil ?_)
        have hb3 := G.trans hb2 hG.b
        replace d0 := G.cell d0 hG.b
        replace d1 := G.cell d1 hG.b
        replace ltb := cell_lt d0
        have H2 := Lib.hid (H.out.grow hb3)
        have e0 := (H2.out.x4.2 0 _ rfl).1
        have e1 := (H2.out.x4.2 1 _ rfl).1
        have f0 := (H2.out.x4.2 0 _ rfl).2
        have f1 := (H2.out.x4.2 1 _ rfl).2
        have lt4 := H2.out.x4.lt
        clear hG H PS PB PA hb2 hb3
        go_wp2_with fail
        obtain ⟨y1, y2, y3⟩ := H2.out.ret (b4 := w.heap.size) hn (Nat.le_refl _)
        have g0 := (y1.2 0 _ rfl).1
        have g1 := (y1.2 1 _ rfl).1
        refine bodyPost_ret (v := .tuple #[.agg #[.int .i64 (first : Int), .slice A n c], .int .i64 ee]) ?_ rfl ?_
        · simp only [results, Tryz.results61]
          go_simp
        · rw [← hR.out]
          exact ⟨A, c, by dsimp only; rw [hp1, hn], by dsimp only; rw [hn]; exact y2, y3⟩
    · have hlt' : ¬ (z : Int) < (N : Int) := by omega
      have hR : Hid (R = (p, 0)) := by
        have := HS.out
        rcases f with _ | f
        · exact this.symm
        · unfold scanT at this
          rw [if_neg (by omega)] at this
          exact this.symm
      have H2 := Lib.hid H.out
      have e0 := (H2.out.x4.2 0 _ rfl).1
      have e1 := (H2.out.x4.2 1 _ rfl).1
      have f0 := (H2.out.x4.2 0 _ rfl).2
      have f1 := (H2.out.x4.2 1 _ rfl).2
      clear HS hlt hz hok hln hne hNl hsz hm0 PB PA
      go_wp2_with fail
      go_at_call 63
      (with_reducible refine (PS.out _ (G.refl _)).mono ?_)
      rintro e1 w2 ⟨rfl, hb2⟩
      replace d0 := G.cell d0 hb2
      replace d1 := G.cell d1 hb2
      replace ltb := cell_lt d0
      replace H2 := Lib.hid (H2.out.grow hb2)
      have e0 := (H2.out.x4.2 0 _ rfl).1
      have e1 := (H2.out.x4.2 1 _ rfl).1
      have f0 := (H2.out.x4.2 0 _ rfl).2
      have f1 := (H2.out.x4.2 1 _ rfl).2
      have lt4 := H2.out.x4.lt
      clear H PS hb2
      go_wp2_with fail
      obtain ⟨y1, y2, y3⟩ := H2.out.ret (b4 := w.heap.size) hn (Nat.le_refl _)
      have g0 := (y1.2 0 _ rfl).1
      have g1 := (y1.2 1 _ rfl).1
      refine bodyPost_ret (v := .tuple #[.agg #[.int .i64 (first : Int), .slice A n c], .int .i64 0]) ?_ rfl ?_
      · simp only [results, Tryz.results61]
        go_simp
      · rw [hR.out]
        exact ⟨A, c, by dsimp only; rw [hp1, hn], by dsimp only; rw [hn]; exact y2, y3⟩
end Go.Proofs.YtbafnlccpbonmaaGreatDoor

namespace Go.Proofs.YtbafnlccpbonmaaGreatDoor
set_option linter.unusedVariables false
set_option linter.unnecessarySimpa false
set_option linter.unusedSimpArgs false
open Go.RowKit

def intsC (zs : List Int) : List Value := zs.map (Value.int .i64)
theorem sortN (l : List Nat) : (l.map fun n => ((n : Nat) : Int)).mergeSort (fun x y => decide (x ≤ y)) = (l.mergeSort fun x y => decide (x ≤ y)).map fun n => ((n : Nat) : Int) := by
  rw [List.map_mergeSort]
  intro a _ b _
  exact decide_eq_decide.2 (by omega)
theorem natsC_ints (l : List Nat) : natsC l = (l.map fun n => ((n : Nat) : Int)).map (Value.int .i64) := by unfold natsC; rw [List.map_map]; rfl
theorem sorti_any {w : World} {base : Nat} {A : Option Addr} {c n : Nat} {l : List Nat} (hn : l.length = n) (hown : w.ownsRow base 3 1 (.slice A n c) n (natsC l)) (hl : n ≤ 1000000) :
    Calls Tryz.prog 58 #[.slice A n c] w fun e w' => e = .returned (.tuple #[]) ∧ w.grownBy w' (Value.slice A n c).ownBlock ∧ w'.ownsRow base 3 1 (.slice A n c) n (natsC (l.mergeSort fun x y => decide (x ≤ y))) := by
  subst hn
  rw [natsC_ints] at hown
  rw [natsC_ints, ← sortN]
  obtain ⟨zs, hz⟩ : ∃ zs, (l.map fun n => ((n : Nat) : Int)) = zs := ⟨_, rfl⟩
  have hzl : l.length = zs.length := by rw [← hz, List.length_map]
  rw [hz] at hown ⊢
  rw [hzl] at hown hl ⊢
  clear hz hzl l
  rcases hown.2 with ⟨h, h0⟩ | ⟨g, cap, cur, hv, hbase, hb, h1, h2, h3, h4⟩
  · have : zs = [] := List.eq_nil_of_length_eq_zero h0
    subst this
    refine (Tryz.slices_Sort_int_none A c w).mono fun e w' hh => ⟨hh.1, ?_, ?_⟩
    · rw [hh.2]
      exact ⟨rfl, rfl, rfl, Nat.le_refl _, fun _ _ _ => rfl⟩
    · rw [hh.2]
      simp only [List.mergeSort_nil]
      exact hown
  · cases hv
    have h := Tryz.slices_Sort_int g 0 c zs w (holds_of_blockI hb (by rw [Nat.mul_one] at h4; exact h4)) (Array.getElem?_eq_some_iff.1 hb).1 (by omega)
    refine h.mono ?_
    rintro e w' ⟨rfl, n, os, rfl⟩
    exact ⟨rfl, grownBy_sortedI _, ownsRow_sortedI (ss := zs) (by rw [List.length_mergeSort]) hbase hb h1 h2 h3⟩
/-- The cells of an own row. -/
theorem row_ptr {w : World} {base : Nat} {e : TypeId} {A : Option Addr} {n c : Nat} {xs : List Value} (h : w.ownsRow base e 1 (.slice A n c) n xs) (hn : n ≠ 0) : ∃ g, A = some ⟨g, 0, none⟩ ∧ base ≤ g ∧ g < w.heap.size ∧ ∀ (j : Nat) (u : Value), xs[j]? = some u → w.cell? ⟨g, j, none⟩ = some u := by
  rcases h.2 with ⟨_, h0⟩ | ⟨g, cap, cur, hv, hbase, hb, h1, h2, h3, h4⟩
  · exact absurd h0 hn
  · cases hv
    refine ⟨g, rfl, hbase, (Array.getElem?_eq_some_iff.1 hb).1, fun j u hu => ?_⟩
    rw [← h4] at hu
    have hj := (List.getElem?_eq_some_iff.1 hu).1
    rw [List.length_take] at hj
    rw [List.getElem?_take_of_lt (by omega)] at hu
    unfold World.cell?
    simp only [hb]
    simpa using hu
section
variable {w0 w w' w2 w3 : World} {S0 T0 : Nat → Prop} {L d : Nat} {l l' : Lg} {s s' : Ds} {P P' : Option Addr} {c c' : Nat} {rs rs' : List PR} {T : Nat → Prop}
/-- The frame is taken anew, in a world that has grown since. -/
theorem LXr.reroot (h : LXr w0 S0 T0 w d L s l P c rs) : ∃ S, (∀ x, S x → x < w.heap.size ∧ ¬ hasL L P rs x) ∧ ∀ w6, Below w.heap.size w w6 → LXr w6 S (hasL L P rs) w6 d L s l P c rs ∧
    ∀ (Q : Nat → Prop), (∀ x, Q x → T0 x ∨ w0.heap.size ≤ x) → ∀ w' s' l' P' c' rs', LXr w6 S (fun x => hasL L P rs x ∨ Q x) w' d L s' l' P' c' rs' → LXr w0 S0 T0 w' d L s' l' P' c' rs' := by
  obtain ⟨S, h1, h3, h4⟩ := h.dev
  have hsz := h.chg.size
  refine ⟨S, fun x hx => ⟨h1.lt hx, h3 x hx⟩, fun w6 hb => ⟨⟨(h.grow hb).log, ⟨S, h1.grow hb, h3, fun x hx => .inl hx⟩, fun x hx => .inl hx, DChg.refl _ _⟩, fun Q hQ w' s' l' P' c' rs' k => ?_⟩⟩
  obtain ⟨S', k1, k3, k4⟩ := k.dev
  have hsb := hb.size
  refine ⟨k.log, ⟨S', k1, k3, fun x hx => ?_⟩, fun x hx => ?_, (h.grow hb).chg.trans k.chg fun x hx => ?_⟩
  · rcases k4 x hx with h6 | h6
    · exact h4 x h6
    · exact .inr (by omega)
  · rcases k.old x hx with (h6 | h6) | h6
    · exact h.old x h6
    · exact hQ x h6
    · exact .inr (by omega)
  · rcases hx with hx | hx | hx
    · rcases h4 x hx with h6 | h6
      · exact .inl (.inl h6)
      · exact .inr h6
    · rcases h.old x hx with h6 | h6
      · exact .inl (.inr h6)
      · exact .inr h6
    · rcases hQ x hx with h6 | h6
      · exact .inl (.inr h6)
      · exact .inr h6
theorem LXr.mono (h : LXr w0 S0 T0 w d L s l P c rs) {T1 : Nat → Prop} (hT : ∀ x, T0 x → T1 x) : LXr w0 S0 T1 w d L s l P c rs :=
  ⟨h.log, h.dev, fun x hx => (h.old x hx).imp (hT x) id, h.chg.mono fun x hx => hx.imp id (hT x)⟩
theorem LXr.dTrunc (h : LXr w0 S0 T0 w d L s l P c rs) (ho : s.Ok) (nm : List UInt8) (hm : nm.length ≤ 41) (z : Int) : Calls Tryz.prog 30 #[.pointer (some ⟨d, 0, none⟩), .string (B nm), .int .i64 z] w fun e w' => e = .returned (.int .i64 (truncD s nm z).1) ∧ LXr w0 S0 T0 w' d L (truncD s nm z).2 l P c rs := by
  have := h.runE fun S hD => trunc_any hD ho (B nm) (by rw [B_size]; unfold maxLen; omega) z
  rw [B_list] at this
  exact this
/-- A block that is in no block of the frame is as it was. -/
theorem LXr.kept (h : LXr w0 S0 T0 w d L s l P c rs) {x : Nat} (hx : x < w0.heap.size) (hs : ¬ S0 x) (ht : ¬ T0 x) : w.heap[x]? = w0.heap[x]? := h.chg.2.2 x (fun hh => by rcases hh with hh | hh; exact hs hh; exact ht hh) hx
theorem LXr.own2 (h : LXr w0 S0 T0 w d L s l P c rs) (k1 : LogR w' L d l' P' c' rs') (k2 : ∀ x, hasL L P' rs' x → hasL L P rs x ∨ w.heap.size ≤ x ∨ (T0 x ∧ ¬ S0 x ∧ x < w0.heap.size)) (k3 : DChg (hasL L P rs) w w') : LXr w0 S0 T0 w' d L s l' P' c' rs' := by
  obtain ⟨S, h1, h3, h4⟩ := h.dev
  have hsz := h.chg.size
  refine ⟨k1, ⟨S, h1.other k3 h3, fun x hx ht => ?_, h4⟩, fun x hx => ?_, h.chg.trans k3 fun x hx => ?_⟩
  · rcases k2 x ht with h6 | h6 | ⟨h6, h7, h8⟩
    · exact h3 x hx h6
    · have := h1.lt hx
      omega
    · rcases h4 x hx with h9 | h9
      · exact h7 h9
      · omega
  · rcases k2 x hx with h6 | h6 | h6
    · exact h.old x h6
    · exact .inr (by omega)
    · exact .inl h6.1
  · rcases h.old x hx with h6 | h6
    · exact .inl (.inr h6)
    · exact .inr h6
theorem LogR.addPart {q : PR} (h : LogR w L d l P c rs) (hb : Below w.heap.size w w2) (hq : OwnO w2 0 1 q.A q.offs.length q.cap (natsC q.offs)) (hqx : ∀ x, q.has x → ¬ hasL L P rs x)
    (ho : OwnO w3 0 2 P' (rs.length + 1) c' (rowP rs ++ [.int .i64 (q.first : Int), q.val])) (hg : w2.grownBy w3 (P.map (·.block))) (hP : P'.map (·.block) = P.map (·.block) ∨ P'.map (·.block) = some w2.heap.size) :
    LogR (w3.setCell ⟨L, 3, none⟩ (.slice P' (rs.length + 1) c')) L d { l with parts := l.parts ++ [q.pt] } P' c' (rs ++ [q]) ∧
    (∀ x, hasL L P' (rs ++ [q]) x → hasL L P rs x ∨ w.heap.size ≤ x ∨ q.has x) ∧ DChg (hasL L P rs) w (w3.setCell ⟨L, 3, none⟩ (.slice P' (rs.length + 1) c')) := by
  have hL := h.box.lt
  have hs2 := hb.size
  have hs3 := hg.size
  have hPb : ∀ ad, P = some ad → ad.block < w.heap.size := fun ad ha => h.lt (.inr (.inl ⟨ad, ha, rfl⟩))
  have hqlt : ∀ x, q.has x → x < w2.heap.size := fun x hx => by
    obtain ⟨ad, ha, rfl⟩ := hx
    exact (hq.lt ha).1
  have hP' : ∀ ad, P' = some ad → (∃ ap, P = some ap ∧ ad.block = ap.block) ∨ ad.block = w2.heap.size := fun ad ha => by
    subst ha
    rcases hP with hP | hP
    · rcases P with _ | ap
      · simp at hP
      · simp at hP
        exact .inl ⟨ap, rfl, hP⟩
    · simp at hP
      exact .inr hP
  have hk3 : ∀ x, x < w.heap.size → (∀ ad, P = some ad → ad.block ≠ x) → w3.heap[x]? = w.heap[x]? := fun x hx hn => by
    rw [hg.block x (by omega) (fun e => by
      rcases P with _ | ad
      · cases e
      · simp at e
        exact hn ad rfl e.symm), hb.block x hx]
  have hk4 : ∀ x, x ≠ L → (w3.setCell ⟨L, 3, none⟩ (.slice P' (rs.length + 1) c')).heap[x]? = w3.heap[x]? := fun x hx => Below.heap_setCell _ _ _ _ hx
  have hs4 : w3.heap.size ≤ (w3.setCell ⟨L, 3, none⟩ (.slice P' (rs.length + 1) c')).heap.size := by simp [World.setCell]
  have hqb : ∀ x, q.has x → w3.heap[x]? = w2.heap[x]? := fun x hx => hg.block x (hqlt x hx) fun e => by
    rcases P with _ | ad
    · cases e
    · simp at e
      exact hqx x hx (.inr (.inl ⟨ad, rfl, e.symm⟩))
  have hqL : ∀ x, q.has x → x ≠ L := fun x hx e => hqx x hx (.inl e)
  have hPL : ∀ ad, P' = some ad → ad.block ≠ L := fun ad ha => by
    rcases hP' ad ha with ⟨ap, hp, e⟩ | e
    · rw [e]; exact h.pl ap hp
    · omega
  refine ⟨⟨?_, ?_, ?_, ?_, ?_, hPL, ?_⟩, ?_, ?_⟩
  · have : Bx w3 L _ := h.box.block (by omega) (hk3 L hL h.pl)
    refine this.put ?_
    simp
  · have e : rowP (rs ++ [q]) = rowP rs ++ [.int .i64 (q.first : Int), q.val] := by rw [rowP_app]; rfl
    rw [e, List.length_append]
    exact ho.block hs4 fun ad ha => hk4 _ (hPL ad ha)
  · intro r hr
    rcases List.mem_append.1 hr with hr | hr
    · exact (h.each r hr).block (by omega) fun ad ha => by
        have hh := h.out r hr _ ⟨ad, ha, rfl⟩
        rw [hk4 _ hh.1, hk3 _ (h.lt (.inr (.inr ⟨r, hr, ad, ha, rfl⟩))) hh.2]
    · simp at hr
      subst hr
      exact hq.block (by omega) fun ad ha => by rw [hk4 _ (hqL _ ⟨ad, ha, rfl⟩), hqb _ ⟨ad, ha, rfl⟩]
  · rw [List.pairwise_append]
    refine ⟨h.apart, by simp, fun r hr q' hq' x hx hy => ?_⟩
    simp at hq'
    subst hq'
    exact hqx x hy (.inr (.inr ⟨r, hr, hx⟩))
  · intro r hr x hx
    rcases List.mem_append.1 hr with hr | hr
    · have hh := h.out r hr x hx
      refine ⟨hh.1, fun ad ha => ?_⟩
      rcases hP' ad ha with ⟨ap, hp, e⟩ | e
      · rw [e]; exact hh.2 ap hp
      · have := h.lt (.inr (.inr ⟨r, hr, hx⟩))
        omega
    · simp at hr
      subst hr
      refine ⟨hqL x hx, fun ad ha => ?_⟩
      rcases hP' ad ha with ⟨ap, hp, e⟩ | e
      · intro e2
        exact hqx x hx (.inr (.inl ⟨ap, hp, by omega⟩))
      · have := hqlt x hx
        omega
  · rw [List.map_append, ← h.eq]
    rfl
  · intro x hx
    rcases hx with rfl | ⟨ad, ha, rfl⟩ | ⟨r, hr, hx⟩
    · exact .inl (.inl rfl)
    · rcases hP' ad ha with ⟨ap, hp, e⟩ | e
      · exact .inl (.inr (.inl ⟨ap, hp, e.symm⟩))
      · exact .inr (.inl (by omega))
    · rcases List.mem_append.1 hr with hr | hr
      · exact .inl (.inr (.inr ⟨r, hr, hx⟩))
      · simp at hr
        subst hr
        exact .inr (.inr hx)
  · exact ((DChg.of_below hb).grownBy hg fun g hg => by
      rcases P with _ | ad
      · cases hg
      · simp at hg
        exact .inr (.inl ⟨ad, rfl, hg⟩)).setCell (.inl rfl) _ _
end
theorem scanT_inv {t : List UInt8} {first : Nat} : ∀ (f : Nat) (p : Pt), ScI t first p → ScI t first (scanT f t p).1
  | 0, p, h => h
  | f + 1, p, h => by
    unfold scanT
    split
    · rcases hp : parseP t (p.size : Int) p.behind with dd | e
      · exact scanT_inv f _ (h.next (parseP_ok hp))
      · exact h
    · exact h
theorem scan_start (t : List UInt8) (n : Nat) : ScI t n ⟨n, [0]⟩ := ⟨rfl, by simp, by simp, by simp⟩
/-! ### Open, plainly -/
/-- The number behind the last segment. -/
def lastB (ps : List Pt) : Int := match ps.getLast? with
  | some p => p.behind
  | none => 0
theorem lastB_some {ps : List Pt} {p : Pt} (h : ps.getLast? = some p) : lastB ps = p.behind := by unfold lastB; rw [h]
def openN (nm : List UInt8) : List Nat → Ds → List Pt → Int × Ds × List Pt
  | [], s, ps => (0, s, ps)
  | n :: r, s, ps =>
    if ps ≠ [] ∧ (n : Int) ≠ lastB ps then (33, s, ps)
    else if (textD s (fileR nm n).1).2 ≠ 0 then ((textD s (fileR nm n).1).2, s, ps)
    else
      let p := scanT ((textD s (fileR nm n).1).1.length + 1) (textD s (fileR nm n).1).1 ⟨n, [0]⟩
      if p.2 ≠ 0 ∧ r ≠ [] then (p.2, s, ps)
      else if p.2 ≠ 0 then
        (if (truncD s (fileR nm n).1 p.1.size).1 ≠ 0 then ((truncD s (fileR nm n).1 p.1.size).1, (truncD s (fileR nm n).1 p.1.size).2, ps) else openN nm r (truncD s (fileR nm n).1 p.1.size).2 (ps ++ [p.1]))
      else openN nm r s (ps ++ [p.1])
def firstsN (nm : List UInt8) (fs : List (List UInt8)) : List Nat := (fs.filterMap (numM nm)).mergeSort (fun a b => decide (a ≤ b))
def openG (s : Ds) (nm : List UInt8) (lim : Int) : Int × Ds × Option Lg :=
  if s.down = true then (31, s, none) else if nameC nm = false then (12, s, none) else if lim < 64 ∨ 4194304 < lim then (2, s, none)
  else
    let r := openN nm (firstsN nm (namesC s.fs)) s []
    if r.1 ≠ 0 then (r.1, r.2.1, none)
    else
      let q := lsync r.2.1 ⟨nm, lim, r.2.2, 0⟩
      if q.1 ≠ 0 then (q.1, q.2.1, none) else (0, q.2.1, some q.2.2)
end Go.Proofs.YtbafnlccpbonmaaGreatDoor
