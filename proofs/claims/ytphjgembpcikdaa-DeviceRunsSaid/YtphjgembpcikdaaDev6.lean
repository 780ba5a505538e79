/- device: an operation that the power may fail at; Create. -/
import Derived.Test.YtphjgembpcikdaaDev5
namespace Go.Proofs.Ytphjgembpcikdaa
set_option linter.unusedVariables false
set_option linter.unnecessarySimpa false
set_option linter.unusedSimpArgs false
open Go.RowKit

def putFl (fs : List Fl) (x : Fl) : List Fl := insC x (delC fs x.name)
/-- An operation, unless the power fails; what lies ahead of it is done in both cases. -/
def perfD (s : Ds) (f g : Ds → Ds) : Int × Ds := if s.lim = true ∧ s.left ≤ 0 then (31, { f s with down := true }) else (0, g { f s with left := IntKind.i64.wrap (s.left - 1) })
/-- What an operation gives and leaves. -/
def RetE (d : Nat) (S : Nat → Prop) (r : Int × Ds) (w : World) (e : Ending) (w' : World) : Prop := e = .returned (.int .i64 r.1) ∧ RetD d S r.2 w w'
section
variable {w w' w1 : World} {d mb : Nat} {s s' : Ds} {fs : List FR} {r q x : FR} {S : Nat → Prop} {n : List UInt8}
theorem RetD.after (hc : DChg S w w1) (h : RetD d S s w1 w') : RetD d S s w w' := by
  obtain ⟨S', h1, h2, h3⟩ := h
  have hs := hc.size
  exact ⟨S', h1, fun z hz => by rcases h2 z hz with h4 | h4; exact .inl h4; exact .inr (by omega), hc.trans h3 fun z hz => .inl hz⟩
theorem RetD.then_below (h : RetD d S s w w1) (hb : Below w1.heap.size w1 w') : RetD d S s w w' := by
  obtain ⟨S', h1, h2, h3⟩ := h
  exact ⟨S', h1.grow hb, h2, h3.trans (DChg.of_below (S := S) hb) fun z hz => .inl hz⟩
theorem perform_op {n2 : Nat} {c2 : Array Value} {g : Ds → Ds} (hR : DevR w d mb s fs) (hS : ∀ z, S z ↔ hasD d mb fs z) (e2 : Ent n2 c2)
    (h2 : ∀ w1, DevR w1 d mb { s with left := IntKind.i64.wrap (s.left - 1) } fs → (∀ b l, Bx w b l → b ≠ d → Bx w1 b l) → w1.heap.size = w.heap.size →
      Calls Try.prog n2 c2 w1 fun e w' => e = .returned (.tuple #[]) ∧ RetD d S (g { s with left := IntKind.i64.wrap (s.left - 1) }) w1 w') :
    Calls Try.prog 38 #[.pointer (some ⟨d, 0, none⟩), .func (.func 39) #[] #[], .func (.func n2) #[] c2] w (RetE d S (perfD s id g) w) := by
  have hSd : S d := (hS d).2 (.inl rfl)
  unfold RetE perfD
  by_cases hf : s.lim = true ∧ s.left ≤ 0
  · rw [if_pos hf]
    have hbx := hR.box
    rw [hf.1] at hbx
    refine (perform_fail (D1 := fun w1 => w1 = w) (ent_nothing #[]) ((nothing_any w).mono fun e w' h => ⟨h.1, by rw [h.2]; exact hbx, h.2⟩) hf.2).mono ?_
    rintro e w' ⟨rfl, w0, rfl, rfl⟩
    exact ⟨rfl, hR.chg hS (hR.cell (s' := { s with down := true }) rfl rfl) ((DChg.refl _ _).setCell hSd _ _)⟩
  · rw [if_neg hf]
    refine (perform_go (D1 := fun w1 => w1 = w) (D2 := fun w' => RetD d S (g { s with left := IntKind.i64.wrap (s.left - 1) }) w w') (ent_nothing #[]) e2 ((nothing_any w).mono fun e w' h => ⟨h.1, by rw [h.2]; exact hR.box, h.2⟩) ?_ ?_).mono ?_
    · rcases hl : s.lim with _ | _
      · exact .inl rfl
      · refine .inr ?_
        rcases Int.lt_or_le 0 s.left with h3 | h3
        · exact h3
        · exact absurd ⟨hl, h3⟩ hf
    · rintro w0 rfl
      refine (h2 _ (hR.cell (s' := { s with left := IntKind.i64.wrap (s.left - 1) }) rfl rfl) (fun b l hb hne => hb.other (by simpa using hne) _) (by simp)).mono ?_
      rintro e w' ⟨rfl, hr⟩
      exact ⟨rfl, hr.after ((DChg.refl _ _).setCell hSd _ _)⟩
    · rintro e w' ⟨rfl, hr⟩
      exact ⟨rfl, hr⟩
theorem zeroP (w : World) : (zeroValue 71).run Try.prog w = .ok (.pointer none) w := by kernel_rfl
set_option maxRecDepth 20000 in set_option maxHeartbeats 1000000 in
theorem create1_any {B2 B3 : Nat} {nm : ByteArray} (hR : DevR w d mb s fs) (hS : ∀ z, S z ↔ hasD d mb fs z) (hb2 : Bx w B2 [.pointer (some ⟨d, 0, none⟩)]) (hb3 : Bx w B3 [.string nm]) (hn : nm.size ≤ 64) (hc : fs.length < 4096) :
    Calls Try.prog 40 #[.pointer (some ⟨B2, 0, none⟩), .pointer (some ⟨B3, 0, none⟩)] w fun e w' => e = .returned (.tuple #[]) ∧ RetD d S { s with fs := putFl s.fs ⟨nm.data.toList, [], 0⟩ } w w' := by
  have k1 := (hR.box.2 1 _ rfl).1
  have lt := hR.box.lt
  have c2 := (hb2.2 0 _ rfl).1
  have c3 := (hb3.2 0 _ rfl).1
  have lt2 := hb2.lt
  have lt3 := hb3.lt
  have H := Lib.hid hR
  clear hR hb2 hb3
  go_enter Try.func40, Try.ntmps40
  go_wp2_with fail
  refine wp_region_ord [(0, 1), (1, 1), (2, 1), (3, 1), (4, 1), (5, 1), (6, 2), (7, 3)] [7] 5 (by kernel_rfl) (by decide +kernel) ?_
  simp only [pickO, List.append_eq, List.cons_append, List.nil_append, List.getElem?_cons_succ, List.getElem?_cons_zero]
  intro w0 hG
  (repeat ((first | (with_reducible refine ord_q1 ?_) | (with_reducible refine ord_q0 ?_)); intro K hK; first | (refine Or.inr ⟨?_, ?_⟩; (focus (go_simp; first | done | (simp [undef]; done))); go_simp; (with_reducible refine hK _ ?_); clear hK K) | (refine Or.inl ⟨?_, ?_⟩; (focus (go_simp; done)); apply Exists.intro; refine And.intro ?_ ?_; (focus (first | (intro wq hq; obtain ⟨hcq, hfq⟩ := G.old hq; go_simp; (first | done | exact rfl); done) | (intro wq; go_simp; (first | done | exact rfl); done))); go_simp; (with_reducible refine hK _ ?_); clear hK K) | fail))
  have hs0 := hG.b.size
  (with_reducible refine ord_run ?_ hG)
  intro K hK
  go_simp
  replace hG := Grew.alloc hG (.cells #[.slice none 0 0, .int .i64 0] 74)
  (with_reducible refine hK _ _ hG ?_)
  clear hK K
  (repeat ((first | (with_reducible refine ord_q1 ?_) | (with_reducible refine ord_q0 ?_)); intro K hK; first | (refine Or.inr ⟨?_, ?_⟩; (focus (go_simp; first | done | (simp [undef]; done))); go_simp; (with_reducible refine hK _ ?_); clear hK K) | (refine Or.inl ⟨?_, ?_⟩; (focus (go_simp; done)); apply Exists.intro; refine And.intro ?_ ?_; (focus (first | (intro wq hq; obtain ⟨hcq, hfq⟩ := G.old hq; go_simp; (first | done | exact rfl); done) | (intro wq; go_simp; (first | done | exact rfl); done))); go_simp; (with_reducible refine hK _ ?_); clear hK K) | fail))
  have hH := (H.out.grow hG.b)
  obtain ⟨w', hrun, hm, ht⟩ := store_fs hH.map Try.underlying9 Try.underlying67 (by unfold maxLen; omega) (s := nm) (by unfold maxLen; omega) (⟨nm.data.toList, w0.heap.size, none, 0, [], 0⟩ : FR) rfl
  have hF : FileAt (w0.alloc (.cells #[.slice none 0 0, .int .i64 0] 74)) (⟨nm.data.toList, w0.heap.size, none, 0, [], 0⟩ : FR) := ⟨Bx.new rfl rfl, World.ownsRow_nil _ _ _ _, by simp [FR.val, Value.ownBlock]⟩
  have hput := hH.put hF (fun z hz hh => by
    have h1 := H.out.lt hh
    rcases hz with rfl | hz
    · have : (⟨nm.data.toList, w0.heap.size, none, 0, [], 0⟩ : FR).fb = w0.heap.size := rfl
      omega
    · cases hz) ht hm
  have hfin : RetD d S { s with fs := putFl s.fs ⟨nm.data.toList, [], 0⟩ } w w' := by
    refine ⟨_, ⟨mb, _, hput, fun z => Iff.rfl⟩, fun z hz => ?_, (DChg.of_below (S := S) hG.b).trans (DChg.turned (S := S) ht ((hS _).2 (.inr (.inl rfl)))) fun z hz => .inl hz⟩
    rcases hz with rfl | rfl | ⟨y, hy, hz⟩
    · exact .inl ((hS _).2 (.inl rfl))
    · exact .inl ((hS _).2 (.inr (.inl rfl)))
    · rcases putF_mem.1 hy with rfl | ⟨hy, _⟩
      · rcases hz with rfl | hz
        · exact .inr hs0
        · cases hz
      · exact .inl ((hS _).2 (.inr (.inr ⟨y, hy, hz⟩)))
  replace hfin := Lib.hid hfin
  clear hput hF hm ht hH
  ((with_reducible refine ord_tail ?_); intro K hK; go_simp; (with_reducible refine hK _ _ ?_); clear hK K)
  (with_reducible refine ord_nil ?_)
  go_end0
  exact ⟨rfl, hfin.out⟩
end
end Go.Proofs.Ytphjgembpcikdaa
