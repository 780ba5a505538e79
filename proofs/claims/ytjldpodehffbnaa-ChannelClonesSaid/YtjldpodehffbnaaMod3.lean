/- The model's least, put. -/
import Derived.Test.YtjldpodehffbnaaMod2
import Derived.Test.YtjldpodehffbnaaChan7
namespace Go.Proofs.Ytjldpodehffbnaa
set_option linter.unusedVariables false
set_option linter.unnecessarySimpa false
set_option linter.unusedSimpArgs false
open Go.RowKit

theorem OwnO.cells {w : World} {base size : Nat} {A : Option Addr} {n c : Nat} {xs : List Value} (h : OwnO w base size A n c xs) {j : Nat} (hj : j < n) (hs : 0 < size) :
    ∃ g off, A = some ⟨g, off, none⟩ ∧ g < w.heap.size ∧ (∀ i u, ((xs.drop (j * size)).take size)[i]? = some u → w.cell? ⟨g, off + j * size + i, none⟩ = some u) := by
  obtain ⟨h1, h2, h3, h4⟩ := h
  rcases h4 with ⟨_, h4, _⟩ | ⟨g, off, he, _, hl, _, hc⟩
  · omega
  · refine ⟨g, off, he, hl, fun i u hu => ?_⟩
    have hi : i < size := by
      have := (List.getElem?_eq_some_iff.1 hu).1
      simp at this
      omega
    rw [List.getElem?_take_of_lt hi, List.getElem?_drop] at hu
    have := hc _ u hu
    rwa [← Nat.add_assoc] at this
/-- A stamp that lies in data has come back. -/
def RetML (ok : Nat → Prop) (e : Int) (p : List Int) (w : World) (end_ : Ending) (w' : World) : Prop :=
  ∃ A n c, end_ = .returned (.agg #[.int .i64 e, .slice A n c]) ∧ PathIs ok w' A n c p ∧ Below w.heap.size w w'
set_option maxRecDepth 20000 in set_option maxHeartbeats 1000000 in
theorem mleast_any {ok : Nat → Prop} {base : Nat} {w : World} {mb : Nat} {c : Ch} (h : ModAt ok base w mb c) :
    Calls Try.prog 32 #[.pointer (some ⟨mb, 0, none⟩)] w (RetML ok (leE c) (leP c) w) := by
  obtain ⟨IA, q, xs, P1, P2, n1, c1, n2, c2, hI⟩ := h
  have HI := Lib.hid hI
  have k1 := (hI.1.2 1 _ rfl).1
  have k2 := (hI.1.2 2 _ rfl).1
  have k3 := (hI.1.2 3 _ rfl).1
  have lt := hI.1.lt
  have H4 := Lib.hid hI.2.2.2.1
  rcases hit : c.items with _ | ⟨it, l⟩
  · have he : leE c = c.me := by unfold leE; rw [hit]
    have hp : leP c = c.mp := by unfold leP; rw [hit]
    rw [he, hp]
    rw [hit] at k1
    clear he hp hI
    go_enter Try.func32, Try.ntmps32
    go_wp2_with fail
    exact bodyPost_ret (v := .agg #[.int .i64 c.me, .slice P1 n1 c1]) (by simp only [results, Try.results32]; go_simp) rfl ⟨P1, n1, c1, rfl, H4.out.grow (by repeat (first | with_reducible assumption | with_reducible exact G.refl _ | with_reducible refine G.drew ?_ | with_reducible refine G.drewN ?_ _ | with_reducible refine G.alloc ?_ _ | with_reducible refine Below.setCell ?_ (by first | (simp; done) | (simp; omega)) _ | with_reducible refine G.trans ?_ hb12 | with_reducible refine G.trans ?_ hb11 | with_reducible refine G.trans ?_ hb10 | with_reducible refine G.trans ?_ hb9 | with_reducible refine G.trans ?_ hb8 | with_reducible refine G.trans ?_ hb7 | with_reducible refine G.trans ?_ hb6 | with_reducible refine G.trans ?_ hb5 | with_reducible refine G.trans ?_ hb4 | with_reducible refine G.trans ?_ hb3 | with_reducible refine G.trans ?_ hb2 | with_reducible refine G.trans ?_ hb1 | with_reducible refine G.trans ?_ hb | assumption)), by repeat (first | with_reducible assumption | with_reducible exact G.refl _ | with_reducible refine G.drew ?_ | with_reducible refine G.drewN ?_ _ | with_reducible refine G.alloc ?_ _ | with_reducible refine Below.setCell ?_ (by first | (simp; done) | (simp; omega)) _ | with_reducible refine G.trans ?_ hb12 | with_reducible refine G.trans ?_ hb11 | with_reducible refine G.trans ?_ hb10 | with_reducible refine G.trans ?_ hb9 | with_reducible refine G.trans ?_ hb8 | with_reducible refine G.trans ?_ hb7 | with_reducible refine G.trans ?_ hb6 | with_reducible refine G.trans ?_ hb5 | with_reducible refine G.trans ?_ hb4 | with_reducible refine G.trans ?_ hb3 | with_reducible refine G.trans ?_ hb2 | with_reducible refine G.trans ?_ hb1 | with_reducible refine G.trans ?_ hb | assumption)⟩
  · have he : leE c = it.e := by unfold leE; rw [hit]
    have hp : leP c = it.p := by unfold leP; rw [hit]
    have hlen : c.items.length = l.length + 1 := by rw [hit]; rfl
    have hiv := hI.2.2.1 0 it (by rw [hit]; rfl)
    obtain ⟨g, off, rfl, hgl, hch⟩ := hI.2.1.cells (j := 0) (by rw [hlen]; omega) (by decide)
    rw [Nat.zero_mul] at hiv hch
    obtain ⟨z0, A5, n5, c5', z1, A6, n6, c6', z2, z3, z4, z5, A7, n7, c7', A8, n8, c8', A9, n9, c9', hce⟩ := item_cells hiv
    rw [hce] at hiv hch
    have e0 : w.cell? ⟨g, off, none⟩ = _ := hch 0 _ rfl
    have e1 := hch 1 _ rfl
    have e2 := hch 2 _ rfl
    have e3 := hch 3 _ rfl
    have e4 := hch 4 _ rfl
    have e5 := hch 5 _ rfl
    have e6 := hch 6 _ rfl
    have e7 := hch 7 _ rfl
    have e8 := hch 8 _ rfl
    have e9 := hch 9 _ rfl
    have e10 := hch 10 _ rfl
    simp only [Nat.add_zero] at e1 e2 e3 e4 e5 e6 e7 e8 e9 e10
    rw [he, hp]
    rw [hlen] at k1
    have hgt : (0 : Int) < ((l.length + 1 : Nat) : Int) := by omega
    replace hiv := Lib.hid (hiv.mono (ok' := fun x => ok x ∧ x ≠ w.heap.size) fun x hx ho => ⟨ho, by omega⟩)
    clear he hp hI hch hce hlen hit k2 k3 H4
    go_enter Try.func32, Try.ntmps32
    go_wp2_with fail
    refine (ofc_any hiv.out (by repeat (first | with_reducible assumption | with_reducible exact G.refl _ | with_reducible refine G.drew ?_ | with_reducible refine G.drewN ?_ _ | with_reducible refine G.alloc ?_ _ | with_reducible refine Below.setCell ?_ (by first | (simp; done) | (simp; omega)) _ | with_reducible refine G.trans ?_ hb12 | with_reducible refine G.trans ?_ hb11 | with_reducible refine G.trans ?_ hb10 | with_reducible refine G.trans ?_ hb9 | with_reducible refine G.trans ?_ hb8 | with_reducible refine G.trans ?_ hb7 | with_reducible refine G.trans ?_ hb6 | with_reducible refine G.trans ?_ hb5 | with_reducible refine G.trans ?_ hb4 | with_reducible refine G.trans ?_ hb3 | with_reducible refine G.trans ?_ hb2 | with_reducible refine G.trans ?_ hb1 | with_reducible refine G.trans ?_ hb | assumption))).mono ?_
    rintro e' w3 ⟨A', n', c', rfl, hr, hb3⟩
    have x3 : Bx w3 w.heap.size [.int .i64 0, .slice none 0 0] := Bx.grow (by repeat (first | with_reducible assumption | (with_reducible exact Bx.new (by simp; done) (by rfl)) | (with_reducible refine Bx.alloc ?_ _) | (with_reducible refine Bx.drewN ?_ _) | ((with_reducible apply Bx.put); rotate_right; (first | rfl | skip)) | (with_reducible refine Bx.other ?_ (by first | (simp; done) | (simp; omega)) _))) hb3
    have hb0 : Below w.heap.size w w3 := G.trans (by repeat (first | with_reducible assumption | with_reducible exact G.refl _ | with_reducible refine G.drew ?_ | with_reducible refine G.drewN ?_ _ | with_reducible refine G.alloc ?_ _ | with_reducible refine Below.setCell ?_ (by first | (simp; done) | (simp; omega)) _ | with_reducible refine G.trans ?_ hb12 | with_reducible refine G.trans ?_ hb11 | with_reducible refine G.trans ?_ hb10 | with_reducible refine G.trans ?_ hb9 | with_reducible refine G.trans ?_ hb8 | with_reducible refine G.trans ?_ hb7 | with_reducible refine G.trans ?_ hb6 | with_reducible refine G.trans ?_ hb5 | with_reducible refine G.trans ?_ hb4 | with_reducible refine G.trans ?_ hb3 | with_reducible refine G.trans ?_ hb2 | with_reducible refine G.trans ?_ hb1 | with_reducible refine G.trans ?_ hb | assumption)) hb3
    obtain ⟨m0, g0⟩ := x3.2 0 _ rfl
    obtain ⟨m1, g1⟩ := x3.2 1 _ rfl
    go_wp2_with fail
    exact bodyPost_ret (v := .agg #[.int .i64 it.e, .slice A' n' c']) (by simp only [results, Try.results32]; go_simp) rfl ⟨A', n', c', rfl, (hr.keep (((Keeps.refl _ _).setCell (fun h => h.2 rfl) _).setCell (fun h => h.2 rfl) _)).mono fun _ _ h => h.1, (hb0.setCell (by simp) _).setCell (by simp) _⟩
end Go.Proofs.Ytjldpodehffbnaa
