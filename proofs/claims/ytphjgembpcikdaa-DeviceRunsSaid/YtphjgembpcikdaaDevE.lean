/- device: List. -/
import Derived.Test.YtphjgembpcikdaaIter
namespace Go.Proofs.Ytphjgembpcikdaa
set_option linter.unusedVariables false
set_option linter.unnecessarySimpa false
set_option linter.unusedSimpArgs false
open Go.RowKit

def strs (l : List (List UInt8)) : List Value := l.map fun b => .string (BA b)
theorem enc_strs (l : List (List UInt8)) : l.map encStr = strs l := rfl
def namesC (fs : List Fl) : List (List UInt8) := fs.map (·.name)
section
variable {w w' w1 : World} {d mb : Nat} {s s' : Ds} {fs : List FR} {r q x : FR} {S : Nat → Prop} {n : List UInt8}
def RetS (l : List (List UInt8)) (w : World) (e : Ending) (w' : World) : Prop := ∃ A c, e = .returned (.slice A l.length c) ∧ w'.ownsRow w.heap.size 9 1 (.slice A l.length c) l.length (strs l) ∧ Below w.heap.size w w'
theorem sortedF_any (hR : DevR w d mb s fs) (hcn : fs.length ≤ 4096) :
    Calls Try.prog 48 #[.func (.func 63) #[] #[.pointer (some ⟨w.heap.size, 0, none⟩)]] (w.alloc (.cells #[.map (some mb)] 67)) (RetS (fs.map (·.name)) w) := by
  have hsz : Maps.size (dat fs) ≤ 4096 := by rw [size_dat]; exact hcn
  refine (callsIn_wide.1 (sortedK_any mb fs.length (dat fs) ptrElem w hR.map (by unfold maxLen; omega) (by omega))).mono ?_
  rintro e w' ⟨v, ss, rfl, hp, hrow, hnil, hb⟩
  rw [sort_names (own_rise hR.map Try.underlying9) hp, enc_strs] at hrow
  rw [keys_names fs] at hp
  rw [hp.length_eq] at hrow
  obtain ⟨A, c, rfl, h1, h2⟩ := own_shape hrow
  refine ⟨A, c, rfl, ?_, (G.alloc (G.refl w) _).trans (hb.mono (by simp))⟩
  have := hrow
  refine ⟨this.1, ?_⟩
  rcases this.2 with h0 | ⟨g, cap, cur, hv, hg, hr⟩
  · exact .inl h0
  · exact .inr ⟨g, cap, cur, hv, by simp at hg; omega, hr⟩
/-- List's answer. -/
def RetL (s : Ds) (w : World) (e : Ending) (w' : World) : Prop :=
  (s.down = true ∧ e = .returned (.tuple #[.slice none 0 0, .int .i64 31]) ∧ Below w.heap.size w w') ∨
  (s.down = false ∧ ∃ A c, e = .returned (.tuple #[.slice A (namesC s.fs).length c, .int .i64 0]) ∧ w'.ownsRow w.heap.size 9 1 (.slice A (namesC s.fs).length c) (namesC s.fs).length (strs (namesC s.fs)) ∧ Below w.heap.size w w')
set_option maxRecDepth 20000 in set_option maxHeartbeats 1000000 in
theorem list_any (h : DevW w d S s) (ho : s.Ok) : Calls Try.prog 29 #[.pointer (some ⟨d, 0, none⟩)] w (RetL s w) := by
  have CK := Lib.hid (check_any h)
  unfold chkD at CK
  have hcn := ho.cnt
  obtain ⟨mb, fs, hR, hS⟩ := h
  have k1 := (hR.box.2 1 _ rfl).1
  have lt := hR.box.lt
  have hnm : Hid (namesC s.fs = fs.map (·.name)) := by unfold Hid namesC; rw [hR.eq, List.map_map]; rfl
  rw [hR.eq, List.length_map] at hcn
  have HR := Lib.hid hR
  clear hR
  rcases hd : s.down with _ | _
  · rw [hd] at CK
    replace hd := Lib.hid hd
    go_enter Try.func29, Try.ntmps29
    go_wp2_with fail
    refine CK.out.mono ?_
    rintro e w3 ⟨rfl, hw⟩
    subst hw
    go_wp2_with fail
    refine (keys_any (some mb) _).mono ?_
    rintro e w4 ⟨rfl, hw⟩
    subst hw
    go_wp2_with fail
    refine (sortedF_any HR.out hcn).mono ?_
    rintro e w5 ⟨A, c, rfl, hrow, hb⟩
    go_wp2_with fail
    exact bodyPost_ret (v := .tuple #[.slice A (fs.map (·.name)).length c, .int .i64 0]) (by simp only [results, Try.results29]; go_simp) rfl (.inr ⟨hd.out, A, c, by rw [hnm.out], by rw [hnm.out]; exact hrow, hb⟩)
  · rw [hd] at CK
    replace hd := Lib.hid hd
    go_enter Try.func29, Try.ntmps29
    go_wp2_with fail
    refine CK.out.mono ?_
    rintro e w3 ⟨rfl, hw⟩
    subst hw
    go_wp2_with fail
    exact bodyPost_ret (v := .tuple #[.slice none 0 0, .int .i64 31]) (by simp only [results, Try.results29]; go_simp) rfl (.inl ⟨hd.out, rfl, G.refl _⟩)
end
end Go.Proofs.Ytphjgembpcikdaa
