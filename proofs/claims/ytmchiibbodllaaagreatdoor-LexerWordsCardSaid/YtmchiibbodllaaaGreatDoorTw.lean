/- The law s written; lexer.Print. -/
import Derived.Test.YtmchiibbodllaaaGreatDoorBld
import Derived.Shelf.Strings.BuilderK
import Derived.Test.YtmchiibbodllaaaGreatDoorTk
import Derived.Test.YtmchiibbodllaaaGreatDoorQtE
import Derived.Test.YtmchiibbodllaaaGreatDoorLKnown
namespace Go.Proofs.YtmchiibbodllaaaGreatDoor
set_option linter.unusedVariables false
set_option linter.unnecessarySimpa false
set_option linter.unusedSimpArgs false
open Go.RowKit

def Away (r b : Nat) (w : World) : Prop := r < w.heap.size ∧ r ≠ b ∧ ∃ v, w.cell? ⟨b, 1, none⟩ = some v ∧ v.ownBlock ≠ some r
theorem Away.alloc_new {B b : Nat} {bs : List Value} {w : World} (h : IsB B b bs w) (o : Obj) : Away w.heap.size b (w.alloc o) := by
  have key : ∀ p, Lib.BuilderAt 82 5 B b p bs w → Away w.heap.size b (w.alloc o) := by
    intro p h
    have hl := h.lt
    obtain ⟨_, v, hb, hown, _⟩ := h
    refine ⟨by simp, by omega, v, ?_, fun e => ?_⟩
    · have h1 : w.cell? ⟨b, 1, none⟩ = some v := by rw [Lib.cell_of_heap hb]; rfl
      exact G.cell h1 (G.alloc (G.refl w) o)
    · exact absurd (hown.lt _ e).2 (Nat.lt_irrefl _)
  exact h.elim (key _) (key _)
section
variable {w : World} {B b r : Nat} {bs : List Value}
theorem check_r (h : IsB B b bs w) (hr : Away r b w) : Calls Tryz.prog 98 #[.pointer (some ⟨b, 0, none⟩)] w fun e w' => e = .returned (.tuple #[]) ∧ BAt B b bs w' ∧ Below B w w' ∧ Away r b w' ∧ w'.heap[r]? = w.heap[r]? := by
  rcases h with h | h
  · refine (check_fresh h.cell0 h.shape h.frozen0).mono ?_
    rintro e w' ⟨rfl, rfl⟩
    obtain ⟨h1, h2, v, h3, h4⟩ := hr
    exact ⟨rfl, h.used _, (Below.refl B w).setCell (p := ⟨b, 0, none⟩) h.1 _, ⟨by simpa using h1, h2, v, by go_simp, h4⟩, Below.heap_setCell _ _ _ _ h2⟩
  · refine (check_used h.cell0).mono ?_
    rintro e w' ⟨rfl, rfl⟩
    exact ⟨rfl, h, Below.refl B _, hr, rfl⟩
set_option maxHeartbeats 2000000 in
set_option maxRecDepth 100000 in
theorem wbyte_r (h : IsB B b bs w) (hr : Away r b w) (c : Int) (hlen : bs.length + 1 ≤ 140737488355328) (hBw : B ≤ w.heap.size) :
    Calls Tryz.prog 62 #[.pointer (some ⟨b, 0, none⟩), .int .u8 c] w fun e w' => e = .returned .nilIface ∧ IsB B b (bs ++ [.int .u8 c]) w' ∧ Below B w w' ∧ w'.heap[r]? = w.heap[r]? := by
  obtain ⟨i0, hi, hz0, hz1, hz2⟩ := info_parts infoByte
  have CK := Lib.hid (fun wx hx hy => check_r (w := wx) (B := B) (b := b) (bs := bs) (r := r) hx hy)
  have H := Lib.hid h
  have HR := Lib.hid hr
  clear h hr
  go_enter Tryz.func62, Tryz.ntmps62
  go_wp2_with fail
  go_at_call 98
  refine (CK.out _ H.out HR.out).mono ?_
  rintro e w1 ⟨rfl, ⟨hB, v, hbk, hown, hne⟩, hb1, ⟨hr1, hr2, v', hv', hr3⟩, hk1⟩
  have c0 : w1.cell? ⟨b, 0, none⟩ = some (.pointer (some ⟨b, 0, none⟩)) := by rw [Lib.cell_of_heap hbk]; rfl
  have c1 : w1.cell? ⟨b, 1, none⟩ = some v := by rw [Lib.cell_of_heap hbk]; rfl
  have hvv := Option.some.inj (hv'.symm.trans c1)
  rw [hvv] at hr3
  clear hv' hvv
  have hlt := cell_lt c0
  have hsz := hb1.size
  dsimp only at hlt
  replace hk1 := Lib.hid hk1
  replace hr3 := Lib.hid hr3
  go_wp2_with (at_builtin; refine wpList_append_own _ rfl _ _ 63 rfl B 5 i0 (.int .u8 0) 1 1 Tryz.underlying63 hi hz0 hz1 hz2 rfl (by decide) _ _ _ rfl (hown.alloc _) ⟨w1.heap.size, 0, none⟩ 1 1 [.int .u8 c] rfl rfl ?c1 ?c2 ?c3 ?c4 ?c5 ?_)
  case c1 =>
    intro j u hj
    match j, hj with
    | 0, hj => simp at hj; subst hj; simp [Addr.add]
  case c2 => intro u hu; simp at hu; subst hu; rfl
  case c3 => unfold maxLen; omega
  case c4 => omega
  case c5 => simp; omega
  intro u w2 hown' hgrow _
  have hb2 : w2.heap[b]? = some (.cells #[.pointer (some ⟨b, 0, none⟩), v] 82 (0, 0)) := by
    rw [hgrow.block b (by simp; omega) (fun e => hne e.symm), Lib.alloc_old w1 _ b hlt]
    exact hbk
  have hb3 : Hid (w2.heap[r]? = w.heap[r]?) := by
    unfold Hid
    rw [hgrow.block r (by simp; omega) (fun e => hr3.out e.symm), Lib.alloc_old w1 _ r hr1]
    exact hk1.out
  have d0 : w2.cell? ⟨b, 0, none⟩ = some (.pointer (some ⟨b, 0, none⟩)) := by rw [Lib.cell_of_heap hb2]; rfl
  have d1 : w2.cell? ⟨b, 1, none⟩ = some v := by rw [Lib.cell_of_heap hb2]; rfl
  have f1 : w2.frozen? ⟨b, 1, none⟩ = false := Lib.frozen_of_heap hb2 1
  obtain ⟨a, cap, rfl⟩ := own_slice hown'
  go_wp2_with fail
  go_ret
  exact ⟨rfl, .inr (Lib.BuilderAt.put hB hb2 (bs' := bs ++ [.int .u8 c]) (by simpa using hown') (by decide)), ((hb1.alloc (by omega) _).grown hgrow (by simp; omega) (fun k hk => (hown.lt k hk).1)).setCell (p := ⟨b, 1, none⟩) hB _, (Below.heap_setCell _ _ _ _ hr2).trans hb3.out⟩
abbrev IsBF (B b : Nat) (bs : List Value) (w : World) : Prop := Lib.IsBuilderF 82 5 B b bs w
theorem isF_grow {w' : World} (h : IsBF B b bs w) (hb : Below w.heap.size w w') : IsBF B b bs w' := by
  have hk := (Keeps.of_below (ok := fun _ => True) hb).2
  have lt : ∀ {q : Nat} {o : Obj}, w.heap[q]? = some o → q < w.heap.size := fun {q o} h => by
    rcases Nat.lt_or_ge q w.heap.size with h' | h'
    · exact h'
    · simp [Array.getElem?_eq_none h'] at h
  have key : ∀ p, Lib.BuilderAtF 82 5 B b p bs w → Lib.BuilderAtF 82 5 B b p bs w' := fun p h => by
    obtain ⟨hB, v, hb, hown, hne⟩ := h
    refine ⟨hB, v, by rw [hk b trivial (lt hb)]; exact hb, ⟨hown.1, ?_⟩, hne⟩
    rcases hown.2 with hn | ⟨g, cap, cur, fz, hv, hg, hc, rest⟩
    · exact .inl hn
    · exact .inr ⟨g, cap, cur, fz, hv, hg, by rw [hk g trivial (lt hc)]; exact hc, rest⟩
  exact h.elim (fun x => .inl (key _ x)) (fun x => .inr (key _ x))
/-- String: the builder can be read again. -/
theorem bstring_k (l : List UInt8) (h : IsBF B b (Lib.byteCells l) w) (hBw : B ≤ w.heap.size) :
    Calls Tryz.prog 64 #[.pointer (some ⟨b, 0, none⟩)] w fun e w' => e = .returned (.string ⟨l.toArray⟩) ∧ IsBF B b (Lib.byteCells l) w' ∧ Below B w w' :=
  (Any.Builder_String_any_k Tryz.lays169 Tryz.Builder_Extra_169 B b l w h hBw).mono fun e w' ⟨h1, h2, h3, _⟩ => ⟨h1, h2, h3⟩
end
end Go.Proofs.YtmchiibbodllaaaGreatDoor

namespace Go.Proofs.YtmchiibbodllaaaGreatDoor
set_option linter.unusedVariables false
set_option linter.unnecessarySimpa false
set_option linter.unusedSimpArgs false
open Go.RowKit

/-- Few tokens with short texts. -/
def Short (n m : Nat) (ts : List Tn) : Prop := n ≤ 100000 ∧ m ≤ 100000 ∧ ∀ t ∈ ts, t.tx.length + t.v.length ≤ m
theorem Short.le {n m : Nat} {ts : List Tn} (h : Short n m ts) {i : Nat} (hi : i ≤ n) (hl : ts.length = n) (fst : Bool) : (wrL fst (ts.take i)).length ≤ 60000400000 := by
  have h1 := wrL_len m (ts.take i) fst (fun t ht => h.2.2 t (List.mem_of_mem_take ht))
  have h2 : (ts.take i).length * (6 * m + 4) ≤ 100000 * (6 * 100000 + 4) := Nat.mul_le_mul (by rw [List.length_take]; have := h.1; omega) (by have := h.2.1; omega)
  omega
theorem Short.leP {n m : Nat} {ts : List Tn} (h : Short n m ts) {i : Nat} (hi : i ≤ n) (hl : ts.length = n) (fst : Bool) : (prL fst (ts.take i)).length ≤ 60000400000 := by
  have h1 := prL_len m (ts.take i) fst (fun t ht => h.2.2 t (List.mem_of_mem_take ht))
  have h2 : (ts.take i).length * (6 * m + 4) ≤ 100000 * (6 * 100000 + 4) := Nat.mul_le_mul (by rw [List.length_take]; have := h.1; omega) (by have := h.2.1; omega)
  omega
theorem Short.at_ {n m : Nat} {ts : List Tn} (h : Short n m ts) {i : Nat} {t : Tn} (ht : ts[i]? = some t) : t.tx.length ≤ 100000 ∧ t.v.length ≤ 100000 := by
  have h1 := h.2.2 t (List.mem_of_getElem? ht)
  have h2 := h.2.1
  omega
theorem take_snoc {ts : List Tn} {i : Nat} {x : Tn} (h : ts[i]? = some x) : ts.take (i + 1) = ts.take i ++ [x] := by
  obtain ⟨h1, rfl⟩ := List.getElem?_eq_some_iff.1 h
  rw [List.take_succ_eq_append_getElem h1]
theorem take_nil {ts : List Tn} {i : Nat} {x : Tn} (h : ts[i]? = some x) : ts.take i = [] ↔ i = 0 := by
  obtain ⟨h1, _⟩ := List.getElem?_eq_some_iff.1 h
  rw [List.take_eq_nil_iff]
  constructor
  · rintro (h | rfl)
    · exact h
    · simp at h1
  · exact .inl
section
variable {w : World} {A : Option Addr} {n c m : Nat} {ts : List Tn}
set_option maxRecDepth 20000 in set_option maxHeartbeats 8000000 in
theorem written_any (hE : Env w) (hA : TksW w A n c ts) (hS : Short n m ts) : Calls Tryz.prog 16 #[.slice A n c] w fun e w' => e = .returned (.string (B (wrL true ts))) ∧ Below w.heap.size w w' := by
  have HA := Lib.hid hA
  have HE := Lib.hid hE
  have HS := Lib.hid hS
  have lA := hA.len
  have hn := hS.1
  clear hA hE hS
  go_enter Tryz.func16, Tryz.ntmps16
  go_wp2_with fail
  have HG := Lib.hid (G.refl w)
  go_loopw [3, 4] (fun sv iv wx => ∃ (i : Nat) (P0 : List UInt8), i ≤ n ∧ sv = .string (B P0) ∧ iv = .int .i64 (i : Int) ∧ Hid (wrL true (ts.take i) = P0) ∧ Hid (Below w.heap.size w wx)) (fun _ iv _ => n - (intOf iv).toNat)
  case atStart => exact ⟨0, [], Nat.zero_le _, rfl, rfl, rfl, HG⟩
  case round =>
    clear HG
    obtain ⟨i, P0, hi, rfl, rfl, HP0, HG⟩ := hrel
    have hP0 := HP0.out
    by_cases hlt : i < n
    · have hlt' : (i : Int) < (n : Int) := by omega
      have hw2 : IntKind.i64.wrap ((i : Int) + 1) = ((i + 1 : Nat) : Int) := by rw [IntWalk.i64_in _ (by omega)]; omega
      obtain ⟨x, hx⟩ : ∃ x, ts[i]? = some x := ⟨_, List.getElem?_eq_getElem (by omega)⟩
      have hT := wrL_snoc x (ts.take i) true
      rw [← take_snoc hx] at hT
      simp only [take_nil hx, true_and, eq_self_iff_true] at hT
      have hb := HS.out.at_ hx
      have hn0 := HS.out.le hi lA true
      obtain ⟨g, off, rfl, hg, p0, p1, p2, p3, p4, p5, p6, p7⟩ := (HA.out.grow HG.out).at_ hx
      obtain ⟨k, ln, cl, tx, v, z, s, j⟩ := x
      dsimp only at p0 p1 p2 p3 p4 p5 p6 p7 hT hb
      clear hx p1 p2 p5 p6
      obtain ⟨n0, z0⟩ : ∃ n, P0.length = n := ⟨_, rfl⟩
      rw [hP0] at hn0 hT
      rw [z0] at hn0
      have y0 : (B P0).size = n0 := by rw [B_size, z0]
      have hE1 := Lib.hid (HE.out.grow HG.out)
      clear hP0 HP0
      by_cases h0 : k = 0
      · subst h0
        rw [if_pos rfl, List.append_nil] at hT
        replace hT := Lib.hid hT
        go_wp2_with fail
        go_roundw
        case rel => exact ⟨i + 1, _, by omega, rfl, by go_num, hT, HG⟩
        case measure => simp [intOf]; omega
      · have k0 : (k == 0) = false := by simp [h0]
        rw [if_neg h0] at hT
        have hcase : (i = 0) ∨ (0 < i ∧ j = true) ∨ (0 < i ∧ j = false) := by cases j <;> simp <;> omega
        have hk : k = 3 ∨ k = 4 ∨ ((k == 3) = false ∧ (k == 4) = false ∧ k ≠ 3 ∧ k ≠ 4) := by
          by_cases h3 : k = 3
          · exact .inl h3
          · by_cases h4 : k = 4
            · exact .inr (.inl h4)
            · exact .inr (.inr ⟨by simp [h3], by simp [h4], h3, h4⟩)
        clear h0
        rcases hcase with hi0 | ⟨hi0, rfl⟩ | ⟨hi0, rfl⟩
        · rw [if_pos (.inl hi0), List.nil_append] at hT
          have l0 : ¬ (0 : Int) < (i : Int) := by omega
          clear hi0
          rcases hk with rfl | rfl | ⟨k3, k4, hk3, hk4⟩
          · have hsz : (B v).size ≤ 100000 := by rw [B_size]; omega
            have VD := Lib.hid (fun (wx : World) (hE : Env wx) => charsetValid_any hE (B v) (by omega))
            have QM := Lib.hid (fun wx => quoteM_any wx (B v) hsz)
            rw [B_list] at VD QM
            clear hsz
            rcases hv : Lib.validD v with _ | _
            · rw [hv] at VD
              replace hT : Hid (wrL true (ts.take (i + 1)) = P0) := by unfold Hid; rw [hT]; unfold body qtL; simp [hv]
              clear hv QM
              go_wp2_with fail
              go_at_call 36
              (with_reducible refine (VD.out _ hE1.out).mono ?_)
              rintro e1 w1 ⟨rfl, hb1⟩
              go_wp2_with fail
              go_roundw
              case rel => exact ⟨i + 1, _, by omega, rfl, by go_num, hT, Lib.hid (G.trans HG.out hb1)⟩
              case measure => simp [intOf]; omega
            · rw [hv] at VD
              obtain ⟨P2, hP2⟩ : ∃ P, P0 ++ quoteL v = P := ⟨_, rfl⟩
              have j2 : B P0 ++ B (quoteL v) = B P2 := by rw [B_app, hP2]
              obtain ⟨q, hq⟩ : ∃ q, (B (quoteL v)).size = q := ⟨_, rfl⟩
              have hqb : q ≤ 600002 := by rw [← hq, B_size]; have := quoteL_len v; omega
              have g2 : ¬ 9223372036854775807 < n0 + q := by omega
              replace hT : Hid (wrL true (ts.take (i + 1)) = P2) := by unfold Hid; rw [hT]; unfold body qtL; rw [← hP2]; simp [hv]
              clear hv hP2
              go_wp2_with fail
              go_at_call 36
              (with_reducible refine (VD.out _ hE1.out).mono ?_)
              rintro e1 w1 ⟨rfl, hb1⟩
              replace p4 := G.cell p4 hb1
              have hg1 : g < w1.heap.size := Nat.lt_of_lt_of_le hg hb1.size
              go_wp2_with fail
              go_at_call 37
              (with_reducible refine (QM.out _).mono ?_)
              rintro e1 w2 ⟨rfl, hb2⟩
              go_wp2_with fail
              go_roundw
              case rel => exact ⟨i + 1, _, by omega, rfl, by go_num, hT, Lib.hid (G.trans HG.out (G.trans hb1 hb2))⟩
              case measure => simp [intOf]; omega
          · have hsz : (B v).size ≤ 100000 := by rw [B_size]; omega
            have QM := Lib.hid (fun wx => qbytesM_any wx (B v) hsz)
            rw [B_list] at QM
            clear hsz
            obtain ⟨P2, hP2⟩ : ∃ P, P0 ++ (quoteB v) = P := ⟨_, rfl⟩
            have j2 : B P0 ++ B (quoteB v) = B P2 := by rw [B_app, hP2]
            obtain ⟨q, hq⟩ : ∃ q, (B (quoteB v)).size = q := ⟨_, rfl⟩
            have hqb : q ≤ 600002 := by rw [← hq, B_size]; have := quoteB_len v; omega
            have g2 : ¬ 9223372036854775807 < n0 + q := by omega
            replace hT : Hid (wrL true (ts.take (i + 1)) = P2) := by unfold Hid; rw [hT]; unfold body; rw [← hP2]; simp
            clear hP2
            go_wp2_with fail
            go_at_call 35
            (with_reducible refine (QM.out _).mono ?_)
            rintro e1 w1 ⟨rfl, hb1⟩
            go_wp2_with fail
            go_roundw
            case rel => exact ⟨i + 1, _, by omega, rfl, by go_num, hT, Lib.hid (G.trans HG.out hb1)⟩
            case measure => simp [intOf]; omega
          · obtain ⟨P2, hP2⟩ : ∃ P, P0 ++ tx = P := ⟨_, rfl⟩
            have j2 : B P0 ++ B tx = B P2 := by rw [B_app, hP2]
            obtain ⟨q, hq⟩ : ∃ q, (B tx).size = q := ⟨_, rfl⟩
            have hqb : q ≤ 600002 := by rw [← hq, B_size]; omega
            have g2 : ¬ 9223372036854775807 < n0 + q := by omega
            replace hT : Hid (wrL true (ts.take (i + 1)) = P2) := by unfold Hid; rw [hT]; unfold body; rw [← hP2]; simp [hk3, hk4]
            clear hP2
            go_wp2_with fail
            go_roundw
            case rel => exact ⟨i + 1, _, by omega, rfl, by go_num, hT, HG⟩
            case measure => simp [intOf]; omega
        · rw [if_pos (.inr rfl), List.nil_append] at hT
          have l0 : (0 : Int) < (i : Int) := by omega
          rcases hk with rfl | rfl | ⟨k3, k4, hk3, hk4⟩
          · have hsz : (B v).size ≤ 100000 := by rw [B_size]; omega
            have VD := Lib.hid (fun (wx : World) (hE : Env wx) => charsetValid_any hE (B v) (by omega))
            have QM := Lib.hid (fun wx => quoteM_any wx (B v) hsz)
            rw [B_list] at VD QM
            clear hsz
            rcases hv : Lib.validD v with _ | _
            · rw [hv] at VD
              replace hT : Hid (wrL true (ts.take (i + 1)) = P0) := by unfold Hid; rw [hT]; unfold body qtL; simp [hv]
              clear hv QM
              go_wp2_with fail
              go_at_call 36
              (with_reducible refine (VD.out _ hE1.out).mono ?_)
              rintro e1 w1 ⟨rfl, hb1⟩
              go_wp2_with fail
              go_roundw
              case rel => exact ⟨i + 1, _, by omega, rfl, by go_num, hT, Lib.hid (G.trans HG.out hb1)⟩
              case measure => simp [intOf]; omega
            · rw [hv] at VD
              obtain ⟨P2, hP2⟩ : ∃ P, P0 ++ quoteL v = P := ⟨_, rfl⟩
              have j2 : B P0 ++ B (quoteL v) = B P2 := by rw [B_app, hP2]
              obtain ⟨q, hq⟩ : ∃ q, (B (quoteL v)).size = q := ⟨_, rfl⟩
              have hqb : q ≤ 600002 := by rw [← hq, B_size]; have := quoteL_len v; omega
              have g2 : ¬ 9223372036854775807 < n0 + q := by omega
              replace hT : Hid (wrL true (ts.take (i + 1)) = P2) := by unfold Hid; rw [hT]; unfold body qtL; rw [← hP2]; simp [hv]
              clear hv hP2
              go_wp2_with fail
              go_at_call 36
              (with_reducible refine (VD.out _ hE1.out).mono ?_)
              rintro e1 w1 ⟨rfl, hb1⟩
              replace p4 := G.cell p4 hb1
              have hg1 : g < w1.heap.size := Nat.lt_of_lt_of_le hg hb1.size
              go_wp2_with fail
              go_at_call 37
              (with_reducible refine (QM.out _).mono ?_)
              rintro e1 w2 ⟨rfl, hb2⟩
              go_wp2_with fail
              go_roundw
              case rel => exact ⟨i + 1, _, by omega, rfl, by go_num, hT, Lib.hid (G.trans HG.out (G.trans hb1 hb2))⟩
              case measure => simp [intOf]; omega
          · have hsz : (B v).size ≤ 100000 := by rw [B_size]; omega
            have QM := Lib.hid (fun wx => qbytesM_any wx (B v) hsz)
            rw [B_list] at QM
            clear hsz
            obtain ⟨P2, hP2⟩ : ∃ P, P0 ++ (quoteB v) = P := ⟨_, rfl⟩
            have j2 : B P0 ++ B (quoteB v) = B P2 := by rw [B_app, hP2]
            obtain ⟨q, hq⟩ : ∃ q, (B (quoteB v)).size = q := ⟨_, rfl⟩
            have hqb : q ≤ 600002 := by rw [← hq, B_size]; have := quoteB_len v; omega
            have g2 : ¬ 9223372036854775807 < n0 + q := by omega
            replace hT : Hid (wrL true (ts.take (i + 1)) = P2) := by unfold Hid; rw [hT]; unfold body; rw [← hP2]; simp
            clear hP2
            go_wp2_with fail
            go_at_call 35
            (with_reducible refine (QM.out _).mono ?_)
            rintro e1 w1 ⟨rfl, hb1⟩
            go_wp2_with fail
            go_roundw
            case rel => exact ⟨i + 1, _, by omega, rfl, by go_num, hT, Lib.hid (G.trans HG.out hb1)⟩
            case measure => simp [intOf]; omega
          · obtain ⟨P2, hP2⟩ : ∃ P, P0 ++ tx = P := ⟨_, rfl⟩
            have j2 : B P0 ++ B tx = B P2 := by rw [B_app, hP2]
            obtain ⟨q, hq⟩ : ∃ q, (B tx).size = q := ⟨_, rfl⟩
            have hqb : q ≤ 600002 := by rw [← hq, B_size]; omega
            have g2 : ¬ 9223372036854775807 < n0 + q := by omega
            replace hT : Hid (wrL true (ts.take (i + 1)) = P2) := by unfold Hid; rw [hT]; unfold body; rw [← hP2]; simp [hk3, hk4]
            clear hP2
            go_wp2_with fail
            go_roundw
            case rel => exact ⟨i + 1, _, by omega, rfl, by go_num, hT, HG⟩
            case measure => simp [intOf]; omega
        · rw [if_neg (by simp; omega)] at hT
          have l0 : (0 : Int) < (i : Int) := by omega
          obtain ⟨P1, hP1⟩ : ∃ P, P0 ++ [32] = P := ⟨_, rfl⟩
          have j1 : B P0 ++ ⟨#[32]⟩ = B P1 := by rw [show (⟨#[32]⟩ : ByteArray) = B [32] from rfl, B_app, hP1]
          obtain ⟨n1, z1⟩ : ∃ n, P1.length = n := ⟨_, rfl⟩
          have hn1 : n1 = n0 + 1 := by rw [← z1, ← hP1, List.length_append, z0]; rfl
          have hn1b : n1 ≤ 60000400001 := by omega
          have y1 : (B P1).size = n1 := by rw [B_size, z1]
          have g1 : ¬ 9223372036854775807 < n0 + 1 := by omega
          clear hn1 z1
          rcases hk with rfl | rfl | ⟨k3, k4, hk3, hk4⟩
          · have hsz : (B v).size ≤ 100000 := by rw [B_size]; omega
            have VD := Lib.hid (fun (wx : World) (hE : Env wx) => charsetValid_any hE (B v) (by omega))
            have QM := Lib.hid (fun wx => quoteM_any wx (B v) hsz)
            rw [B_list] at VD QM
            clear hsz
            rcases hv : Lib.validD v with _ | _
            · rw [hv] at VD
              replace hT : Hid (wrL true (ts.take (i + 1)) = P1) := by unfold Hid; rw [hT]; unfold body qtL; rw [← hP1]; simp [hv]
              clear hv QM hP1
              go_wp2_with fail
              go_at_call 36
              (with_reducible refine (VD.out _ hE1.out).mono ?_)
              rintro e1 w1 ⟨rfl, hb1⟩
              go_wp2_with fail
              go_roundw
              case rel => exact ⟨i + 1, _, by omega, rfl, by go_num, hT, Lib.hid (G.trans HG.out hb1)⟩
              case measure => simp [intOf]; omega
            · rw [hv] at VD
              obtain ⟨P2, hP2⟩ : ∃ P, P1 ++ quoteL v = P := ⟨_, rfl⟩
              have j2 : B P1 ++ B (quoteL v) = B P2 := by rw [B_app, hP2]
              obtain ⟨q, hq⟩ : ∃ q, (B (quoteL v)).size = q := ⟨_, rfl⟩
              have hqb : q ≤ 600002 := by rw [← hq, B_size]; have := quoteL_len v; omega
              have g2 : ¬ 9223372036854775807 < n1 + q := by omega
              replace hT : Hid (wrL true (ts.take (i + 1)) = P2) := by unfold Hid; rw [hT]; unfold body qtL; rw [← hP1] at hP2; rw [← hP2]; simp [hv]
              clear hv hP2 hP1
              go_wp2_with fail
              go_at_call 36
              (with_reducible refine (VD.out _ hE1.out).mono ?_)
              rintro e1 w1 ⟨rfl, hb1⟩
              replace p4 := G.cell p4 hb1
              have hg1 : g < w1.heap.size := Nat.lt_of_lt_of_le hg hb1.size
              go_wp2_with fail
              go_at_call 37
              (with_reducible refine (QM.out _).mono ?_)
              rintro e1 w2 ⟨rfl, hb2⟩
              go_wp2_with fail
              go_roundw
              case rel => exact ⟨i + 1, _, by omega, rfl, by go_num, hT, Lib.hid (G.trans HG.out (G.trans hb1 hb2))⟩
              case measure => simp [intOf]; omega
          · have hsz : (B v).size ≤ 100000 := by rw [B_size]; omega
            have QM := Lib.hid (fun wx => qbytesM_any wx (B v) hsz)
            rw [B_list] at QM
            clear hsz
            obtain ⟨P2, hP2⟩ : ∃ P, P1 ++ (quoteB v) = P := ⟨_, rfl⟩
            have j2 : B P1 ++ B (quoteB v) = B P2 := by rw [B_app, hP2]
            obtain ⟨q, hq⟩ : ∃ q, (B (quoteB v)).size = q := ⟨_, rfl⟩
            have hqb : q ≤ 600002 := by rw [← hq, B_size]; have := quoteB_len v; omega
            have g2 : ¬ 9223372036854775807 < n1 + q := by omega
            replace hT : Hid (wrL true (ts.take (i + 1)) = P2) := by unfold Hid; rw [hT]; unfold body; rw [← hP1] at hP2; rw [← hP2]; simp
            clear hP2 hP1
            go_wp2_with fail
            go_at_call 35
            (with_reducible refine (QM.out _).mono ?_)
            rintro e1 w1 ⟨rfl, hb1⟩
            go_wp2_with fail
            go_roundw
            case rel => exact ⟨i + 1, _, by omega, rfl, by go_num, hT, Lib.hid (G.trans HG.out hb1)⟩
            case measure => simp [intOf]; omega
          · obtain ⟨P2, hP2⟩ : ∃ P, P1 ++ tx = P := ⟨_, rfl⟩
            have j2 : B P1 ++ B tx = B P2 := by rw [B_app, hP2]
            obtain ⟨q, hq⟩ : ∃ q, (B tx).size = q := ⟨_, rfl⟩
            have hqb : q ≤ 600002 := by rw [← hq, B_size]; omega
            have g2 : ¬ 9223372036854775807 < n1 + q := by omega
            replace hT : Hid (wrL true (ts.take (i + 1)) = P2) := by unfold Hid; rw [hT]; unfold body; rw [← hP1] at hP2; rw [← hP2]; simp [hk3, hk4]
            clear hP2 hP1
            go_wp2_with fail
            go_roundw
            case rel => exact ⟨i + 1, _, by omega, rfl, by go_num, hT, HG⟩
            case measure => simp [intOf]; omega
    · obtain rfl : i = n := by omega
      have hT : Hid (P0 = wrL true ts) := by unfold Hid; rw [← hP0, List.take_of_length_le (by omega)]
      clear hP0
      go_wp2_with fail
      go_ret
      rw [hT.out]
      exact ⟨rfl, HG.out⟩
end
end Go.Proofs.YtmchiibbodllaaaGreatDoor

namespace Go.Proofs.YtmchiibbodllaaaGreatDoor
set_option linter.unusedVariables false
set_option linter.unnecessarySimpa false
set_option linter.unusedSimpArgs false
open Go.RowKit

/-! ### The plain scanner's errors and the number of its tokens -/
theorem scanF_bad (l : List UInt8) : ∀ (f i : Nat) (last : Option Nat) (acc : List Pl) {o : Nat} {e : Int}, i ≤ l.length → l.length < i + f → scanF l f i last acc = .bad o e → e ≠ 0
  | 0, i, last, acc, o, e, h1, h2, h => by omega
  | f + 1, i, last, acc, o, e, h1, h2, h => by
    unfold scanF at h
    split at h
    · cases h
    · rename_i hi
      split at h
      · injection h with _ h
        omega
      · have hb := blk_bd false l h1
        have hq : 1 ≤ (l.drop (i + blk false (l.drop i))).length := by rw [List.length_drop]; omega
        have hin := lex1_in hq
        rcases hx : lex1 (l.drop (i + blk false (l.drop i))) with ⟨n, t⟩ | ⟨o', e'⟩ <;> rw [hx] at h hin
        · have h3 := hin.2
          have h4 := hin.1
          rw [List.length_drop] at h3
          exact scanF_bad l f _ _ _ (by omega) (by omega) h
        · injection h with _ h
          rw [← h]
          exact hin.2
theorem scanA_bad {l : List UInt8} {o : Nat} {e : Int} (h : scanA l = .bad o e) : e ≠ 0 := by
  unfold scanA at h
  split at h
  · injection h with _ h
    omega
  · exact scanF_bad l _ _ _ _ (Nat.zero_le _) (by omega) h
theorem scanA_ok {l : List UInt8} {ts : List Pl} (h : scanA l = .ok ts) : scanL l = .ok ts ∧ ts.length ≤ 16384 := by
  unfold scanA at h
  split at h
  · cases h
  · refine ⟨h, ?_⟩
    obtain ⟨ps, _, rfl, hc⟩ := scanL_ok h
    have : ∀ (ps : List Pc) (i : Nat) (fst : Bool), (plc i fst ps).length = ps.length := by
      intro ps
      induction ps with
      | nil => intro i fst; rfl
      | cons p ps ih => intro i fst; rw [plc, List.length_cons, List.length_cons, ih]
    rw [this]
    exact hc
/-- What Print returns. -/
def prRes (ts : List Tn) : List UInt8 × Int := match scanA (prL true ts) with
  | .ok us => if sameB false (toks (prL true ts) us) ts = true then (prL true ts, 0) else ([], 3)
  | .bad _ _ => ([], 3)
theorem take_allE {ts : List Tn} {i : Nat} {x : Tn} (h : ts[i]? = some x) : allE (ts.take (i + 1)) = (allE (ts.take i) && decide (x.k = 0)) := by rw [take_snoc h, allE_snoc]
section
variable {w : World} {A : Option Addr} {n c m : Nat} {ts : List Tn}
set_option maxRecDepth 20000 in set_option maxHeartbeats 8000000 in
theorem print_any (hE : Env w) (hD : Tab4 w) (hA : TksW w A n c ts) (hS : Short n m ts) : Calls Tryz.prog 38 #[.slice A n c] w fun e w' => e = .returned (.tuple #[.string (B (prRes ts).1), .int .i64 (prRes ts).2]) ∧ Below w.heap.size w w' := by
  have HA := Lib.hid hA
  have HE := Lib.hid hE
  have HS := Lib.hid hS
  have HD := Lib.hid hD
  have lA := hA.len
  have hn := hS.1
  clear hA hE hS hD
  go_enter Tryz.func38, Tryz.ntmps38
  go_upto_region 3 with fail
  obtain ⟨NB, hNB⟩ : ∃ NB, w.heap.size = NB := ⟨_, rfl⟩
  rw [hNB]
  refine wp_name (fun wx => Hid (IsB NB NB (Lib.byteCells []) wx) ∧ Hid (Below NB w wx)) ⟨by have := Lib.fresh_isBuilder 82 5 w; simp only [hNB] at this; exact this, by rw [← hNB]; exact G.alloc (G.refl w) _⟩ ?_
  rintro w0 ⟨HI, HG⟩
  replace hNB := Lib.hid hNB
  go_wp2_with fail
  go_loopw [5, 14] (fun fv iv wx => ∃ (i : Nat) (fst : Bool) (P0 : List UInt8), i ≤ n ∧ fv = .bool fst ∧ iv = .int .i64 (i : Int) ∧ Hid (allE (ts.take i) = fst) ∧ Hid (prL true (ts.take i) = P0) ∧ Hid (IsB NB NB (Lib.byteCells P0) wx) ∧ Hid (Below NB w wx)) (fun _ iv _ => n - (intOf iv).toNat)
  case atStart => exact ⟨0, true, [], Nat.zero_le _, rfl, rfl, rfl, rfl, HI, HG⟩
  case round =>
    clear HG HI
    obtain ⟨i, fst, P0, hi, rfl, rfl, HF, HP0, HI, HG⟩ := hrel
    have hP0 := HP0.out
    by_cases hlt : i < n
    · have hlt' : (i : Int) < (n : Int) := by omega
      have hw2 : IntKind.i64.wrap ((i : Int) + 1) = ((i + 1 : Nat) : Int) := by rw [IntWalk.i64_in _ (by omega)]; omega
      obtain ⟨x, hx⟩ : ∃ x, ts[i]? = some x := ⟨_, List.getElem?_eq_getElem (by omega)⟩
      have hT := prL_snoc x (ts.take i) true
      rw [← take_snoc hx] at hT
      have hF := take_allE hx
      rw [HF.out] at hF hT
      simp only [true_and] at hT
      have hb := HS.out.at_ hx
      have hn0 := HS.out.leP hi lA true
      have hNr : NB < wr.heap.size := isB_lt HI.out
      have hg0 : Below w.heap.size w wr := by rw [hNB.out]; exact HG.out
      obtain ⟨g, off, rfl, hg, p0, p1, p2, p3, p4, p5, p6, p7⟩ := (HA.out.grow hg0).at_ hx
      have xk := Lib.hid (rfl : x.k = x.k)
      rw [hP0] at hn0 hT
      clear hP0 HP0 hx HF
      go_upto_region 6 with fail
      obtain ⟨r, hr⟩ : ∃ r, wr.heap.size = r := ⟨_, rfl⟩
      rw [hr]
      refine wp_name (fun wx => Hid (IsB NB NB (Lib.byteCells P0) wx) ∧ Bx wx r (tnC x) ∧ Hid (Below NB w wx) ∧ Hid (Away r NB wx)) ⟨isB_grow HI.out (G.alloc (G.refl wr) _), Bx.new hr.symm rfl, HG.out.alloc (Nat.le_of_lt hNr) _, by have := Away.alloc_new HI.out (.cells (tnC x).toArray 33); rw [hr] at this; exact this⟩ ?_
      clear HI HG hg p0 p1 p2 p3 p4 p5 p6 p7 xk hg0
      rintro w1 ⟨HI, HB, HG, HR⟩
      have hN1 : NB ≤ w1.heap.size := Nat.le_of_lt (isB_lt HI.out)
      clear hr hNr
      have HX := Lib.hid HB
      obtain ⟨⟨p0, -, -, p3, p4, -, -, p7⟩, -⟩ := HB.tok
      have lr := HB.lt
      clear HB
      obtain ⟨k, ln, cl, tx, v, z, s, j⟩ := x
      dsimp only at p0 p3 p4 p7 hT hb hF
      have hE1 : Hid (Env w1 ∧ Tab4 w1) := ⟨HE.out.grow (by rw [hNB.out]; exact HG.out), HD.out.grow (by rw [hNB.out]; exact HG.out)⟩
      by_cases h0 : k = 0
      · subst h0
        rw [if_pos rfl, List.append_nil] at hT
        rw [decide_eq_true rfl, Bool.and_true] at hF
        replace hT := Lib.hid hT
        replace hF := Lib.hid hF
        go_wp2_with fail
        go_roundw
        case rel => exact ⟨i + 1, _, _, by omega, rfl, by go_num, hF, hT, HI, HG⟩
        case measure => simp [intOf]; omega
      · have k0 : (k == 0) = false := by simp [h0]
        rw [if_neg h0] at hT
        rw [decide_eq_false h0, Bool.and_false] at hF
        replace hF := Lib.hid hF
        have hcase : (fst = true) ∨ (fst = false ∧ j = true) ∨ (fst = false ∧ j = false) := by cases j <;> cases fst <;> simp
        have hk : k = 3 ∨ k = 4 ∨ ((k == 3) = false ∧ (k == 4) = false ∧ k ≠ 3 ∧ k ≠ 4) := by
          by_cases h3 : k = 3
          · exact .inl h3
          · by_cases h4 : k = 4
            · exact .inr (.inl h4)
            · exact .inr (.inr ⟨by simp [h3], by simp [h4], h3, h4⟩)
        clear h0
        rcases hcase with rfl | ⟨rfl, rfl⟩ | ⟨rfl, rfl⟩
        · rw [if_pos (.inl rfl), List.nil_append] at hT
          rcases hk with rfl | rfl | ⟨k3, k4, hk3, hk4⟩
          · have hsz : (B v).size ≤ 100000 := by rw [B_size]; omega
            have QM := Lib.hid (quote_any hE1.out.1 hE1.out.2 (B v) hsz)
            rw [B_list] at QM
            replace hT : Hid (prL true (ts.take (i + 1)) = P0 ++ qtL v) := by unfold Hid; rw [hT]; unfold body; simp
            clear hsz
            go_wp2_with fail
            go_at_call 33
            (with_reducible refine QM.out.mono ?_)
            rintro e1 w8 ⟨rfl, hb8⟩
            replace HI := Lib.hid (isB_grow HI.out hb8)
            replace HG : Hid (Below NB w w8) := HG.out.trans (hb8.mono hN1)
            go_wp2_with fail
            go_at_call 63
            (with_reducible refine (wstring_any (HI.out) (B (qtL v)) (by rw [byteCells_len, B_size]; have := qtL_len v; omega) (Nat.le_of_lt (isB_lt HI.out))).mono ?_)
            rintro e1 w9 ⟨rfl, hi9, hb9⟩
            have HI9 : Hid (IsB NB NB (Lib.byteCells (prL true (ts.take (i + 1)))) w9) := by unfold Hid; rw [hT.out, bytes_app]; exact hi9
            have HG9 : Hid (Below NB w w9) := HG.out.trans hb9
            go_wp2_with fail
            go_roundw
            case rel => exact ⟨i + 1, _, _, by omega, rfl, by go_num, hF, rfl, HI9, HG9⟩
            case measure => simp [intOf]; omega
          · have hsz : (B v).size ≤ 100000 := by rw [B_size]; omega
            have QM := Lib.hid (fun wx => qbytes_any wx (B v) hsz)
            rw [B_list] at QM
            replace hT : Hid (prL true (ts.take (i + 1)) = P0 ++ quoteB v) := by unfold Hid; rw [hT]; unfold body; simp
            clear hsz
            go_wp2_with fail
            go_at_call 34
            (with_reducible refine (QM.out _).mono ?_)
            rintro e1 w8 ⟨rfl, hb8⟩
            replace HI := Lib.hid (isB_grow HI.out hb8)
            replace HG : Hid (Below NB w w8) := HG.out.trans (hb8.mono hN1)
            go_wp2_with fail
            go_at_call 63
            (with_reducible refine (wstring_any (HI.out) (B (quoteB v)) (by rw [byteCells_len, B_size]; have := quoteB_len v; omega) (Nat.le_of_lt (isB_lt HI.out))).mono ?_)
            rintro e1 w9 ⟨rfl, hi9, hb9⟩
            have HI9 : Hid (IsB NB NB (Lib.byteCells (prL true (ts.take (i + 1)))) w9) := by unfold Hid; rw [hT.out, bytes_app]; exact hi9
            have HG9 : Hid (Below NB w w9) := HG.out.trans hb9
            go_wp2_with fail
            go_roundw
            case rel => exact ⟨i + 1, _, _, by omega, rfl, by go_num, hF, rfl, HI9, HG9⟩
            case measure => simp [intOf]; omega
          · replace hT : Hid (prL true (ts.take (i + 1)) = P0 ++ tx) := by unfold Hid; rw [hT]; unfold body; simp [hk3, hk4]
            go_wp2_with fail
            go_at_call 63
            (with_reducible refine (wstring_any (HI.out) (B tx) (by rw [byteCells_len, B_size]; skip; omega) (Nat.le_of_lt (isB_lt HI.out))).mono ?_)
            rintro e1 w9 ⟨rfl, hi9, hb9⟩
            have HI9 : Hid (IsB NB NB (Lib.byteCells (prL true (ts.take (i + 1)))) w9) := by unfold Hid; rw [hT.out, bytes_app]; exact hi9
            have HG9 : Hid (Below NB w w9) := HG.out.trans hb9
            go_wp2_with fail
            go_roundw
            case rel => exact ⟨i + 1, _, _, by omega, rfl, by go_num, hF, rfl, HI9, HG9⟩
            case measure => simp [intOf]; omega
        · rw [if_pos (.inr rfl), List.nil_append] at hT
          rcases hk with rfl | rfl | ⟨k3, k4, hk3, hk4⟩
          · have hsz : (B v).size ≤ 100000 := by rw [B_size]; omega
            have QM := Lib.hid (quote_any hE1.out.1 hE1.out.2 (B v) hsz)
            rw [B_list] at QM
            replace hT : Hid (prL true (ts.take (i + 1)) = P0 ++ qtL v) := by unfold Hid; rw [hT]; unfold body; simp
            clear hsz
            go_wp2_with fail
            go_at_call 33
            (with_reducible refine QM.out.mono ?_)
            rintro e1 w8 ⟨rfl, hb8⟩
            replace HI := Lib.hid (isB_grow HI.out hb8)
            replace HG : Hid (Below NB w w8) := HG.out.trans (hb8.mono hN1)
            go_wp2_with fail
            go_at_call 63
            (with_reducible refine (wstring_any (HI.out) (B (qtL v)) (by rw [byteCells_len, B_size]; have := qtL_len v; omega) (Nat.le_of_lt (isB_lt HI.out))).mono ?_)
            rintro e1 w9 ⟨rfl, hi9, hb9⟩
            have HI9 : Hid (IsB NB NB (Lib.byteCells (prL true (ts.take (i + 1)))) w9) := by unfold Hid; rw [hT.out, bytes_app]; exact hi9
            have HG9 : Hid (Below NB w w9) := HG.out.trans hb9
            go_wp2_with fail
            go_roundw
            case rel => exact ⟨i + 1, _, _, by omega, rfl, by go_num, hF, rfl, HI9, HG9⟩
            case measure => simp [intOf]; omega
          · have hsz : (B v).size ≤ 100000 := by rw [B_size]; omega
            have QM := Lib.hid (fun wx => qbytes_any wx (B v) hsz)
            rw [B_list] at QM
            replace hT : Hid (prL true (ts.take (i + 1)) = P0 ++ quoteB v) := by unfold Hid; rw [hT]; unfold body; simp
            clear hsz
            go_wp2_with fail
            go_at_call 34
            (with_reducible refine (QM.out _).mono ?_)
            rintro e1 w8 ⟨rfl, hb8⟩
            replace HI := Lib.hid (isB_grow HI.out hb8)
            replace HG : Hid (Below NB w w8) := HG.out.trans (hb8.mono hN1)
            go_wp2_with fail
            go_at_call 63
            (with_reducible refine (wstring_any (HI.out) (B (quoteB v)) (by rw [byteCells_len, B_size]; have := quoteB_len v; omega) (Nat.le_of_lt (isB_lt HI.out))).mono ?_)
            rintro e1 w9 ⟨rfl, hi9, hb9⟩
            have HI9 : Hid (IsB NB NB (Lib.byteCells (prL true (ts.take (i + 1)))) w9) := by unfold Hid; rw [hT.out, bytes_app]; exact hi9
            have HG9 : Hid (Below NB w w9) := HG.out.trans hb9
            go_wp2_with fail
            go_roundw
            case rel => exact ⟨i + 1, _, _, by omega, rfl, by go_num, hF, rfl, HI9, HG9⟩
            case measure => simp [intOf]; omega
          · replace hT : Hid (prL true (ts.take (i + 1)) = P0 ++ tx) := by unfold Hid; rw [hT]; unfold body; simp [hk3, hk4]
            go_wp2_with fail
            go_at_call 63
            (with_reducible refine (wstring_any (HI.out) (B tx) (by rw [byteCells_len, B_size]; skip; omega) (Nat.le_of_lt (isB_lt HI.out))).mono ?_)
            rintro e1 w9 ⟨rfl, hi9, hb9⟩
            have HI9 : Hid (IsB NB NB (Lib.byteCells (prL true (ts.take (i + 1)))) w9) := by unfold Hid; rw [hT.out, bytes_app]; exact hi9
            have HG9 : Hid (Below NB w w9) := HG.out.trans hb9
            go_wp2_with fail
            go_roundw
            case rel => exact ⟨i + 1, _, _, by omega, rfl, by go_num, hF, rfl, HI9, HG9⟩
            case measure => simp [intOf]; omega
        · rw [if_neg (by simp), ← List.append_assoc] at hT
          go_wp2_with fail
          go_at_call 62
          (with_reducible refine (wbyte_r HI.out HR.out 32 (by rw [byteCells_len]; omega) hN1).mono ?_)
          rintro e1 w2 ⟨rfl, hi2, hb2, hk2⟩
          obtain ⟨P1, hP1⟩ : ∃ P, P0 ++ [32] = P := ⟨_, rfl⟩
          have hn1 : P1.length ≤ 60000400001 := by rw [← hP1, List.length_append]; simp; omega
          rw [hP1] at hT
          replace HI : Hid (IsB NB NB (Lib.byteCells P1) w2) := by unfold Hid; rw [← hP1, bytes_app]; exact hi2
          replace hE1 : Hid (Env w2 ∧ Tab4 w2) := ⟨HE.out.grow (by rw [hNB.out]; exact HG.out.trans hb2), HD.out.grow (by rw [hNB.out]; exact HG.out.trans hb2)⟩
          replace HG : Hid (Below NB w w2) := HG.out.trans hb2
          have HX2 := HX.out.block hb2.size hk2
          replace hN1 : NB ≤ w2.heap.size := Nat.le_of_lt (isB_lt HI.out)
          clear hi2 hb2 hk2 HX p0 p3 p4 p7 lr HR hP1
          obtain ⟨⟨p0, -, -, p3, p4, -, -, p7⟩, -⟩ := HX2.tok
          have lr := HX2.lt
          dsimp only at p0 p3 p4 p7
          clear HX2
          rcases hk with rfl | rfl | ⟨k3, k4, hk3, hk4⟩
          · have hsz : (B v).size ≤ 100000 := by rw [B_size]; omega
            have QM := Lib.hid (quote_any hE1.out.1 hE1.out.2 (B v) hsz)
            rw [B_list] at QM
            replace hT : Hid (prL true (ts.take (i + 1)) = P1 ++ qtL v) := by unfold Hid; rw [hT]; unfold body; simp
            clear hsz
            go_wp2_with fail
            go_at_call 33
            (with_reducible refine QM.out.mono ?_)
            rintro e1 w8 ⟨rfl, hb8⟩
            replace HI := Lib.hid (isB_grow HI.out hb8)
            replace HG : Hid (Below NB w w8) := HG.out.trans (hb8.mono hN1)
            go_wp2_with fail
            go_at_call 63
            (with_reducible refine (wstring_any (HI.out) (B (qtL v)) (by rw [byteCells_len, B_size]; have := qtL_len v; omega) (Nat.le_of_lt (isB_lt HI.out))).mono ?_)
            rintro e1 w9 ⟨rfl, hi9, hb9⟩
            have HI9 : Hid (IsB NB NB (Lib.byteCells (prL true (ts.take (i + 1)))) w9) := by unfold Hid; rw [hT.out, bytes_app]; exact hi9
            have HG9 : Hid (Below NB w w9) := HG.out.trans hb9
            go_wp2_with fail
            go_roundw
            case rel => exact ⟨i + 1, _, _, by omega, rfl, by go_num, hF, rfl, HI9, HG9⟩
            case measure => simp [intOf]; omega
          · have hsz : (B v).size ≤ 100000 := by rw [B_size]; omega
            have QM := Lib.hid (fun wx => qbytes_any wx (B v) hsz)
            rw [B_list] at QM
            replace hT : Hid (prL true (ts.take (i + 1)) = P1 ++ quoteB v) := by unfold Hid; rw [hT]; unfold body; simp
            clear hsz
            go_wp2_with fail
            go_at_call 34
            (with_reducible refine (QM.out _).mono ?_)
            rintro e1 w8 ⟨rfl, hb8⟩
            replace HI := Lib.hid (isB_grow HI.out hb8)
            replace HG : Hid (Below NB w w8) := HG.out.trans (hb8.mono hN1)
            go_wp2_with fail
            go_at_call 63
            (with_reducible refine (wstring_any (HI.out) (B (quoteB v)) (by rw [byteCells_len, B_size]; have := quoteB_len v; omega) (Nat.le_of_lt (isB_lt HI.out))).mono ?_)
            rintro e1 w9 ⟨rfl, hi9, hb9⟩
            have HI9 : Hid (IsB NB NB (Lib.byteCells (prL true (ts.take (i + 1)))) w9) := by unfold Hid; rw [hT.out, bytes_app]; exact hi9
            have HG9 : Hid (Below NB w w9) := HG.out.trans hb9
            go_wp2_with fail
            go_roundw
            case rel => exact ⟨i + 1, _, _, by omega, rfl, by go_num, hF, rfl, HI9, HG9⟩
            case measure => simp [intOf]; omega
          · replace hT : Hid (prL true (ts.take (i + 1)) = P1 ++ tx) := by unfold Hid; rw [hT]; unfold body; simp [hk3, hk4]
            go_wp2_with fail
            go_at_call 63
            (with_reducible refine (wstring_any (HI.out) (B tx) (by rw [byteCells_len, B_size]; skip; omega) (Nat.le_of_lt (isB_lt HI.out))).mono ?_)
            rintro e1 w9 ⟨rfl, hi9, hb9⟩
            have HI9 : Hid (IsB NB NB (Lib.byteCells (prL true (ts.take (i + 1)))) w9) := by unfold Hid; rw [hT.out, bytes_app]; exact hi9
            have HG9 : Hid (Below NB w w9) := HG.out.trans hb9
            go_wp2_with fail
            go_roundw
            case rel => exact ⟨i + 1, _, _, by omega, rfl, by go_num, hF, rfl, HI9, HG9⟩
            case measure => simp [intOf]; omega
    · obtain rfl : i = n := by omega
      rw [List.take_of_length_le (by omega)] at hP0
      have hn0 : P0.length ≤ 60000400000 := by
        have := HS.out.leP (Nat.le_refl _) lA true
        rwa [List.take_of_length_le (by omega), hP0] at this
      have hN0 : NB ≤ wr.heap.size := Nat.le_of_lt (isB_lt HI.out)
      have hres := prRes.eq_1 ts
      rw [hP0] at hres
      replace hP0 := Lib.hid hP0
      clear HF HP0
      have HIF := Lib.hid (Lib.IsBuilderF.of HI.out)
      have SC := Lib.hid (fun (wx : World) (hE : Env wx) => scan_any hE (B P0))
      rw [B_list] at SC
      clear HI
      go_wp2_with fail
      go_at_call 64
      (with_reducible refine (bstring_k P0 HIF.out hN0).mono ?_)
      rintro e1 w1 ⟨rfl, hi1, hb1⟩
      replace HIF := Lib.hid hi1
      replace HG : Hid (Below w.heap.size w w1) := by unfold Hid; rw [hNB.out]; exact HG.out.trans hb1
      have hN1 : NB ≤ w1.heap.size := Nat.le_trans hN0 hb1.size
      clear hi1 hb1 hN0
      rw [show (⟨P0.toArray⟩ : ByteArray) = B P0 from rfl]
      go_wp2_with fail
      go_at_call 12
      (with_reducible refine (SC.out _ (HE.out.grow HG.out)).mono ?_)
      rcases hsc : scanA P0 with us | ⟨o, x⟩
      · have hus := (scanA_ok hsc).2
        rw [hsc] at hres
        dsimp only at hres
        rintro e1 w2 ⟨hb2, A2, c2, rfl, hown⟩
        rw [rowC_rwT] at hown
        have hT2 := TksW.of_own hown
        replace HIF := Lib.hid (isF_grow HIF.out hb2)
        replace HG := Lib.hid (G.trans HG.out hb2)
        have hN2 : NB ≤ w2.heap.size := Nat.le_trans hN1 hb2.size
        have SM := Lib.hid (same_prog hT2 (HA.out.grow HG.out) (by omega) hn)
        clear hown hT2 hb2 hsc hus
        obtain ⟨ul, hul⟩ : ∃ ul, us.length + 1 = ul := ⟨_, rfl⟩
        rw [hul] at SM ⊢
        replace hul := Lib.hid hul
        go_wp2_with fail
        go_at_call 39
        (with_reducible refine SM.out.mono ?_)
        rcases hsm : sameB false (toks P0 us) ts with _ | _
        · rw [hsm, if_neg (by simp)] at hres
          rintro e1 w3 ⟨rfl, hb3⟩
          replace hres := Lib.hid hres
          go_wp2_with fail
          refine bodyPost_ret (v := .tuple #[.string ⟨#[]⟩, .int .i64 3]) (by simp only [results, Tryz.results38]; go_simp) rfl ⟨by first | (rw [hres.out]; done) | (rw [hres.out]; rfl), G.trans HG.out hb3⟩
        · rw [hsm, if_pos rfl] at hres
          rintro e1 w3 ⟨rfl, hb3⟩
          replace hres := Lib.hid hres
          replace HIF := Lib.hid (isF_grow HIF.out hb3)
          replace HG := Lib.hid (G.trans HG.out hb3)
          have hN3 : NB ≤ w3.heap.size := Nat.le_trans hN2 hb3.size
          clear hb3
          go_wp2_with fail
          go_at_call 64
          (with_reducible refine (bstring_k P0 HIF.out hN3).mono ?_)
          rintro e1 w4 ⟨rfl, _, hb4⟩
          rw [show (⟨P0.toArray⟩ : ByteArray) = B P0 from rfl]
          go_wp2_with fail
          refine bodyPost_ret (v := .tuple #[.string (B P0), .int .i64 0]) (by simp only [results, Tryz.results38]; go_simp) rfl ⟨by first | (rw [hres.out]; done) | (rw [hres.out]; rfl), ?_⟩
          have h1 := HG.out
          rw [hNB.out] at h1 ⊢
          exact h1.trans hb4
      · have hx0 := scanA_bad hsc
        have kx : (x != 0) = true := by simp [hx0]
        rw [hsc] at hres
        dsimp only at hres
        rintro e1 w2 ⟨hb2, rfl⟩
        replace hres := Lib.hid hres
        clear hsc hx0
        go_wp2_with fail
        refine bodyPost_ret (v := .tuple #[.string ⟨#[]⟩, .int .i64 3]) (by simp only [results, Tryz.results38]; go_simp) rfl ⟨by first | (rw [hres.out]; done) | (rw [hres.out]; rfl), G.trans HG.out hb2⟩
end
end Go.Proofs.YtmchiibbodllaaaGreatDoor
