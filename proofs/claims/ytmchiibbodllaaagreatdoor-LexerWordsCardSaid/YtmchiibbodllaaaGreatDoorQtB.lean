/- lexer: QuoteBytes. -/
import Derived.Test.YtmchiibbodllaaaGreatDoorScK
import Derived.Test.YtmchiibbodllaaaGreatDoorRel3
import Derived.Test.YtmchiibbodllaaaGreatDoorData
import Derived.ArgAppend
import Derived.Lib.SmallJoins
namespace Go.Proofs.YtmchiibbodllaaaGreatDoor
set_option linter.unusedVariables false
set_option linter.unnecessarySimpa false
set_option linter.unusedSimpArgs false
open Go.RowKit

theorem digIx (w : World) (n : Nat) (h : n < 16) : (Instr.index 9 (.string ⟨#[48, 49, 50, 51, 52, 53, 54, 55, 56, 57, 97, 98, 99, 100, 101, 102]⟩) (.int .u8 (n : Int))).run Tryz.prog w = .ok (.int .u8 ((hexD n).toNat : Int)) w := by
  have h0 : ∀ w : World, (Instr.index 9 (.string ⟨#[48, 49, 50, 51, 52, 53, 54, 55, 56, 57, 97, 98, 99, 100, 101, 102]⟩) (.int .u8 0)).run Tryz.prog w = .ok (.int .u8 48) w := fun w => by kernel_rfl
  have h1 : ∀ w : World, (Instr.index 9 (.string ⟨#[48, 49, 50, 51, 52, 53, 54, 55, 56, 57, 97, 98, 99, 100, 101, 102]⟩) (.int .u8 1)).run Tryz.prog w = .ok (.int .u8 49) w := fun w => by kernel_rfl
  have h2 : ∀ w : World, (Instr.index 9 (.string ⟨#[48, 49, 50, 51, 52, 53, 54, 55, 56, 57, 97, 98, 99, 100, 101, 102]⟩) (.int .u8 2)).run Tryz.prog w = .ok (.int .u8 50) w := fun w => by kernel_rfl
  have h3 : ∀ w : World, (Instr.index 9 (.string ⟨#[48, 49, 50, 51, 52, 53, 54, 55, 56, 57, 97, 98, 99, 100, 101, 102]⟩) (.int .u8 3)).run Tryz.prog w = .ok (.int .u8 51) w := fun w => by kernel_rfl
  have h4 : ∀ w : World, (Instr.index 9 (.string ⟨#[48, 49, 50, 51, 52, 53, 54, 55, 56, 57, 97, 98, 99, 100, 101, 102]⟩) (.int .u8 4)).run Tryz.prog w = .ok (.int .u8 52) w := fun w => by kernel_rfl
  have h5 : ∀ w : World, (Instr.index 9 (.string ⟨#[48, 49, 50, 51, 52, 53, 54, 55, 56, 57, 97, 98, 99, 100, 101, 102]⟩) (.int .u8 5)).run Tryz.prog w = .ok (.int .u8 53) w := fun w => by kernel_rfl
  have h6 : ∀ w : World, (Instr.index 9 (.string ⟨#[48, 49, 50, 51, 52, 53, 54, 55, 56, 57, 97, 98, 99, 100, 101, 102]⟩) (.int .u8 6)).run Tryz.prog w = .ok (.int .u8 54) w := fun w => by kernel_rfl
  have h7 : ∀ w : World, (Instr.index 9 (.string ⟨#[48, 49, 50, 51, 52, 53, 54, 55, 56, 57, 97, 98, 99, 100, 101, 102]⟩) (.int .u8 7)).run Tryz.prog w = .ok (.int .u8 55) w := fun w => by kernel_rfl
  have h8 : ∀ w : World, (Instr.index 9 (.string ⟨#[48, 49, 50, 51, 52, 53, 54, 55, 56, 57, 97, 98, 99, 100, 101, 102]⟩) (.int .u8 8)).run Tryz.prog w = .ok (.int .u8 56) w := fun w => by kernel_rfl
  have h9 : ∀ w : World, (Instr.index 9 (.string ⟨#[48, 49, 50, 51, 52, 53, 54, 55, 56, 57, 97, 98, 99, 100, 101, 102]⟩) (.int .u8 9)).run Tryz.prog w = .ok (.int .u8 57) w := fun w => by kernel_rfl
  have h10 : ∀ w : World, (Instr.index 9 (.string ⟨#[48, 49, 50, 51, 52, 53, 54, 55, 56, 57, 97, 98, 99, 100, 101, 102]⟩) (.int .u8 10)).run Tryz.prog w = .ok (.int .u8 97) w := fun w => by kernel_rfl
  have h11 : ∀ w : World, (Instr.index 9 (.string ⟨#[48, 49, 50, 51, 52, 53, 54, 55, 56, 57, 97, 98, 99, 100, 101, 102]⟩) (.int .u8 11)).run Tryz.prog w = .ok (.int .u8 98) w := fun w => by kernel_rfl
  have h12 : ∀ w : World, (Instr.index 9 (.string ⟨#[48, 49, 50, 51, 52, 53, 54, 55, 56, 57, 97, 98, 99, 100, 101, 102]⟩) (.int .u8 12)).run Tryz.prog w = .ok (.int .u8 99) w := fun w => by kernel_rfl
  have h13 : ∀ w : World, (Instr.index 9 (.string ⟨#[48, 49, 50, 51, 52, 53, 54, 55, 56, 57, 97, 98, 99, 100, 101, 102]⟩) (.int .u8 13)).run Tryz.prog w = .ok (.int .u8 100) w := fun w => by kernel_rfl
  have h14 : ∀ w : World, (Instr.index 9 (.string ⟨#[48, 49, 50, 51, 52, 53, 54, 55, 56, 57, 97, 98, 99, 100, 101, 102]⟩) (.int .u8 14)).run Tryz.prog w = .ok (.int .u8 101) w := fun w => by kernel_rfl
  have h15 : ∀ w : World, (Instr.index 9 (.string ⟨#[48, 49, 50, 51, 52, 53, 54, 55, 56, 57, 97, 98, 99, 100, 101, 102]⟩) (.int .u8 15)).run Tryz.prog w = .ok (.int .u8 102) w := fun w => by kernel_rfl
  have hn : n = 0 ∨ n = 1 ∨ n = 2 ∨ n = 3 ∨ n = 4 ∨ n = 5 ∨ n = 6 ∨ n = 7 ∨ n = 8 ∨ n = 9 ∨ n = 10 ∨ n = 11 ∨ n = 12 ∨ n = 13 ∨ n = 14 ∨ n = 15 := by omega
  clear h
  rcases hn with rfl | rfl | rfl | rfl | rfl | rfl | rfl | rfl | rfl | rfl | rfl | rfl | rfl | rfl | rfl | rfl
  · exact h0 w
  · exact h1 w
  · exact h2 w
  · exact h3 w
  · exact h4 w
  · exact h5 w
  · exact h6 w
  · exact h7 w
  · exact h8 w
  · exact h9 w
  · exact h10 w
  · exact h11 w
  · exact h12 w
  · exact h13 w
  · exact h14 w
  · exact h15 w
theorem infoU8q : (Tryz.prog.info? 5).map (fun i => (i.zero, i.size, i.bytes)) = some (some (.int .u8 0), 1, 1) := by kernel_rfl
theorem qb_takeB {l : List UInt8} {i : Nat} (h : i < l.length) : qb (l.take i) ++ [hexD (l[i].toNat / 16), hexD (l[i].toNat % 16)] = qb (l.take (i + 1)) := by
  rw [List.take_succ_eq_append_getElem h]
  generalize l.take i = a
  generalize l[i] = c
  induction a with
  | nil => rfl
  | cons x a ih => simp [qb] at ih ⊢; exact ih
theorem and15 : ∀ n : Fin 256, bits .and .u8 (n.val : Int) 15 = ((n.val % 16 : Nat) : Int) := by decide +kernel
def u8s (l : List UInt8) : List Value := l.map fun c => .int .u8 (c.toNat : Int)
theorem u8s_app (a b : List UInt8) : u8s (a ++ b) = u8s a ++ u8s b := by unfold u8s; rw [List.map_append]
def OwF (w : World) (base : Nat) (e : TypeId) (A : Option Addr) (n c : Nat) (xs : List Value) : Prop :=
  w.ownsRow base e 1 (.slice A n c) n xs ∨ (∃ g, A = some ⟨g, 0, none⟩ ∧ c = n ∧ 0 < n ∧ base ≤ g ∧ g < w.heap.size ∧ Sl w A n xs)
theorem OwF.grow {w w' : World} {base : Nat} {e : TypeId} {A : Option Addr} {n c : Nat} {xs : List Value} (h : OwF w base e A n c xs) (hb : Below w.heap.size w w') : OwF w' base e A n c xs := by
  rcases h with h | ⟨g, h1, h2, h3, h4, h5, h6⟩
  · exact .inl (own_grow h hb)
  · exact .inr ⟨g, h1, h2, h3, h4, Nat.lt_of_lt_of_le h5 hb.size, h6.grow hb⟩
theorem OwF.lt {w : World} {base : Nat} {e : TypeId} {A : Option Addr} {n c : Nat} {xs : List Value} (h : OwF w base e A n c xs) : ∀ q, (Value.slice A n c).ownBlock = some q → base ≤ q ∧ q < w.heap.size := by
  rcases h with h | ⟨g, rfl, h2, h3, h4, h5, h6⟩
  · exact fun q hq => h.lt q hq
  · intro q hq
    simp [Value.ownBlock] at hq
    subst hq
    exact ⟨h4, h5⟩
theorem OwF.sl {w : World} {base : Nat} {e : TypeId} {A : Option Addr} {n c : Nat} {xs : List Value} (h : OwF w base e A n c xs) : Sl w A n xs := by
  rcases h with h | ⟨g, h1, h2, h3, h4, h5, h6⟩
  · have := Sl.of_own h
    rwa [Nat.mul_one] at this
  · exact h6
section
variable {P : Program}
theorem step_appF {ops : Array Oper} {o : Oper} {a : Act} {w : World} {K : Act → World → Prop} {Q : Exit → Act → World → Prop} {E : Prop} (hgd : o.guard = none) (s x : Operand) (t : TypeId)
    (ho : o.op = .call { callee := .builtin .append, args := #[s, x], argTypes := #[t, t] })
    (base : Nat) (e : TypeId) (i : TypeInfo) (z : Value) (bytes : Nat) (ht : P.underlying t = some (.slice e)) (hi : P.info? e = some i) (hz : i.zero = some z)
    (hsize : i.size = 1) (hby : i.bytes = bytes) (hzs : z.cells.size = 1)
    (A0 : Option Addr) (n c0 : Nat) (xs : List Value) (hs : a.eval s = .slice A0 n c0) (hown : OwF w base e A0 n c0 xs)
    (A : Option Addr) (m c : Nat) (news : List Value) (hx : a.eval x = .slice A m c) (hr : Sl w A m news) (hm : 0 < m) (h1 : ∀ u ∈ news, u.oneCell' = true)
    (h63 : n + m ≤ maxLen) (hbytes : (n + m) * bytes ≤ 140737488355328) (hbase : base ≤ w.heap.size)
    (h : ∀ A' c' w', w'.ownsRow base e 1 (.slice A' (n + m) c') (n + m) (xs ++ news) → n + m ≤ c' → c' ≤ maxLen → w.grownBy w' (Value.slice A0 n c0).ownBlock →
      K (a.put o.dst (.slice A' (n + m) c')) w') :
    if Region.wanted o (yielded ops a.tmps) = true then Oper.wp P o a w K Q else E := by
  rcases hown with hown | ⟨g, rfl, rfl, hn0, hg, hgw, hsl⟩
  · exact step_appB hgd s x t ho base e i z 1 bytes ht hi hz hsize hby hzs Nat.zero_lt_one _ n xs hs hown A m c news hx (by rw [Nat.mul_one]; exact hr) h1 h63 hbytes hbase fun A' c' w' h2 h3 h4 h5 _ => h A' c' w' h2 h3 h4 h5
  · have hw : Region.wanted o (yielded ops a.tmps) = true := by simp [Region.wanted, hgd]
    rw [if_pos hw]
    obtain ⟨b, off, rfl, hb, hc⟩ := hr.2 hm
    obtain ⟨g', off', hge, hgb, hgc⟩ := hsl.2 hn0
    cases hge
    obtain ⟨v', w', hrun, h2, h3⟩ := run_append_arg_grows (P := P) w t o.type e i z 1 bytes ht hi hz hsize hby hzs Nat.zero_lt_one ⟨g, 0, none⟩ c0 c0 xs (by rw [Nat.mul_one]; exact hsl.1) (fun j u hu => by rw [Addr.add_lit]; exact hgc j u hu) ⟨b, off, none⟩ m c news (by rw [Nat.mul_one]; exact hr.1) (fun j u hu => by rw [Addr.add_lit]; exact hc j u hu) (by omega) h63 hbytes
    have h2' := own_mono h2 hbase
    obtain ⟨A', c', rfl, h5, h6⟩ := own_shape h2'
    unfold Oper.wp execOp
    simp only [ho, resolve, invoke, builtin, Sem.run_bind, Sem.run_pure, Result.andThen_ok, List.map_toArray, List.map_cons, List.map_nil, hs, hx, hrun]
    exact h A' c' w' h2' h5 h6 ⟨h3.os, h3.tape, h3.output, h3.size, fun k hk _ => h3.block k hk (by simp)⟩
theorem wpList_appF {ops : Array Oper} {rest : List Oper} {o : Oper} {a : Act} {w : World} {Q : Exit → Act → World → Prop} (hgd : o.guard = none) (s x : Operand) (t : TypeId)
    (ho : o.op = .call { callee := .builtin .append, args := #[s, x], argTypes := #[t, t] })
    (base : Nat) (e : TypeId) (i : TypeInfo) (z : Value) (bytes : Nat) (ht : P.underlying t = some (.slice e)) (hi : P.info? e = some i) (hz : i.zero = some z)
    (hsize : i.size = 1) (hby : i.bytes = bytes) (hzs : z.cells.size = 1)
    (A0 : Option Addr) (n c0 : Nat) (xs : List Value) (hs : a.eval s = .slice A0 n c0) (hown : OwF w base e A0 n c0 xs)
    (A : Option Addr) (m c : Nat) (news : List Value) (hx : a.eval x = .slice A m c) (hr : Sl w A m news) (hm : 0 < m) (h1 : ∀ u ∈ news, u.oneCell' = true)
    (h63 : n + m ≤ maxLen) (hbytes : (n + m) * bytes ≤ 140737488355328) (hbase : base ≤ w.heap.size)
    (h : ∀ A' c' w', w'.ownsRow base e 1 (.slice A' (n + m) c') (n + m) (xs ++ news) → n + m ≤ c' → c' ≤ maxLen → w.grownBy w' (Value.slice A0 n c0).ownBlock →
      wpList P ops Q rest (a.put o.dst (.slice A' (n + m) c')) w') : wpList P ops Q (o :: rest) a w :=
  wpList_plain hgd fun K hK => by
    have := step_appF (P := P) (ops := ops) (o := o) (a := a) (w := w) (K := K) (Q := Q) (E := True) hgd s x t ho base e i z bytes ht hi hz hsize hby hzs A0 n c0 xs hs hown A m c news hx hr hm h1 h63 hbytes hbase fun A' c' w' h2 h3 h4 h5 => hK _ _ (h A' c' w' h2 h3 h4 h5)
    rwa [if_pos (by simp [Region.wanted, hgd])] at this
end
theorem wpList_nm {P : Program} {ops : Array Oper} {rest : List Oper} {a : Act} {w : World} {Q : Exit → Act → World → Prop} (D : World → Prop) (h1 : D w) (h2 : ∀ wx, D wx → wpList P ops Q rest a wx) : wpList P ops Q rest a w := h2 w h1
theorem stopHere {p : Prop} (h : Hid p) : p := h.out
theorem conv_back {w : World} {base : Nat} {A : Option Addr} {n c : Nat} {l : List UInt8} (hl : l.length = n + 1) (h : w.ownsRow base 5 1 (.slice A (n + 1) c) (n + 1) (u8s l)) :
    (convert 63 9 (.slice A (n + 1) c)).run Tryz.prog w = .ok (.string (B l)) w := by
  have hs := Sl.of_own h
  obtain ⟨g, cap, hg⟩ := Joins.ownsRow_form h (by omega)
  cases hg
  obtain ⟨g', off', hge, hgb, hgc⟩ := hs.2 (by omega)
  cases hge
  have := run_convert_bytes_back (P := Tryz.prog) w 63 9 5 ⟨g, 0, none⟩ c l Tryz.underlying63 Tryz.underlying5 Tryz.underlying9 (fun j hj => by
    rw [Addr.add_lit]
    refine hgc j _ ?_
    unfold u8s
    rw [List.getElem?_map, List.getElem?_eq_getElem hj]
    rfl)
  rw [hl] at this
  exact this
theorem slLit {w : World} {e : TypeId} {a b : Value} {fr : Nat × Nat} {C : Array Value} (h : C = #[a, b]) : Sl (w.alloc (.cells C e fr)) (some ⟨w.heap.size, 0, none⟩) 2 [a, b] := by
  subst h
  refine ⟨rfl, fun _ => ⟨_, 0, rfl, by simp, fun j u hu => ?_⟩⟩
  rw [World.cell?_alloc_mark, Nat.zero_add]
  simpa using hu
theorem u8s_one : ∀ {l : List UInt8}, ∀ u ∈ u8s l, u.oneCell' = true := by
  intro l u hu
  unfold u8s at hu
  obtain ⟨x, _, rfl⟩ := List.mem_map.1 hu
  rfl
set_option maxRecDepth 20000 in set_option maxHeartbeats 4000000 in
theorem qbytes_any (w : World) (s : ByteArray) (hs : s.size ≤ 100000) : Calls Tryz.prog 34 #[.string s] w fun e w' => e = .returned (.string (B (quoteB s.data.toList))) ∧ Below w.heap.size w w' := by
  obtain ⟨l, hl⟩ : ∃ l, s.data.toList = l := ⟨_, rfl⟩
  have hlen : s.size = l.length := by rw [← hl, Array.length_toList]; rfl
  replace hlen := Lib.hid hlen
  replace hl := Lib.hid hl
  obtain ⟨iU, hUi, hU0, hU1, hU2⟩ := info_parts infoU8q
  have DI := Lib.hid digIx
  have CS := Go.Joins.run_convert_bytes_const_at (P := Tryz.prog) w 63 5 #[.int .u8 120, .int .u8 34] 2 2 w.heap.size rfl Tryz.underlying63 Tryz.underlying5
  go_enter Tryz.func34, Tryz.ntmps34
  go_wp2_with fail
  refine wp_name (fun wx => OwF wx w.heap.size 5 (some ⟨w.heap.size, 0, none⟩) 2 2 (u8s [120, 34]) ∧ Below w.heap.size w wx) ⟨.inr ⟨_, rfl, rfl, by omega, Nat.le_refl _, by simp, slLit rfl⟩, G.alloc (G.refl w) _⟩ ?_
  rintro w1 ⟨hown1, hb1⟩
  have HO := Lib.hid hown1
  have HB := Lib.hid hb1
  clear hown1 hb1
  go_loopw [9, 3] (fun iv sv wx => ∃ (i : Nat) (A : Option Addr) (c : Nat), i ≤ s.size ∧ iv = .int .i64 (i : Int) ∧ sv = .slice A (2 * i + 2) c ∧ Hid (OwF wx w.heap.size 5 A (2 * i + 2) c (u8s (120 :: 34 :: qb (l.take i)))) ∧ Hid (Below w.heap.size w wx)) (fun iv _ _ => s.size - (intOf iv).toNat)
  case atStart => exact ⟨0, _, _, Nat.zero_le _, rfl, rfl, HO, HB⟩
  case round =>
    clear HO HB
    obtain ⟨i, A, c, hi, rfl, rfl, HO, HB⟩ := hrel
    by_cases hlt : i < s.size
    · have hlt' : (i : Int) < (s.size : Int) := by omega
      have hw2 : IntKind.i64.wrap ((i : Int) + 1) = ((i + 1 : Nat) : Int) := by rw [IntWalk.i64_in _ (by omega)]; omega
      have hlen' := hlen.out
      have hT := qb_takeB (l := l) (i := i) (by omega)
      obtain ⟨x, hx⟩ : ∃ x, s[i] = x := ⟨_, rfl⟩
      have hx2 : l[i]'(by omega) = x := by have := hl.out; rw [← hx]; subst this; rfl
      rw [hx2] at hT
      clear hx2 hlen'
      have hx3 := x.toNat_lt
      obtain ⟨d1, hd1⟩ : ∃ d, x.toNat / 16 = d := ⟨_, rfl⟩
      obtain ⟨d2, hd2⟩ : ∃ d, x.toNat % 16 = d := ⟨_, rfl⟩
      have hq2 : (x.toNat : Int) / 16 = (d1 : Int) := by omega
      have hand := and15 ⟨x.toNat, hx3⟩
      simp only [hd2] at hand
      rw [hd1, hd2] at hT
      have D1 := fun wx => DI.out wx d1 (by omega)
      have D2 := fun wx => DI.out wx d2 (by omega)
      replace hd1 := Lib.hid hd1
      replace hd2 := Lib.hid hd2
      replace hT : Hid (u8s (120 :: 34 :: qb (l.take i)) ++ [.int .u8 ((hexD d1).toNat : Int), .int .u8 ((hexD d2).toNat : Int)] = u8s (120 :: 34 :: qb (l.take (i + 1)))) := by
        unfold Hid
        rw [← hT]
        simp [u8s]
      go_wp2_with fail
      refine wp_region_ord [(0, 1), (1, 1), (2, 1), (3, 1), (4, 1), (5, 1), (6, 1), (7, 1), (8, 1), (9, 1), (10, 1), (11, 2), (12, 3), (13, 0)] [12] 5 (by kernel_rfl) (by decide +kernel) ?_
      simp only [pickO, List.append_eq, List.cons_append, List.nil_append, List.getElem?_cons_succ, List.getElem?_cons_zero]
      intro w0 hG
      (repeat ((first | (with_reducible refine ord_q1 ?_) | (with_reducible refine ord_q0 ?_)); intro K hK; first | (refine Or.inr ⟨?_, ?_⟩; (focus (go_simp; first | done | (simp [undef]; done))); go_simp; (with_reducible refine hK _ ?_); clear hK K) | (refine Or.inl ⟨?_, ?_⟩; (focus (go_simp; done)); apply Exists.intro; refine And.intro ?_ ?_; (focus (first | (intro wq hq; obtain ⟨hcq, hfq⟩ := G.old hq; go_simp; (first | done | exact rfl); done) | (intro wq; go_simp; (first | done | exact rfl); done))); go_simp; (with_reducible refine hK _ ?_); clear hK K) | fail))
      (with_reducible refine ord_run ?_ hG)
      intro K hK
      go_simp
      replace hG := Grew.alloc hG (.cells #[.int .u8 ((hexD d1).toNat : Int), .int .u8 ((hexD d2).toNat : Int)] 5)
      (with_reducible refine hK _ _ hG ?_)
      clear hK K
      (repeat ((first | (with_reducible refine ord_q1 ?_) | (with_reducible refine ord_q0 ?_)); intro K hK; first | (refine Or.inr ⟨?_, ?_⟩; (focus (go_simp; first | done | (simp [undef]; done))); go_simp; (with_reducible refine hK _ ?_); clear hK K) | (refine Or.inl ⟨?_, ?_⟩; (focus (go_simp; done)); apply Exists.intro; refine And.intro ?_ ?_; (focus (first | (intro wq hq; obtain ⟨hcq, hfq⟩ := G.old hq; go_simp; (first | done | exact rfl); done) | (intro wq; go_simp; (first | done | exact rfl); done))); go_simp; (with_reducible refine hK _ ?_); clear hK K) | fail))
      have hown2 := HO.out.grow hG.b
      (with_reducible refine ord_tail ?_); intro K hK
      have hs2 := hG.b.size
      refine step_appF rfl (.tmp 12) (.tmp 23) _ rfl w.heap.size 5 iU _ 1 Tryz.underlying63 hUi hU0 hU1 hU2 rfl A (2 * i + 2) c _ rfl hown2 (some ⟨w0.heap.size, 0, none⟩) 2 2 [.int .u8 ((hexD d1).toNat : Int), .int .u8 ((hexD d2).toNat : Int)] rfl (slLit rfl) (by decide) (by simp [Value.oneCell']) (by show _ ≤ 2 ^ 63 - 1; omega) (by omega) (by have := HB.out.size; omega) ?_
      intro A3 c3 w5 hown5 hc5 hm5 hg5
      rw [hT.out] at hown5
      have hb5 : Below w.heap.size w w5 := Below.grown (HB.out.trans (hG.b.mono HB.out.size)) hg5 (by have := HB.out.size; omega) (fun q hq => (HO.out.lt q hq).1)
      replace hown5 := Lib.hid hown5
      replace hb5 := Lib.hid hb5
      (with_reducible refine hK _ _ ?_); clear hK K
      (repeat ((first | (with_reducible refine ord_q1 ?_) | (with_reducible refine ord_q0 ?_)); intro K hK; first | (refine Or.inr ⟨?_, ?_⟩; (focus (go_simp; first | done | (simp [undef]; done))); go_simp; (with_reducible refine hK _ ?_); clear hK K) | (refine Or.inl ⟨?_, ?_⟩; (focus (go_simp; done)); apply Exists.intro; refine And.intro ?_ ?_; (focus (first | (intro wq hq; obtain ⟨hcq, hfq⟩ := G.old hq; go_simp; (first | done | exact rfl); done) | (intro wq; go_simp; (first | done | exact rfl); done))); go_simp; (with_reducible refine hK _ ?_); clear hK K) | fail))
      (with_reducible refine ord_nil ?_)
      go_wp2_with fail
      go_roundw
      case rel => exact ⟨i + 1, A3, c3, by omega, by go_num, by rw [show 2 * (i + 1) + 2 = 2 * i + 2 + 2 by omega], Lib.hid (.inl (by rw [show 2 * (i + 1) + 2 = 2 * i + 2 + 2 by omega]; exact hown5.out)), hb5⟩
      case measure => simp [intOf]; omega
    · obtain rfl : i = s.size := by omega
      have hq : u8s (120 :: 34 :: qb (l.take s.size)) ++ [.int .u8 34] = u8s (quoteB l) := by
        have := hlen.out
        rw [List.take_of_length_le (by omega)]
        unfold quoteB u8s
        simp
      have hql : (quoteB l).length = 2 * s.size + 2 + 1 := by
        have := hlen.out
        unfold quoteB
        simp only [List.length_cons, List.length_append, List.length_nil, qb_len]
        omega
      go_wp2_with (at_builtin; apply stopHere)
      apply Lib.hid
      (refine wpList_appF rfl (.tmp 26) (.tmp 27) _ rfl w.heap.size 5 iU _ 1 Tryz.underlying63 hUi hU0 hU1 hU2 rfl A (2 * s.size + 2) c _ rfl (HO.out.grow (G.alloc (G.refl wr) _)) (some ⟨wr.heap.size, 0, none⟩) 1 1 [.int .u8 34] rfl (Sl.new rfl rfl) (by decide) (by simp [Value.oneCell']) (by show _ ≤ 2 ^ 63 - 1; omega) (by omega) (by have := HB.out.size; simp; omega) ?_; intro A3 c3 w5 hown5 hc5 hm5 hg5; refine wpList_nm (fun wx => (convert 63 9 (.slice A3 (2 * s.size + 2 + 1) c3)).run Tryz.prog wx = .ok (.string (B (quoteB l))) wx ∧ Below w.heap.size w wx) ⟨conv_back hql (hq ▸ hown5), Below.grown (HB.out.alloc HB.out.size _) hg5 (by have := HB.out.size; simp; omega) (fun q hq => (HO.out.lt q hq).1)⟩ ?_; clear hown5 hc5 hm5 hg5; rintro w8 ⟨hcv, hb8⟩)
      go_wp2_with fail
      go_ret
      refine ⟨?_, hb8⟩
      rw [hl.out]
      rfl
end Go.Proofs.YtmchiibbodllaaaGreatDoor
