/- lexer: Quote. -/
import Derived.Test.YtmchiibbodllaaaGreatDoorQtB
import Derived.Test.YtmchiibbodllaaaGreatDoorQtD
import Derived.Test.YtmchiibbodllaaaGreatDoorQtF
import Derived.Test.YtmchiibbodllaaaGreatDoorPrM
import Derived.Test.YtmchiibbodllaaaGreatDoorAppS
namespace Go.Proofs.YtmchiibbodllaaaGreatDoor
set_option linter.unusedVariables false
set_option linter.unnecessarySimpa false
set_option linter.unusedSimpArgs false
open Go.RowKit

theorem quote_idx : ∀ d : Fin 256, Lib.indexByte [34, 92, 10, 13, 9] (UInt8.ofNat d.val) = (if d.val = 34 then 0 else if d.val = 92 then 1 else if d.val = 10 then 2 else if d.val = 13 then 3 else if d.val = 9 then 4 else -1) := by decide +kernel
section
variable {P : Program}
theorem wpList_appS {ops : Array Oper} {rest : List Oper} {o : Oper} {a : Act} {w : World} {Q : Exit → Act → World → Prop} (hgd : o.guard = none) (sl x : Operand) (t u : TypeId)
    (ho : o.op = .call { callee := .builtin .append, args := #[sl, x], argTypes := #[t, u] })
    (base : Nat) (e : TypeId) (i : TypeInfo) (ht : P.underlying t = some (.slice e)) (hu : P.underlying u = some .string) (hi : P.info? e = some i) (hz : i.zero = some (.int .u8 0)) (hsize : i.size = 1) (hby : i.bytes = 1)
    (v : Value) (n : Nat) (xs : List Value) (hs : a.eval sl = v) (hown : w.ownsRow base e 1 v n xs) (s : ByteArray) (hx : a.eval x = .string s)
    (h63 : n + s.size ≤ maxLen) (hbytes : n + s.size ≤ 140737488355328) (hbase : base ≤ w.heap.size)
    (h : ∀ A' c' w', w'.ownsRow base e 1 (.slice A' (n + s.size) c') (n + s.size) (xs ++ Lib.strCells s) → n + s.size ≤ c' → c' ≤ maxLen → w.grownBy w' v.ownBlock →
      wpList P ops Q rest (a.put o.dst (.slice A' (n + s.size) c')) w') : wpList P ops Q (o :: rest) a w :=
  wpList_plain hgd fun K hK => by
    have := step_appS (P := P) (w := w) (ops := ops) (o := o) (a := a) (K := K) (Q := Q) (E := True) hgd sl x t u ho base e i ht hu hi hz hsize hby v n xs hs hown s hx h63 hbytes hbase fun A' c' w' h2 h3 h4 h5 _ => hK _ _ (h A' c' w' h2 h3 h4 h5)
    rwa [if_pos (by simp [Region.wanted, hgd])] at this
end
theorem strB_cells (l : List UInt8) : Lib.strCells (B l) = u8s l := by
  unfold Lib.strCells u8s B
  rfl
theorem qs_snoc {l : List UInt8} {i : Nat} (h : i < l.length) : u8s (34 :: qs (l.take i)) ++ u8s (qc l[i]) = u8s (34 :: qs (l.take (i + 1))) := by
  rw [← u8s_app, qs_take h]
  rfl
section
variable {w : World}
set_option maxRecDepth 20000 in set_option maxHeartbeats 8000000 in
theorem quote_any (hE : Env w) (hD : Tab4 w) (s : ByteArray) (hs : s.size ≤ 100000) : Calls Tryz.prog 33 #[.string s] w fun e w' => e = .returned (.string (B (qtL s.data.toList))) ∧ Below w.heap.size w w' := by
  obtain ⟨l, hl⟩ : ∃ l, s.data.toList = l := ⟨_, rfl⟩
  have hlen : s.size = l.length := by rw [← hl, Array.length_toList]; rfl
  replace hlen := Lib.hid hlen
  obtain ⟨iU, hUi, hU0, hU1, hU2⟩ := info_parts infoU8q
  have V := Lib.hid (charsetValid_any hE s (by omega))
  have HD := Lib.hid hD
  clear hE hD
  rw [hl] at V
  replace hl := Lib.hid hl
  rcases hv : Lib.validD l with _ | _
  · rw [hv] at V
    have HR : Hid (qtL l = []) := by unfold Hid qtL; simp [hv]
    clear hv
    go_enter Tryz.func33, Tryz.ntmps33
    go_wp2_with fail
    go_at_call 36
    (with_reducible refine V.out.mono ?_)
    rintro e1 w1 ⟨rfl, hb1⟩
    go_wp2_with fail
    go_ret
    rw [hl.out, HR.out]
    exact ⟨rfl, hb1⟩
  · rw [hv] at V
    have HR : Hid (qtL l = quoteL l) := by unfold Hid qtL; simp [hv]
    clear hv
    go_enter Tryz.func33, Tryz.ntmps33
    go_wp2_with fail
    go_at_call 36
    (with_reducible refine V.out.mono ?_)
    rintro e1 w1 ⟨rfl, hb1⟩
    clear V
    replace hb1 := Lib.hid hb1
    go_wp2_with fail
    refine wp_name (fun wx => Hid (wx.ownsRow w.heap.size 5 1 (.slice (some ⟨w1.heap.size, 0, none⟩) 1 1) 1 (u8s (34 :: qs (l.take 0)))) ∧ Hid (Below w.heap.size w wx)) ⟨World.ownsRow_lit w1 #[.int .u8 34] 1 hb1.out.size (by decide) rfl, hb1.out.alloc hb1.out.size _⟩ ?_
    rintro w2 ⟨HO, HB⟩
    go_loopw [13, 3] (fun iv sv wx => ∃ (i : Nat) (A : Option Addr) (n c : Nat), i ≤ s.size ∧ iv = .int .i64 (i : Int) ∧ sv = .slice A n c ∧ Hid (wx.ownsRow w.heap.size 5 1 (.slice A n c) n (u8s (34 :: qs (l.take i)))) ∧ Hid (Below w.heap.size w wx)) (fun iv _ _ => s.size - (intOf iv).toNat)
    case atStart => exact ⟨0, _, _, _, Nat.zero_le _, rfl, rfl, HO, HB⟩
    case round =>
      clear HO HB hb1
      obtain ⟨i, A, n, c, hi, rfl, rfl, HO, HB⟩ := hrel
      have hnb : n ≤ 600001 := by
        have h1 := HO.out.1
        have h2 := qs_len (l.take i)
        unfold u8s at h1
        have h3 := hlen.out
        rw [List.length_map, List.length_cons, Nat.mul_one] at h1
        rw [List.length_take] at h2
        omega
      by_cases hlt : i < s.size
      · have hlt' : (i : Int) < (s.size : Int) := by omega
        have hw2 : IntKind.i64.wrap ((i : Int) + 1) = ((i + 1 : Nat) : Int) := by rw [IntWalk.i64_in _ (by omega)]; omega
        have hlen' := hlen.out
        have hT := qs_snoc (l := l) (i := i) (by omega)
        obtain ⟨x, hx⟩ : ∃ x, s[i] = x := ⟨_, rfl⟩
        have hx2 : l[i]'(by omega) = x := by have := hl.out; rw [← hx]; subst this; rfl
        rw [hx2] at hT
        clear hx2 hlen'
        have hx3 := x.toNat_lt
        have IB := Lib.hid (fun w => Tryz.strings_IndexByte ⟨#[34, 92, 10, 13, 9]⟩ (x.toNat : Int) w)
        have e1 : (((x.toNat : Nat) : Int)).toNat.toUInt8 = x := by simp
        rw [e1, show (⟨#[34, 92, 10, 13, 9]⟩ : ByteArray).data.toList = [34, 92, 10, 13, 9] from rfl] at IB
        clear e1
        have hix := quote_idx ⟨x.toNat, hx3⟩
        simp only [u8_self] at hix
        by_cases h34 : x.toNat = 34
        · rw [if_pos h34] at hix
          rw [hix] at IB
          have hqc : u8s (qc x) = [.int .u8 92, .int .u8 34] := by unfold qc; simp [h34]; rfl
          rw [hqc] at hT
          replace hT := Lib.hid hT
          have hIx : ∀ w : World, (Instr.index 9 (.string ⟨#[34, 92, 110, 114, 116]⟩) (.int .i64 0)).run Tryz.prog w = .ok (.int .u8 34) w := fun w => by kernel_rfl
          clear hqc hix h34 
          go_wp2_with (at_builtin; apply stopHere)
          go_at_call 58
          (with_reducible refine (IB.out _).mono ?_)
          rintro e1 w3 ⟨rfl, rfl⟩
          go_wp2_with (at_builtin; apply stopHere)
          apply Lib.hid
          (refine wpList_app _ rfl (.tmp 23) (.tmp 26) _ rfl w.heap.size 5 iU _ 1 1 Tryz.underlying63 hUi hU0 hU1 hU2 rfl Nat.zero_lt_one _ n _ rfl (own_grow HO.out (G.alloc (G.refl w3) _)) (some ⟨w3.heap.size, 0, none⟩) 2 2 [.int .u8 92, .int .u8 34] rfl (Sl.new rfl rfl) (by simp [Value.oneCell']) (by show _ ≤ 2 ^ 63 - 1; omega) (by omega) (by have := HB.out.size; simp; omega) ?_; intro A3 c3 w5 hown5 hc5 hm5 hg5; rw [hT.out] at hown5; refine wpList_nm (fun wx => Hid (wx.ownsRow w.heap.size 5 1 (.slice A3 (n + 2) c3) (n + 2) (u8s (34 :: qs (l.take (i + 1))))) ∧ Hid (Below w.heap.size w wx)) ⟨hown5, Below.grown (HB.out.alloc HB.out.size _) hg5 (by have := HB.out.size; simp; omega) (fun q hq => (HO.out.lt q hq).1)⟩ ?_; clear hown5 hc5 hm5 hg5; rintro w8 ⟨HO8, HB8⟩)
          go_wp2_with fail
          go_roundw
          case rel => exact ⟨i + 1, A3, _, c3, by omega, by go_num, rfl, HO8, HB8⟩
          case measure => simp [intOf]; omega
        rw [if_neg h34] at hix
        by_cases h92 : x.toNat = 92
        · rw [if_pos h92] at hix
          rw [hix] at IB
          have hqc : u8s (qc x) = [.int .u8 92, .int .u8 92] := by unfold qc; simp [h34, h92]; rfl
          rw [hqc] at hT
          replace hT := Lib.hid hT
          have hIx : ∀ w : World, (Instr.index 9 (.string ⟨#[34, 92, 110, 114, 116]⟩) (.int .i64 1)).run Tryz.prog w = .ok (.int .u8 92) w := fun w => by kernel_rfl
          clear hqc hix h92 h34
          go_wp2_with (at_builtin; apply stopHere)
          go_at_call 58
          (with_reducible refine (IB.out _).mono ?_)
          rintro e1 w3 ⟨rfl, rfl⟩
          go_wp2_with (at_builtin; apply stopHere)
          apply Lib.hid
          (refine wpList_app _ rfl (.tmp 23) (.tmp 26) _ rfl w.heap.size 5 iU _ 1 1 Tryz.underlying63 hUi hU0 hU1 hU2 rfl Nat.zero_lt_one _ n _ rfl (own_grow HO.out (G.alloc (G.refl w3) _)) (some ⟨w3.heap.size, 0, none⟩) 2 2 [.int .u8 92, .int .u8 92] rfl (Sl.new rfl rfl) (by simp [Value.oneCell']) (by show _ ≤ 2 ^ 63 - 1; omega) (by omega) (by have := HB.out.size; simp; omega) ?_; intro A3 c3 w5 hown5 hc5 hm5 hg5; rw [hT.out] at hown5; refine wpList_nm (fun wx => Hid (wx.ownsRow w.heap.size 5 1 (.slice A3 (n + 2) c3) (n + 2) (u8s (34 :: qs (l.take (i + 1))))) ∧ Hid (Below w.heap.size w wx)) ⟨hown5, Below.grown (HB.out.alloc HB.out.size _) hg5 (by have := HB.out.size; simp; omega) (fun q hq => (HO.out.lt q hq).1)⟩ ?_; clear hown5 hc5 hm5 hg5; rintro w8 ⟨HO8, HB8⟩)
          go_wp2_with fail
          go_roundw
          case rel => exact ⟨i + 1, A3, _, c3, by omega, by go_num, rfl, HO8, HB8⟩
          case measure => simp [intOf]; omega
        rw [if_neg h92] at hix
        by_cases h10 : x.toNat = 10
        · rw [if_pos h10] at hix
          rw [hix] at IB
          have hqc : u8s (qc x) = [.int .u8 92, .int .u8 110] := by unfold qc; simp [h34, h92, h10]; rfl
          rw [hqc] at hT
          replace hT := Lib.hid hT
          have hIx : ∀ w : World, (Instr.index 9 (.string ⟨#[34, 92, 110, 114, 116]⟩) (.int .i64 2)).run Tryz.prog w = .ok (.int .u8 110) w := fun w => by kernel_rfl
          clear hqc hix h10 h34 h92
          go_wp2_with (at_builtin; apply stopHere)
          go_at_call 58
          (with_reducible refine (IB.out _).mono ?_)
          rintro e1 w3 ⟨rfl, rfl⟩
          go_wp2_with (at_builtin; apply stopHere)
          apply Lib.hid
          (refine wpList_app _ rfl (.tmp 23) (.tmp 26) _ rfl w.heap.size 5 iU _ 1 1 Tryz.underlying63 hUi hU0 hU1 hU2 rfl Nat.zero_lt_one _ n _ rfl (own_grow HO.out (G.alloc (G.refl w3) _)) (some ⟨w3.heap.size, 0, none⟩) 2 2 [.int .u8 92, .int .u8 110] rfl (Sl.new rfl rfl) (by simp [Value.oneCell']) (by show _ ≤ 2 ^ 63 - 1; omega) (by omega) (by have := HB.out.size; simp; omega) ?_; intro A3 c3 w5 hown5 hc5 hm5 hg5; rw [hT.out] at hown5; refine wpList_nm (fun wx => Hid (wx.ownsRow w.heap.size 5 1 (.slice A3 (n + 2) c3) (n + 2) (u8s (34 :: qs (l.take (i + 1))))) ∧ Hid (Below w.heap.size w wx)) ⟨hown5, Below.grown (HB.out.alloc HB.out.size _) hg5 (by have := HB.out.size; simp; omega) (fun q hq => (HO.out.lt q hq).1)⟩ ?_; clear hown5 hc5 hm5 hg5; rintro w8 ⟨HO8, HB8⟩)
          go_wp2_with fail
          go_roundw
          case rel => exact ⟨i + 1, A3, _, c3, by omega, by go_num, rfl, HO8, HB8⟩
          case measure => simp [intOf]; omega
        rw [if_neg h10] at hix
        by_cases h13 : x.toNat = 13
        · rw [if_pos h13] at hix
          rw [hix] at IB
          have hqc : u8s (qc x) = [.int .u8 92, .int .u8 114] := by unfold qc; simp [h34, h92, h10, h13]; rfl
          rw [hqc] at hT
          replace hT := Lib.hid hT
          have hIx : ∀ w : World, (Instr.index 9 (.string ⟨#[34, 92, 110, 114, 116]⟩) (.int .i64 3)).run Tryz.prog w = .ok (.int .u8 114) w := fun w => by kernel_rfl
          clear hqc hix h13 h34 h92 h10
          go_wp2_with (at_builtin; apply stopHere)
          go_at_call 58
          (with_reducible refine (IB.out _).mono ?_)
          rintro e1 w3 ⟨rfl, rfl⟩
          go_wp2_with (at_builtin; apply stopHere)
          apply Lib.hid
          (refine wpList_app _ rfl (.tmp 23) (.tmp 26) _ rfl w.heap.size 5 iU _ 1 1 Tryz.underlying63 hUi hU0 hU1 hU2 rfl Nat.zero_lt_one _ n _ rfl (own_grow HO.out (G.alloc (G.refl w3) _)) (some ⟨w3.heap.size, 0, none⟩) 2 2 [.int .u8 92, .int .u8 114] rfl (Sl.new rfl rfl) (by simp [Value.oneCell']) (by show _ ≤ 2 ^ 63 - 1; omega) (by omega) (by have := HB.out.size; simp; omega) ?_; intro A3 c3 w5 hown5 hc5 hm5 hg5; rw [hT.out] at hown5; refine wpList_nm (fun wx => Hid (wx.ownsRow w.heap.size 5 1 (.slice A3 (n + 2) c3) (n + 2) (u8s (34 :: qs (l.take (i + 1))))) ∧ Hid (Below w.heap.size w wx)) ⟨hown5, Below.grown (HB.out.alloc HB.out.size _) hg5 (by have := HB.out.size; simp; omega) (fun q hq => (HO.out.lt q hq).1)⟩ ?_; clear hown5 hc5 hm5 hg5; rintro w8 ⟨HO8, HB8⟩)
          go_wp2_with fail
          go_roundw
          case rel => exact ⟨i + 1, A3, _, c3, by omega, by go_num, rfl, HO8, HB8⟩
          case measure => simp [intOf]; omega
        rw [if_neg h13] at hix
        by_cases h9 : x.toNat = 9
        · rw [if_pos h9] at hix
          rw [hix] at IB
          have hqc : u8s (qc x) = [.int .u8 92, .int .u8 116] := by unfold qc; simp [h34, h92, h10, h13, h9]; rfl
          rw [hqc] at hT
          replace hT := Lib.hid hT
          have hIx : ∀ w : World, (Instr.index 9 (.string ⟨#[34, 92, 110, 114, 116]⟩) (.int .i64 4)).run Tryz.prog w = .ok (.int .u8 116) w := fun w => by kernel_rfl
          clear hqc hix h9 h34 h92 h10 h13
          go_wp2_with (at_builtin; apply stopHere)
          go_at_call 58
          (with_reducible refine (IB.out _).mono ?_)
          rintro e1 w3 ⟨rfl, rfl⟩
          go_wp2_with (at_builtin; apply stopHere)
          apply Lib.hid
          (refine wpList_app _ rfl (.tmp 23) (.tmp 26) _ rfl w.heap.size 5 iU _ 1 1 Tryz.underlying63 hUi hU0 hU1 hU2 rfl Nat.zero_lt_one _ n _ rfl (own_grow HO.out (G.alloc (G.refl w3) _)) (some ⟨w3.heap.size, 0, none⟩) 2 2 [.int .u8 92, .int .u8 116] rfl (Sl.new rfl rfl) (by simp [Value.oneCell']) (by show _ ≤ 2 ^ 63 - 1; omega) (by omega) (by have := HB.out.size; simp; omega) ?_; intro A3 c3 w5 hown5 hc5 hm5 hg5; rw [hT.out] at hown5; refine wpList_nm (fun wx => Hid (wx.ownsRow w.heap.size 5 1 (.slice A3 (n + 2) c3) (n + 2) (u8s (34 :: qs (l.take (i + 1))))) ∧ Hid (Below w.heap.size w wx)) ⟨hown5, Below.grown (HB.out.alloc HB.out.size _) hg5 (by have := HB.out.size; simp; omega) (fun q hq => (HO.out.lt q hq).1)⟩ ?_; clear hown5 hc5 hm5 hg5; rintro w8 ⟨HO8, HB8⟩)
          go_wp2_with fail
          go_roundw
          case rel => exact ⟨i + 1, A3, _, c3, by omega, by go_num, rfl, HO8, HB8⟩
          case measure => simp [intOf]; omega
        rw [if_neg h9] at hix
        rw [hix] at IB
        clear hix
        by_cases hct : x.toNat < 32 ∨ x.toNat = 127
        · obtain ⟨m, hm⟩ : ∃ m, (hexs x).length = m := ⟨_, rfl⟩
          have hmb := hexs_len x
          have hqc : qc x = 92 :: 117 :: 123 :: (hexs x ++ [125]) := by unfold qc; simp [h34, h92, h10, h13, h9, hct]
          obtain ⟨P1, hP1⟩ : ∃ P, [92, 117, 123] ++ hexs x = P := ⟨_, rfl⟩
          obtain ⟨P2, hP2⟩ : ∃ P, P1 ++ [125] = P := ⟨_, rfl⟩
          have j1 : ⟨#[92, 117, 123]⟩ ++ B (hexs x) = B P1 := by rw [show (⟨#[92, 117, 123]⟩ : ByteArray) = B [92, 117, 123] from rfl, B_app, hP1]
          have j2 : B P1 ++ ⟨#[125]⟩ = B P2 := by rw [show (⟨#[125]⟩ : ByteArray) = B [125] from rfl, B_app, hP2]
          have y0 : (B (hexs x)).size = m := by rw [B_size, hm]
          have y1 : (B P1).size = 3 + m := by rw [B_size, ← hP1]; simp [hm]; omega
          have y2 : (B P2).size = 4 + m := by rw [B_size, ← hP2]; rw [B_size] at y1; simp [y1]; omega
          have g1 : ¬ 9223372036854775807 < 3 + m := by omega
          have g2 : ¬ 9223372036854775807 < 3 + m + 1 := by omega
          have v0 : IntKind.i64.wrap (x.toNat : Int) = (x.toNat : Int) := IntWalk.i64_in _ (by omega)
          replace hT : Hid (u8s (34 :: qs (l.take i)) ++ Lib.strCells (B P2) = u8s (34 :: qs (l.take (i + 1)))) := by
            unfold Hid
            rw [strB_cells, ← hT, hqc, ← hP2, ← hP1]
            simp
          have hkk : ((x.toNat : Int) < 32) ∨ (¬ (x.toNat : Int) < 32 ∧ ((x.toNat : Int) == 127) = true) := by
            by_cases hx32 : x.toNat < 32
            · exact .inl (by omega)
            · exact .inr ⟨by omega, by rw [show x.toNat = 127 by omega]; rfl⟩
          have HX := Lib.hid (show x.toNat < 128 by omega)
          have mb : m ≤ 2 := by omega
          replace hm := Lib.hid hm
          clear hqc hP1 hP2 hct h34 h92 h10 h13 h9 hmb
          rcases hkk with l32 | ⟨l32, k127⟩
          all_goals
            go_wp2_with (at_builtin; apply stopHere)
            go_at_call 58
            (with_reducible refine (IB.out _).mono ?_)
            rintro e1 w3 ⟨rfl, rfl⟩
            go_wp2_with (at_builtin; apply stopHere)
            go_at_call 59
            (with_reducible refine (fint_any (HD.out.grow HB.out) x HX.out).mono ?_)
            rintro e1 w4 ⟨rfl, hb4⟩
            replace hb4 := Lib.hid hb4
            go_wp2_with (at_builtin; apply stopHere)
            apply Lib.hid
            (refine wpList_appS rfl (.tmp 34) (.tmp 39) _ _ rfl w.heap.size 5 iU Tryz.underlying63 Tryz.underlying9 hUi hU0 hU1 hU2 _ n _ rfl (own_grow HO.out hb4.out) (B P2) rfl (by rw [y2]; show _ ≤ 2 ^ 63 - 1; omega) (by rw [y2]; omega) (by have := HB.out.size; have := hb4.out.size; omega) ?_; intro A3 c3 w5 hown5 hc5 hm5 hg5; rw [hT.out, y2] at hown5; refine wpList_nm (fun wx => Hid (wx.ownsRow w.heap.size 5 1 (.slice A3 (n + (4 + m)) c3) (n + (4 + m)) (u8s (34 :: qs (l.take (i + 1))))) ∧ Hid (Below w.heap.size w wx)) ⟨hown5, Below.grown (G.trans HB.out hb4.out) hg5 (by have := HB.out.size; have := hb4.out.size; omega) (fun q hq => (HO.out.lt q hq).1)⟩ ?_; clear hown5 hc5 hm5 hg5; rintro w8 ⟨HO8, HB8⟩)
            go_wp2_with fail
            go_roundw
            case rel => exact ⟨i + 1, A3, _, c3, by omega, by go_num, rfl, HO8, HB8⟩
            case measure => simp [intOf]; omega
        · have l32 : ¬ (x.toNat : Int) < 32 := by omega
          have k127 : ((x.toNat : Int) == 127) = false := by simp; omega
          have hqc : u8s (qc x) = [.int .u8 (x.toNat : Int)] := by unfold qc; simp [h34, h92, h10, h13, h9, hct]; rfl
          rw [hqc] at hT
          replace hT := Lib.hid hT
          clear hqc hct h34 h92 h10 h13 h9
          go_wp2_with (at_builtin; apply stopHere)
          go_at_call 58
          (with_reducible refine (IB.out _).mono ?_)
          rintro e1 w3 ⟨rfl, rfl⟩
          go_wp2_with (at_builtin; apply stopHere)
          apply Lib.hid
          (refine wpList_app _ rfl (.tmp 41) (.tmp 43) _ rfl w.heap.size 5 iU _ 1 1 Tryz.underlying63 hUi hU0 hU1 hU2 rfl Nat.zero_lt_one _ n _ rfl (own_grow HO.out (G.alloc (G.refl w3) _)) (some ⟨w3.heap.size, 0, none⟩) 1 1 [.int .u8 (x.toNat : Int)] rfl (Sl.new rfl rfl) (by simp [Value.oneCell']) (by show _ ≤ 2 ^ 63 - 1; omega) (by omega) (by have := HB.out.size; simp; omega) ?_; intro A3 c3 w5 hown5 hc5 hm5 hg5; rw [hT.out] at hown5; refine wpList_nm (fun wx => Hid (wx.ownsRow w.heap.size 5 1 (.slice A3 (n + 1) c3) (n + 1) (u8s (34 :: qs (l.take (i + 1))))) ∧ Hid (Below w.heap.size w wx)) ⟨hown5, Below.grown (HB.out.alloc HB.out.size _) hg5 (by have := HB.out.size; simp; omega) (fun q hq => (HO.out.lt q hq).1)⟩ ?_; clear hown5 hc5 hm5 hg5; rintro w8 ⟨HO8, HB8⟩)
          go_wp2_with fail
          go_roundw
          case rel => exact ⟨i + 1, A3, _, c3, by omega, by go_num, rfl, HO8, HB8⟩
          case measure => simp [intOf]; omega
      · obtain rfl : i = s.size := by omega
        have hq : u8s (34 :: qs (l.take s.size)) ++ [.int .u8 34] = u8s (quoteL l) := by
          have := hlen.out
          rw [List.take_of_length_le (by omega)]
          unfold quoteL u8s
          simp
        have hql : (quoteL l).length = n + 1 := by
          have h1 := HO.out.1
          have h3 := congrArg List.length hq
          unfold u8s at h1 h3
          simp only [List.length_map, List.length_append, List.length_cons, List.length_nil, Nat.mul_one] at h1 h3
          omega
        have hq := Lib.hid hq
        have hql := Lib.hid hql
        go_wp2_with (at_builtin; apply stopHere)
        apply Lib.hid
        (refine wpList_app _ rfl (.tmp 46) (.tmp 47) _ rfl w.heap.size 5 iU _ 1 1 Tryz.underlying63 hUi hU0 hU1 hU2 rfl Nat.zero_lt_one _ n _ rfl (own_grow HO.out (G.alloc (G.refl wr) _)) (some ⟨wr.heap.size, 0, none⟩) 1 1 [.int .u8 34] rfl (Sl.new rfl rfl) (by simp [Value.oneCell']) (by show _ ≤ 2 ^ 63 - 1; omega) (by omega) (by have := HB.out.size; simp; omega) ?_; intro A3 c3 w5 hown5 hc5 hm5 hg5; refine wpList_nm (fun wx => (convert 63 9 (.slice A3 (n + 1) c3)).run Tryz.prog wx = .ok (.string (B (quoteL l))) wx ∧ Below w.heap.size w wx) ⟨conv_back hql.out (hq.out ▸ hown5), Below.grown (HB.out.alloc HB.out.size _) hg5 (by have := HB.out.size; simp; omega) (fun q hq => (HO.out.lt q hq).1)⟩ ?_; clear hown5 hc5 hm5 hg5; rintro w8 ⟨hcv, hb8⟩)
        go_wp2_with fail
        go_ret
        refine ⟨?_, hb8⟩
        rw [hl.out, HR.out]
        rfl
end
end Go.Proofs.YtmchiibbodllaaaGreatDoor
