/- lexer: symbol. -/
import Derived.Test.YtmchiibbodllaaaGreatDoorScF
import Derived.LoopN
namespace Go.Proofs.YtmchiibbodllaaaGreatDoor
set_option linter.unusedVariables false
set_option linter.unnecessarySimpa false
set_option linter.unusedSimpArgs false
open Go.RowKit

def RetY (w : World) (b r : Nat) (s : ByteArray) (i : Nat) (wg ln cl : Int) (j : Bool) (x : Lx) (e : Ending) (w' : World) : Prop :=
  (∀ n t, x = .ok n t → e = .returned (.bool true) ∧ Rd w w' b r s i wg ln cl j x) ∧ (∀ o c, x = .bad o c → e = .returned (.bool false) ∧ Below w.heap.size w w')
theorem pre2 (q : List UInt8) (c d : UInt8) : Lib.hasPrefix q [c, d] = true ↔ q.take 2 = [c, d] := by
  unfold Lib.hasPrefix
  rcases q with _ | ⟨x, _ | ⟨y, r⟩⟩
  · simp
  · simp
  · simp only [List.isPrefixOf, Bool.and_true, Bool.and_eq_true, beq_iff_eq, List.take_succ_cons, List.take_zero, List.cons.injEq, and_true]
    constructor <;> rintro ⟨h1, h2⟩ <;> exact ⟨h1.symm, h2.symm⟩
theorem idx_mem : ∀ (l : List UInt8) (c : UInt8), (0 ≤ Lib.indexByte l c ↔ c ∈ l) ∧ -1 ≤ Lib.indexByte l c
  | [], c => by simp [Lib.indexByte]
  | x :: l, c => by
    obtain ⟨h1, h2⟩ := idx_mem l c
    unfold Lib.indexByte
    by_cases h : (x == c) = true
    · rw [if_pos h]
      have : x = c := by simpa using h
      simp [this]
    · rw [if_neg h]
      have hx : ¬ c = x := fun e => h (by simp [e])
      by_cases h3 : (Lib.indexByte l c == -1) = true
      · rw [if_pos h3]
        have h4 : Lib.indexByte l c = -1 := by simpa using h3
        refine ⟨⟨fun h => absurd h (by omega), fun h => ?_⟩, by omega⟩
        rcases List.mem_cons.1 h with h | h
        · exact absurd h hx
        · have := h1.2 h
          omega
      · rw [if_neg h3]
        have h4 : ¬ Lib.indexByte l c = -1 := by simpa using h3
        refine ⟨⟨fun h => List.mem_cons_of_mem _ (h1.1 (by omega)), fun h => ?_⟩, by omega⟩
        rcases List.mem_cons.1 h with h | h
        · exact absurd h hx
        · have := h1.2 h
          omega
section
variable {w : World} {b r : Nat} {s : ByteArray} {i : Nat} {wg ln cl : Int} {j : Bool}
set_option maxRecDepth 20000 in set_option maxHeartbeats 8000000 in
theorem symbol_any (hE : Env w) (hgb : ¬ GB b) (hgr : ¬ GB r) (h : Bx w b (scC s i wg 0)) (ht : Bx w r (tkC 0 ln cl ⟨#[]⟩ ⟨#[]⟩ 0 0 j)) (hbr : r ≠ b) (hs : s.size ≤ 100000) (hi : i < s.size) :
    Calls Tryz.prog 47 #[.pointer (some ⟨b, 0, none⟩), .pointer (some ⟨r, 0, none⟩)] w (RetY w b r s i wg ln cl j (lexY (s.data.toList.drop i))) := by
  have HB := Lib.hid h
  have HT := Lib.hid ht
  have HG := Lib.hid (G.refl w)
  have q0 := hE.2.2.2 0 _ rfl
  have q1 := hE.2.2.2 1 _ rfl
  have q2 := hE.2.2.2 2 _ rfl
  have q3 := hE.2.2.2 3 _ rfl
  have q4 := hE.2.2.2 4 _ rfl
  clear h ht hE
  have hi1 : (i : Int) ≤ (s.size : Int) := by omega
  have hi3 : (i : Int) < (s.size : Int) := by omega
  have HP0 := Lib.hid (fun wx => Tryz.strings_HasPrefix (s.extract i s.size) ⟨#[45, 62]⟩ wx)
  rw [drop_ext, show (⟨#[45, 62]⟩ : ByteArray).data.toList = [45, 62] from rfl] at HP0
  have HP1 := Lib.hid (fun wx => Tryz.strings_HasPrefix (s.extract i s.size) ⟨#[33, 61]⟩ wx)
  rw [drop_ext, show (⟨#[33, 61]⟩ : ByteArray).data.toList = [33, 61] from rfl] at HP1
  have HP2 := Lib.hid (fun wx => Tryz.strings_HasPrefix (s.extract i s.size) ⟨#[60, 61]⟩ wx)
  rw [drop_ext, show (⟨#[60, 61]⟩ : ByteArray).data.toList = [60, 61] from rfl] at HP2
  have HP3 := Lib.hid (fun wx => Tryz.strings_HasPrefix (s.extract i s.size) ⟨#[62, 61]⟩ wx)
  rw [drop_ext, show (⟨#[62, 61]⟩ : ByteArray).data.toList = [62, 61] from rfl] at HP3
  have HP4 := Lib.hid (fun wx => Tryz.strings_HasPrefix (s.extract i s.size) ⟨#[46, 46]⟩ wx)
  rw [drop_ext, show (⟨#[46, 46]⟩ : ByteArray).data.toList = [46, 46] from rfl] at HP4
  have hI0 : ∀ (wx : World), (Instr.index 92 (.agg #[.string ⟨#[45, 62]⟩, .string ⟨#[33, 61]⟩, .string ⟨#[60, 61]⟩, .string ⟨#[62, 61]⟩, .string ⟨#[46, 46]⟩]) (.int .i64 0)).run Tryz.prog wx = .ok (.string ⟨#[45, 62]⟩) wx := fun wx => by kernel_rfl
  have hI1 : ∀ (wx : World), (Instr.index 92 (.agg #[.string ⟨#[45, 62]⟩, .string ⟨#[33, 61]⟩, .string ⟨#[60, 61]⟩, .string ⟨#[62, 61]⟩, .string ⟨#[46, 46]⟩]) (.int .i64 1)).run Tryz.prog wx = .ok (.string ⟨#[33, 61]⟩) wx := fun wx => by kernel_rfl
  have hI2 : ∀ (wx : World), (Instr.index 92 (.agg #[.string ⟨#[45, 62]⟩, .string ⟨#[33, 61]⟩, .string ⟨#[60, 61]⟩, .string ⟨#[62, 61]⟩, .string ⟨#[46, 46]⟩]) (.int .i64 2)).run Tryz.prog wx = .ok (.string ⟨#[60, 61]⟩) wx := fun wx => by kernel_rfl
  have hI3 : ∀ (wx : World), (Instr.index 92 (.agg #[.string ⟨#[45, 62]⟩, .string ⟨#[33, 61]⟩, .string ⟨#[60, 61]⟩, .string ⟨#[62, 61]⟩, .string ⟨#[46, 46]⟩]) (.int .i64 3)).run Tryz.prog wx = .ok (.string ⟨#[62, 61]⟩) wx := fun wx => by kernel_rfl
  have hI4 : ∀ (wx : World), (Instr.index 92 (.agg #[.string ⟨#[45, 62]⟩, .string ⟨#[33, 61]⟩, .string ⟨#[60, 61]⟩, .string ⟨#[62, 61]⟩, .string ⟨#[46, 46]⟩]) (.int .i64 4)).run Tryz.prog wx = .ok (.string ⟨#[46, 46]⟩) wx := fun wx => by kernel_rfl
  have hlx := lexY.eq_1 (s.data.toList.drop i)
  rw [nth_drop0, nth_idx s hi] at hlx
  have hp0 := pre2 (s.data.toList.drop i) 45 62
  have hp1 := pre2 (s.data.toList.drop i) 33 61
  have hp2 := pre2 (s.data.toList.drop i) 60 61
  have hp3 := pre2 (s.data.toList.drop i) 62 61
  have hp4 := pre2 (s.data.toList.drop i) 46 46
  obtain ⟨v0, hv0⟩ : ∃ v, Lib.hasPrefix (s.data.toList.drop i) [45, 62] = v := ⟨_, rfl⟩
  rw [hv0] at HP0 hp0
  obtain ⟨v1, hv1⟩ : ∃ v, Lib.hasPrefix (s.data.toList.drop i) [33, 61] = v := ⟨_, rfl⟩
  rw [hv1] at HP1 hp1
  obtain ⟨v2, hv2⟩ : ∃ v, Lib.hasPrefix (s.data.toList.drop i) [60, 61] = v := ⟨_, rfl⟩
  rw [hv2] at HP2 hp2
  obtain ⟨v3, hv3⟩ : ∃ v, Lib.hasPrefix (s.data.toList.drop i) [62, 61] = v := ⟨_, rfl⟩
  rw [hv3] at HP3 hp3
  obtain ⟨v4, hv4⟩ : ∃ v, Lib.hasPrefix (s.data.toList.drop i) [46, 46] = v := ⟨_, rfl⟩
  rw [hv4] at HP4 hp4
  have hmem : (s.data.toList.drop i).take 2 ∈ pairsL ↔ (v0 = true ∨ v1 = true ∨ v2 = true ∨ v3 = true ∨ v4 = true) := by
    unfold pairsL
    simp only [List.mem_cons, List.not_mem_nil, or_false, ← hp0, ← hp1, ← hp2, ← hp3, ← hp4]
  have hex : ((s.data.toList.drop i).take 2).length = 2 → i + 2 ≤ s.size := fun h => by
    rw [List.length_take, List.length_drop, show s.data.toList.length = s.size from rfl] at h
    omega
  obtain ⟨c, hc⟩ : ∃ c, s[i] = c := ⟨_, rfl⟩
  rw [hc] at hlx
  obtain ⟨q, hq⟩ : ∃ q, s.data.toList.drop i = q := ⟨_, rfl⟩
  have ht1 := ext_take s i 1
  rw [hq] at hlx hmem hex hp0 hp1 hp2 hp3 hp4 ht1 ⊢
  have hx2 : IntKind.i64.wrap ((i : Int) + 2) = ((i + 2 : Nat) : Int) := by rw [IntWalk.i64_in _ (by omega)]; simp
  have hx1 : IntKind.i64.wrap ((i : Int) + 1) = ((i + 1 : Nat) : Int) := by rw [IntWalk.i64_in _ (by omega)]; simp
  replace hlx := Lib.hid hlx
  replace hmem := Lib.hid hmem
  replace hq := Lib.hid hq
  replace hp0 := Lib.hid hp0
  replace hp1 := Lib.hid hp1
  replace hp2 := Lib.hid hp2
  replace hp3 := Lib.hid hp3
  replace hp4 := Lib.hid hp4
  replace ht1 := Lib.hid ht1
  clear hv0 hv1 hv2 hv3 hv4
  have hcase : v0 = true ∨ (v0 = false ∧ v1 = true) ∨ (v0 = false ∧ v1 = false ∧ v2 = true) ∨ (v0 = false ∧ v1 = false ∧ v2 = false ∧ v3 = true) ∨ (v0 = false ∧ v1 = false ∧ v2 = false ∧ v3 = false ∧ v4 = true) ∨ (v0 = false ∧ v1 = false ∧ v2 = false ∧ v3 = false ∧ v4 = false) := by
    cases v0 <;> cases v1 <;> cases v2 <;> cases v3 <;> cases v4 <;> simp
  (obtain ⟨c0, c1, c2, c3⟩ := HB.out.c4; obtain ⟨f0, f1, f2, f3⟩ := HB.out.f4; have lt := HB.out.lt)
  rcases hcase with rfl | ⟨rfl, rfl⟩ | ⟨rfl, rfl, rfl⟩ | ⟨rfl, rfl, rfl, rfl⟩ | ⟨rfl, rfl, rfl, rfl, rfl⟩ | ⟨rfl, rfl, rfl, rfl, rfl⟩
  · go_enter Tryz.func47, Tryz.ntmps47
    go_wp2_with fail
    refine wp_loop_rounds 6 ?_
    clear q0 q1 q2 q3 q4
    rw [rounds_succ]
    go_wp2_with fail
    refine wp_region_ord [(0, 1), (1, 1), (2, 1), (3, 1), (4, 1), (5, 1), (6, 1), (7, 1), (8, 1), (9, 1), (10, 2)] [] 5 (by kernel_rfl) (by decide +kernel) ?_
    simp only [pickO, List.append_eq, List.cons_append, List.nil_append, List.getElem?_cons_succ, List.getElem?_cons_zero]
    intro w0 hG
    (repeat ((first | (with_reducible refine ord_q1 ?_) | (with_reducible refine ord_q0 ?_)); intro K hK; first | (refine Or.inr ⟨?_, ?_⟩; (focus (go_simp; first | done | (simp [undef]; done))); go_simp; (with_reducible refine hK _ ?_); clear hK K) | (refine Or.inl ⟨?_, ?_⟩; (focus (go_simp; done)); apply Exists.intro; refine And.intro ?_ ?_; (focus (first | (intro wq hq; obtain ⟨hcq, hfq⟩ := G.old hq; go_simp; (first | done | exact rfl); done) | (intro wq; go_simp; (first | done | exact rfl); done))); go_simp; (with_reducible refine hK _ ?_); clear hK K) | fail))
    (with_reducible refine ord_run ?_ hG)
    intro K hK
    go_simp
    go_at_call 82; (with_reducible refine (HP0.out _).mono ?_); rintro e1 wn ⟨rfl, rfl⟩; have hb := G.refl wn
    replace hG := Grew.trans hG hb
    (try dsimp only)
    (with_reducible refine hK _ _ hG ?_)
    clear hK K
    (repeat ((first | (with_reducible refine ord_q1 ?_) | (with_reducible refine ord_q0 ?_)); intro K hK; first | (refine Or.inr ⟨?_, ?_⟩; (focus (go_simp; first | done | (simp [undef]; done))); go_simp; (with_reducible refine hK _ ?_); clear hK K) | (refine Or.inl ⟨?_, ?_⟩; (focus (go_simp; done)); apply Exists.intro; refine And.intro ?_ ?_; (focus (first | (intro wq hq; obtain ⟨hcq, hfq⟩ := G.old hq; go_simp; (first | done | exact rfl); done) | (intro wq; go_simp; (first | done | exact rfl); done))); go_simp; (with_reducible refine hK _ ?_); clear hK K) | fail))
    (with_reducible refine ord_nil ?_)
    have hbx := hG.b
    replace HB := Lib.hid (HB.out.grow hbx)
    replace HT := Lib.hid (HT.out.grow hbx)
    replace HG := Lib.hid (G.trans HG.out hbx)
    clear hG hb hbx c0 c1 c2 c3 f0 f1 f2 f3 lt
    (obtain ⟨c0, c1, c2, c3⟩ := HB.out.c4; obtain ⟨f0, f1, f2, f3⟩ := HB.out.f4; have lt := HB.out.lt)
    have t0 := (HT.out.2 0 _ rfl).1
    have t3 := (HT.out.2 3 _ rfl).1
    have z0 := (HT.out.2 0 _ rfl).2
    have z3 := (HT.out.2 3 _ rfl).2
    have ltr := HT.out.lt
    have htk : q.take 2 = [45, 62] := hp0.out.1 (by simp)
    have hi2 : i + 2 ≤ s.size := hex (by rw [htk]; rfl)
    have hlx2 : lexY q = .ok 2 ⟨5, q.take 2, [], 0, 0⟩ := by rw [hlx.out, if_pos (hmem.out.2 (by simp))]
    go_wp2_with fail
    go_ret
    rw [hlx2]
    refine ⟨fun n t h => ?_, fun o c h => by cases h⟩
    injection h with h1 h2
    subst h1 h2
    refine ⟨rfl, ((HB.out.other (Ne.symm hbr) _).other (Ne.symm hbr) _).put (i := 1) (v := .int .i64 ((i + 2 : Nat) : Int)) rfl, ?_, (((Chg.of_below HG.out).set2 _ _).set2 _ _).set1 _ _⟩
    show Bx _ r (tkC 5 ln cl (B (q.take 2)) ⟨#[]⟩ 0 0 j)
    rw [htk]
    exact ((HT.out.put (i := 0) (v := .int .i64 5) rfl).put (i := 3) (v := .string ⟨#[45, 62]⟩) rfl).other hbr _
  · go_enter Tryz.func47, Tryz.ntmps47
    go_wp2_with fail
    refine wp_loop_rounds 6 ?_
    clear q0 q1 q2 q3 q4
    rw [rounds_succ]
    go_wp2_with fail
    refine wp_region_ord [(0, 1), (1, 1), (2, 1), (3, 1), (4, 1), (5, 1), (6, 1), (7, 1), (8, 1), (9, 1), (10, 2)] [] 5 (by kernel_rfl) (by decide +kernel) ?_
    simp only [pickO, List.append_eq, List.cons_append, List.nil_append, List.getElem?_cons_succ, List.getElem?_cons_zero]
    intro w0 hG
    (repeat ((first | (with_reducible refine ord_q1 ?_) | (with_reducible refine ord_q0 ?_)); intro K hK; first | (refine Or.inr ⟨?_, ?_⟩; (focus (go_simp; first | done | (simp [undef]; done))); go_simp; (with_reducible refine hK _ ?_); clear hK K) | (refine Or.inl ⟨?_, ?_⟩; (focus (go_simp; done)); apply Exists.intro; refine And.intro ?_ ?_; (focus (first | (intro wq hq; obtain ⟨hcq, hfq⟩ := G.old hq; go_simp; (first | done | exact rfl); done) | (intro wq; go_simp; (first | done | exact rfl); done))); go_simp; (with_reducible refine hK _ ?_); clear hK K) | fail))
    (with_reducible refine ord_run ?_ hG)
    intro K hK
    go_simp
    go_at_call 82; (with_reducible refine (HP0.out _).mono ?_); rintro e1 wn ⟨rfl, rfl⟩; have hb := G.refl wn
    replace hG := Grew.trans hG hb
    (try dsimp only)
    (with_reducible refine hK _ _ hG ?_)
    clear hK K
    (repeat ((first | (with_reducible refine ord_q1 ?_) | (with_reducible refine ord_q0 ?_)); intro K hK; first | (refine Or.inr ⟨?_, ?_⟩; (focus (go_simp; first | done | (simp [undef]; done))); go_simp; (with_reducible refine hK _ ?_); clear hK K) | (refine Or.inl ⟨?_, ?_⟩; (focus (go_simp; done)); apply Exists.intro; refine And.intro ?_ ?_; (focus (first | (intro wq hq; obtain ⟨hcq, hfq⟩ := G.old hq; go_simp; (first | done | exact rfl); done) | (intro wq; go_simp; (first | done | exact rfl); done))); go_simp; (with_reducible refine hK _ ?_); clear hK K) | fail))
    (with_reducible refine ord_nil ?_)
    have hbx := hG.b
    replace HB := Lib.hid (HB.out.grow hbx)
    replace HT := Lib.hid (HT.out.grow hbx)
    replace HG := Lib.hid (G.trans HG.out hbx)
    clear hG hb hbx c0 c1 c2 c3 f0 f1 f2 f3 lt
    (obtain ⟨c0, c1, c2, c3⟩ := HB.out.c4; obtain ⟨f0, f1, f2, f3⟩ := HB.out.f4; have lt := HB.out.lt)
    go_wp2_with fail
    rw [rounds_succ]
    go_wp2_with fail
    refine wp_region_ord [(0, 1), (1, 1), (2, 1), (3, 1), (4, 1), (5, 1), (6, 1), (7, 1), (8, 1), (9, 1), (10, 2)] [] 5 (by kernel_rfl) (by decide +kernel) ?_
    simp only [pickO, List.append_eq, List.cons_append, List.nil_append, List.getElem?_cons_succ, List.getElem?_cons_zero]
    intro w0 hG
    (repeat ((first | (with_reducible refine ord_q1 ?_) | (with_reducible refine ord_q0 ?_)); intro K hK; first | (refine Or.inr ⟨?_, ?_⟩; (focus (go_simp; first | done | (simp [undef]; done))); go_simp; (with_reducible refine hK _ ?_); clear hK K) | (refine Or.inl ⟨?_, ?_⟩; (focus (go_simp; done)); apply Exists.intro; refine And.intro ?_ ?_; (focus (first | (intro wq hq; obtain ⟨hcq, hfq⟩ := G.old hq; go_simp; (first | done | exact rfl); done) | (intro wq; go_simp; (first | done | exact rfl); done))); go_simp; (with_reducible refine hK _ ?_); clear hK K) | fail))
    (with_reducible refine ord_run ?_ hG)
    intro K hK
    go_simp
    go_at_call 82; (with_reducible refine (HP1.out _).mono ?_); rintro e1 wn ⟨rfl, rfl⟩; have hb := G.refl wn
    replace hG := Grew.trans hG hb
    (try dsimp only)
    (with_reducible refine hK _ _ hG ?_)
    clear hK K
    (repeat ((first | (with_reducible refine ord_q1 ?_) | (with_reducible refine ord_q0 ?_)); intro K hK; first | (refine Or.inr ⟨?_, ?_⟩; (focus (go_simp; first | done | (simp [undef]; done))); go_simp; (with_reducible refine hK _ ?_); clear hK K) | (refine Or.inl ⟨?_, ?_⟩; (focus (go_simp; done)); apply Exists.intro; refine And.intro ?_ ?_; (focus (first | (intro wq hq; obtain ⟨hcq, hfq⟩ := G.old hq; go_simp; (first | done | exact rfl); done) | (intro wq; go_simp; (first | done | exact rfl); done))); go_simp; (with_reducible refine hK _ ?_); clear hK K) | fail))
    (with_reducible refine ord_nil ?_)
    have hbx := hG.b
    replace HB := Lib.hid (HB.out.grow hbx)
    replace HT := Lib.hid (HT.out.grow hbx)
    replace HG := Lib.hid (G.trans HG.out hbx)
    clear hG hb hbx c0 c1 c2 c3 f0 f1 f2 f3 lt
    (obtain ⟨c0, c1, c2, c3⟩ := HB.out.c4; obtain ⟨f0, f1, f2, f3⟩ := HB.out.f4; have lt := HB.out.lt)
    have t0 := (HT.out.2 0 _ rfl).1
    have t3 := (HT.out.2 3 _ rfl).1
    have z0 := (HT.out.2 0 _ rfl).2
    have z3 := (HT.out.2 3 _ rfl).2
    have ltr := HT.out.lt
    have htk : q.take 2 = [33, 61] := hp1.out.1 (by simp)
    have hi2 : i + 2 ≤ s.size := hex (by rw [htk]; rfl)
    have hlx2 : lexY q = .ok 2 ⟨5, q.take 2, [], 0, 0⟩ := by rw [hlx.out, if_pos (hmem.out.2 (by simp))]
    go_wp2_with fail
    go_ret
    rw [hlx2]
    refine ⟨fun n t h => ?_, fun o c h => by cases h⟩
    injection h with h1 h2
    subst h1 h2
    refine ⟨rfl, ((HB.out.other (Ne.symm hbr) _).other (Ne.symm hbr) _).put (i := 1) (v := .int .i64 ((i + 2 : Nat) : Int)) rfl, ?_, (((Chg.of_below HG.out).set2 _ _).set2 _ _).set1 _ _⟩
    show Bx _ r (tkC 5 ln cl (B (q.take 2)) ⟨#[]⟩ 0 0 j)
    rw [htk]
    exact ((HT.out.put (i := 0) (v := .int .i64 5) rfl).put (i := 3) (v := .string ⟨#[33, 61]⟩) rfl).other hbr _
  · go_enter Tryz.func47, Tryz.ntmps47
    go_wp2_with fail
    refine wp_loop_rounds 6 ?_
    clear q0 q1 q2 q3 q4
    rw [rounds_succ]
    go_wp2_with fail
    refine wp_region_ord [(0, 1), (1, 1), (2, 1), (3, 1), (4, 1), (5, 1), (6, 1), (7, 1), (8, 1), (9, 1), (10, 2)] [] 5 (by kernel_rfl) (by decide +kernel) ?_
    simp only [pickO, List.append_eq, List.cons_append, List.nil_append, List.getElem?_cons_succ, List.getElem?_cons_zero]
    intro w0 hG
    (repeat ((first | (with_reducible refine ord_q1 ?_) | (with_reducible refine ord_q0 ?_)); intro K hK; first | (refine Or.inr ⟨?_, ?_⟩; (focus (go_simp; first | done | (simp [undef]; done))); go_simp; (with_reducible refine hK _ ?_); clear hK K) | (refine Or.inl ⟨?_, ?_⟩; (focus (go_simp; done)); apply Exists.intro; refine And.intro ?_ ?_; (focus (first | (intro wq hq; obtain ⟨hcq, hfq⟩ := G.old hq; go_simp; (first | done | exact rfl); done) | (intro wq; go_simp; (first | done | exact rfl); done))); go_simp; (with_reducible refine hK _ ?_); clear hK K) | fail))
    (with_reducible refine ord_run ?_ hG)
    intro K hK
    go_simp
    go_at_call 82; (with_reducible refine (HP0.out _).mono ?_); rintro e1 wn ⟨rfl, rfl⟩; have hb := G.refl wn
    replace hG := Grew.trans hG hb
    (try dsimp only)
    (with_reducible refine hK _ _ hG ?_)
    clear hK K
    (repeat ((first | (with_reducible refine ord_q1 ?_) | (with_reducible refine ord_q0 ?_)); intro K hK; first | (refine Or.inr ⟨?_, ?_⟩; (focus (go_simp; first | done | (simp [undef]; done))); go_simp; (with_reducible refine hK _ ?_); clear hK K) | (refine Or.inl ⟨?_, ?_⟩; (focus (go_simp; done)); apply Exists.intro; refine And.intro ?_ ?_; (focus (first | (intro wq hq; obtain ⟨hcq, hfq⟩ := G.old hq; go_simp; (first | done | exact rfl); done) | (intro wq; go_simp; (first | done | exact rfl); done))); go_simp; (with_reducible refine hK _ ?_); clear hK K) | fail))
    (with_reducible refine ord_nil ?_)
    have hbx := hG.b
    replace HB := Lib.hid (HB.out.grow hbx)
    replace HT := Lib.hid (HT.out.grow hbx)
    replace HG := Lib.hid (G.trans HG.out hbx)
    clear hG hb hbx c0 c1 c2 c3 f0 f1 f2 f3 lt
    (obtain ⟨c0, c1, c2, c3⟩ := HB.out.c4; obtain ⟨f0, f1, f2, f3⟩ := HB.out.f4; have lt := HB.out.lt)
    go_wp2_with fail
    rw [rounds_succ]
    go_wp2_with fail
    refine wp_region_ord [(0, 1), (1, 1), (2, 1), (3, 1), (4, 1), (5, 1), (6, 1), (7, 1), (8, 1), (9, 1), (10, 2)] [] 5 (by kernel_rfl) (by decide +kernel) ?_
    simp only [pickO, List.append_eq, List.cons_append, List.nil_append, List.getElem?_cons_succ, List.getElem?_cons_zero]
    intro w0 hG
    (repeat ((first | (with_reducible refine ord_q1 ?_) | (with_reducible refine ord_q0 ?_)); intro K hK; first | (refine Or.inr ⟨?_, ?_⟩; (focus (go_simp; first | done | (simp [undef]; done))); go_simp; (with_reducible refine hK _ ?_); clear hK K) | (refine Or.inl ⟨?_, ?_⟩; (focus (go_simp; done)); apply Exists.intro; refine And.intro ?_ ?_; (focus (first | (intro wq hq; obtain ⟨hcq, hfq⟩ := G.old hq; go_simp; (first | done | exact rfl); done) | (intro wq; go_simp; (first | done | exact rfl); done))); go_simp; (with_reducible refine hK _ ?_); clear hK K) | fail))
    (with_reducible refine ord_run ?_ hG)
    intro K hK
    go_simp
    go_at_call 82; (with_reducible refine (HP1.out _).mono ?_); rintro e1 wn ⟨rfl, rfl⟩; have hb := G.refl wn
    replace hG := Grew.trans hG hb
    (try dsimp only)
    (with_reducible refine hK _ _ hG ?_)
    clear hK K
    (repeat ((first | (with_reducible refine ord_q1 ?_) | (with_reducible refine ord_q0 ?_)); intro K hK; first | (refine Or.inr ⟨?_, ?_⟩; (focus (go_simp; first | done | (simp [undef]; done))); go_simp; (with_reducible refine hK _ ?_); clear hK K) | (refine Or.inl ⟨?_, ?_⟩; (focus (go_simp; done)); apply Exists.intro; refine And.intro ?_ ?_; (focus (first | (intro wq hq; obtain ⟨hcq, hfq⟩ := G.old hq; go_simp; (first | done | exact rfl); done) | (intro wq; go_simp; (first | done | exact rfl); done))); go_simp; (with_reducible refine hK _ ?_); clear hK K) | fail))
    (with_reducible refine ord_nil ?_)
    have hbx := hG.b
    replace HB := Lib.hid (HB.out.grow hbx)
    replace HT := Lib.hid (HT.out.grow hbx)
    replace HG := Lib.hid (G.trans HG.out hbx)
    clear hG hb hbx c0 c1 c2 c3 f0 f1 f2 f3 lt
    (obtain ⟨c0, c1, c2, c3⟩ := HB.out.c4; obtain ⟨f0, f1, f2, f3⟩ := HB.out.f4; have lt := HB.out.lt)
    go_wp2_with fail
    rw [rounds_succ]
    go_wp2_with fail
    refine wp_region_ord [(0, 1), (1, 1), (2, 1), (3, 1), (4, 1), (5, 1), (6, 1), (7, 1), (8, 1), (9, 1), (10, 2)] [] 5 (by kernel_rfl) (by decide +kernel) ?_
    simp only [pickO, List.append_eq, List.cons_append, List.nil_append, List.getElem?_cons_succ, List.getElem?_cons_zero]
    intro w0 hG
    (repeat ((first | (with_reducible refine ord_q1 ?_) | (with_reducible refine ord_q0 ?_)); intro K hK; first | (refine Or.inr ⟨?_, ?_⟩; (focus (go_simp; first | done | (simp [undef]; done))); go_simp; (with_reducible refine hK _ ?_); clear hK K) | (refine Or.inl ⟨?_, ?_⟩; (focus (go_simp; done)); apply Exists.intro; refine And.intro ?_ ?_; (focus (first | (intro wq hq; obtain ⟨hcq, hfq⟩ := G.old hq; go_simp; (first | done | exact rfl); done) | (intro wq; go_simp; (first | done | exact rfl); done))); go_simp; (with_reducible refine hK _ ?_); clear hK K) | fail))
    (with_reducible refine ord_run ?_ hG)
    intro K hK
    go_simp
    go_at_call 82; (with_reducible refine (HP2.out _).mono ?_); rintro e1 wn ⟨rfl, rfl⟩; have hb := G.refl wn
    replace hG := Grew.trans hG hb
    (try dsimp only)
    (with_reducible refine hK _ _ hG ?_)
    clear hK K
    (repeat ((first | (with_reducible refine ord_q1 ?_) | (with_reducible refine ord_q0 ?_)); intro K hK; first | (refine Or.inr ⟨?_, ?_⟩; (focus (go_simp; first | done | (simp [undef]; done))); go_simp; (with_reducible refine hK _ ?_); clear hK K) | (refine Or.inl ⟨?_, ?_⟩; (focus (go_simp; done)); apply Exists.intro; refine And.intro ?_ ?_; (focus (first | (intro wq hq; obtain ⟨hcq, hfq⟩ := G.old hq; go_simp; (first | done | exact rfl); done) | (intro wq; go_simp; (first | done | exact rfl); done))); go_simp; (with_reducible refine hK _ ?_); clear hK K) | fail))
    (with_reducible refine ord_nil ?_)
    have hbx := hG.b
    replace HB := Lib.hid (HB.out.grow hbx)
    replace HT := Lib.hid (HT.out.grow hbx)
    replace HG := Lib.hid (G.trans HG.out hbx)
    clear hG hb hbx c0 c1 c2 c3 f0 f1 f2 f3 lt
    (obtain ⟨c0, c1, c2, c3⟩ := HB.out.c4; obtain ⟨f0, f1, f2, f3⟩ := HB.out.f4; have lt := HB.out.lt)
    have t0 := (HT.out.2 0 _ rfl).1
    have t3 := (HT.out.2 3 _ rfl).1
    have z0 := (HT.out.2 0 _ rfl).2
    have z3 := (HT.out.2 3 _ rfl).2
    have ltr := HT.out.lt
    have htk : q.take 2 = [60, 61] := hp2.out.1 (by simp)
    have hi2 : i + 2 ≤ s.size := hex (by rw [htk]; rfl)
    have hlx2 : lexY q = .ok 2 ⟨5, q.take 2, [], 0, 0⟩ := by rw [hlx.out, if_pos (hmem.out.2 (by simp))]
    go_wp2_with fail
    go_ret
    rw [hlx2]
    refine ⟨fun n t h => ?_, fun o c h => by cases h⟩
    injection h with h1 h2
    subst h1 h2
    refine ⟨rfl, ((HB.out.other (Ne.symm hbr) _).other (Ne.symm hbr) _).put (i := 1) (v := .int .i64 ((i + 2 : Nat) : Int)) rfl, ?_, (((Chg.of_below HG.out).set2 _ _).set2 _ _).set1 _ _⟩
    show Bx _ r (tkC 5 ln cl (B (q.take 2)) ⟨#[]⟩ 0 0 j)
    rw [htk]
    exact ((HT.out.put (i := 0) (v := .int .i64 5) rfl).put (i := 3) (v := .string ⟨#[60, 61]⟩) rfl).other hbr _
  · go_enter Tryz.func47, Tryz.ntmps47
    go_wp2_with fail
    refine wp_loop_rounds 6 ?_
    clear q0 q1 q2 q3 q4
    rw [rounds_succ]
    go_wp2_with fail
    refine wp_region_ord [(0, 1), (1, 1), (2, 1), (3, 1), (4, 1), (5, 1), (6, 1), (7, 1), (8, 1), (9, 1), (10, 2)] [] 5 (by kernel_rfl) (by decide +kernel) ?_
    simp only [pickO, List.append_eq, List.cons_append, List.nil_append, List.getElem?_cons_succ, List.getElem?_cons_zero]
    intro w0 hG
    (repeat ((first | (with_reducible refine ord_q1 ?_) | (with_reducible refine ord_q0 ?_)); intro K hK; first | (refine Or.inr ⟨?_, ?_⟩; (focus (go_simp; first | done | (simp [undef]; done))); go_simp; (with_reducible refine hK _ ?_); clear hK K) | (refine Or.inl ⟨?_, ?_⟩; (focus (go_simp; done)); apply Exists.intro; refine And.intro ?_ ?_; (focus (first | (intro wq hq; obtain ⟨hcq, hfq⟩ := G.old hq; go_simp; (first | done | exact rfl); done) | (intro wq; go_simp; (first | done | exact rfl); done))); go_simp; (with_reducible refine hK _ ?_); clear hK K) | fail))
    (with_reducible refine ord_run ?_ hG)
    intro K hK
    go_simp
    go_at_call 82; (with_reducible refine (HP0.out _).mono ?_); rintro e1 wn ⟨rfl, rfl⟩; have hb := G.refl wn
    replace hG := Grew.trans hG hb
    (try dsimp only)
    (with_reducible refine hK _ _ hG ?_)
    clear hK K
    (repeat ((first | (with_reducible refine ord_q1 ?_) | (with_reducible refine ord_q0 ?_)); intro K hK; first | (refine Or.inr ⟨?_, ?_⟩; (focus (go_simp; first | done | (simp [undef]; done))); go_simp; (with_reducible refine hK _ ?_); clear hK K) | (refine Or.inl ⟨?_, ?_⟩; (focus (go_simp; done)); apply Exists.intro; refine And.intro ?_ ?_; (focus (first | (intro wq hq; obtain ⟨hcq, hfq⟩ := G.old hq; go_simp; (first | done | exact rfl); done) | (intro wq; go_simp; (first | done | exact rfl); done))); go_simp; (with_reducible refine hK _ ?_); clear hK K) | fail))
    (with_reducible refine ord_nil ?_)
    have hbx := hG.b
    replace HB := Lib.hid (HB.out.grow hbx)
    replace HT := Lib.hid (HT.out.grow hbx)
    replace HG := Lib.hid (G.trans HG.out hbx)
    clear hG hb hbx c0 c1 c2 c3 f0 f1 f2 f3 lt
    (obtain ⟨c0, c1, c2, c3⟩ := HB.out.c4; obtain ⟨f0, f1, f2, f3⟩ := HB.out.f4; have lt := HB.out.lt)
    go_wp2_with fail
    rw [rounds_succ]
    go_wp2_with fail
    refine wp_region_ord [(0, 1), (1, 1), (2, 1), (3, 1), (4, 1), (5, 1), (6, 1), (7, 1), (8, 1), (9, 1), (10, 2)] [] 5 (by kernel_rfl) (by decide +kernel) ?_
    simp only [pickO, List.append_eq, List.cons_append, List.nil_append, List.getElem?_cons_succ, List.getElem?_cons_zero]
    intro w0 hG
    (repeat ((first | (with_reducible refine ord_q1 ?_) | (with_reducible refine ord_q0 ?_)); intro K hK; first | (refine Or.inr ⟨?_, ?_⟩; (focus (go_simp; first | done | (simp [undef]; done))); go_simp; (with_reducible refine hK _ ?_); clear hK K) | (refine Or.inl ⟨?_, ?_⟩; (focus (go_simp; done)); apply Exists.intro; refine And.intro ?_ ?_; (focus (first | (intro wq hq; obtain ⟨hcq, hfq⟩ := G.old hq; go_simp; (first | done | exact rfl); done) | (intro wq; go_simp; (first | done | exact rfl); done))); go_simp; (with_reducible refine hK _ ?_); clear hK K) | fail))
    (with_reducible refine ord_run ?_ hG)
    intro K hK
    go_simp
    go_at_call 82; (with_reducible refine (HP1.out _).mono ?_); rintro e1 wn ⟨rfl, rfl⟩; have hb := G.refl wn
    replace hG := Grew.trans hG hb
    (try dsimp only)
    (with_reducible refine hK _ _ hG ?_)
    clear hK K
    (repeat ((first | (with_reducible refine ord_q1 ?_) | (with_reducible refine ord_q0 ?_)); intro K hK; first | (refine Or.inr ⟨?_, ?_⟩; (focus (go_simp; first | done | (simp [undef]; done))); go_simp; (with_reducible refine hK _ ?_); clear hK K) | (refine Or.inl ⟨?_, ?_⟩; (focus (go_simp; done)); apply Exists.intro; refine And.intro ?_ ?_; (focus (first | (intro wq hq; obtain ⟨hcq, hfq⟩ := G.old hq; go_simp; (first | done | exact rfl); done) | (intro wq; go_simp; (first | done | exact rfl); done))); go_simp; (with_reducible refine hK _ ?_); clear hK K) | fail))
    (with_reducible refine ord_nil ?_)
    have hbx := hG.b
    replace HB := Lib.hid (HB.out.grow hbx)
    replace HT := Lib.hid (HT.out.grow hbx)
    replace HG := Lib.hid (G.trans HG.out hbx)
    clear hG hb hbx c0 c1 c2 c3 f0 f1 f2 f3 lt
    (obtain ⟨c0, c1, c2, c3⟩ := HB.out.c4; obtain ⟨f0, f1, f2, f3⟩ := HB.out.f4; have lt := HB.out.lt)
    go_wp2_with fail
    rw [rounds_succ]
    go_wp2_with fail
    refine wp_region_ord [(0, 1), (1, 1), (2, 1), (3, 1), (4, 1), (5, 1), (6, 1), (7, 1), (8, 1), (9, 1), (10, 2)] [] 5 (by kernel_rfl) (by decide +kernel) ?_
    simp only [pickO, List.append_eq, List.cons_append, List.nil_append, List.getElem?_cons_succ, List.getElem?_cons_zero]
    intro w0 hG
    (repeat ((first | (with_reducible refine ord_q1 ?_) | (with_reducible refine ord_q0 ?_)); intro K hK; first | (refine Or.inr ⟨?_, ?_⟩; (focus (go_simp; first | done | (simp [undef]; done))); go_simp; (with_reducible refine hK _ ?_); clear hK K) | (refine Or.inl ⟨?_, ?_⟩; (focus (go_simp; done)); apply Exists.intro; refine And.intro ?_ ?_; (focus (first | (intro wq hq; obtain ⟨hcq, hfq⟩ := G.old hq; go_simp; (first | done | exact rfl); done) | (intro wq; go_simp; (first | done | exact rfl); done))); go_simp; (with_reducible refine hK _ ?_); clear hK K) | fail))
    (with_reducible refine ord_run ?_ hG)
    intro K hK
    go_simp
    go_at_call 82; (with_reducible refine (HP2.out _).mono ?_); rintro e1 wn ⟨rfl, rfl⟩; have hb := G.refl wn
    replace hG := Grew.trans hG hb
    (try dsimp only)
    (with_reducible refine hK _ _ hG ?_)
    clear hK K
    (repeat ((first | (with_reducible refine ord_q1 ?_) | (with_reducible refine ord_q0 ?_)); intro K hK; first | (refine Or.inr ⟨?_, ?_⟩; (focus (go_simp; first | done | (simp [undef]; done))); go_simp; (with_reducible refine hK _ ?_); clear hK K) | (refine Or.inl ⟨?_, ?_⟩; (focus (go_simp; done)); apply Exists.intro; refine And.intro ?_ ?_; (focus (first | (intro wq hq; obtain ⟨hcq, hfq⟩ := G.old hq; go_simp; (first | done | exact rfl); done) | (intro wq; go_simp; (first | done | exact rfl); done))); go_simp; (with_reducible refine hK _ ?_); clear hK K) | fail))
    (with_reducible refine ord_nil ?_)
    have hbx := hG.b
    replace HB := Lib.hid (HB.out.grow hbx)
    replace HT := Lib.hid (HT.out.grow hbx)
    replace HG := Lib.hid (G.trans HG.out hbx)
    clear hG hb hbx c0 c1 c2 c3 f0 f1 f2 f3 lt
    (obtain ⟨c0, c1, c2, c3⟩ := HB.out.c4; obtain ⟨f0, f1, f2, f3⟩ := HB.out.f4; have lt := HB.out.lt)
    go_wp2_with fail
    rw [rounds_succ]
    go_wp2_with fail
    refine wp_region_ord [(0, 1), (1, 1), (2, 1), (3, 1), (4, 1), (5, 1), (6, 1), (7, 1), (8, 1), (9, 1), (10, 2)] [] 5 (by kernel_rfl) (by decide +kernel) ?_
    simp only [pickO, List.append_eq, List.cons_append, List.nil_append, List.getElem?_cons_succ, List.getElem?_cons_zero]
    intro w0 hG
    (repeat ((first | (with_reducible refine ord_q1 ?_) | (with_reducible refine ord_q0 ?_)); intro K hK; first | (refine Or.inr ⟨?_, ?_⟩; (focus (go_simp; first | done | (simp [undef]; done))); go_simp; (with_reducible refine hK _ ?_); clear hK K) | (refine Or.inl ⟨?_, ?_⟩; (focus (go_simp; done)); apply Exists.intro; refine And.intro ?_ ?_; (focus (first | (intro wq hq; obtain ⟨hcq, hfq⟩ := G.old hq; go_simp; (first | done | exact rfl); done) | (intro wq; go_simp; (first | done | exact rfl); done))); go_simp; (with_reducible refine hK _ ?_); clear hK K) | fail))
    (with_reducible refine ord_run ?_ hG)
    intro K hK
    go_simp
    go_at_call 82; (with_reducible refine (HP3.out _).mono ?_); rintro e1 wn ⟨rfl, rfl⟩; have hb := G.refl wn
    replace hG := Grew.trans hG hb
    (try dsimp only)
    (with_reducible refine hK _ _ hG ?_)
    clear hK K
    (repeat ((first | (with_reducible refine ord_q1 ?_) | (with_reducible refine ord_q0 ?_)); intro K hK; first | (refine Or.inr ⟨?_, ?_⟩; (focus (go_simp; first | done | (simp [undef]; done))); go_simp; (with_reducible refine hK _ ?_); clear hK K) | (refine Or.inl ⟨?_, ?_⟩; (focus (go_simp; done)); apply Exists.intro; refine And.intro ?_ ?_; (focus (first | (intro wq hq; obtain ⟨hcq, hfq⟩ := G.old hq; go_simp; (first | done | exact rfl); done) | (intro wq; go_simp; (first | done | exact rfl); done))); go_simp; (with_reducible refine hK _ ?_); clear hK K) | fail))
    (with_reducible refine ord_nil ?_)
    have hbx := hG.b
    replace HB := Lib.hid (HB.out.grow hbx)
    replace HT := Lib.hid (HT.out.grow hbx)
    replace HG := Lib.hid (G.trans HG.out hbx)
    clear hG hb hbx c0 c1 c2 c3 f0 f1 f2 f3 lt
    (obtain ⟨c0, c1, c2, c3⟩ := HB.out.c4; obtain ⟨f0, f1, f2, f3⟩ := HB.out.f4; have lt := HB.out.lt)
    have t0 := (HT.out.2 0 _ rfl).1
    have t3 := (HT.out.2 3 _ rfl).1
    have z0 := (HT.out.2 0 _ rfl).2
    have z3 := (HT.out.2 3 _ rfl).2
    have ltr := HT.out.lt
    have htk : q.take 2 = [62, 61] := hp3.out.1 (by simp)
    have hi2 : i + 2 ≤ s.size := hex (by rw [htk]; rfl)
    have hlx2 : lexY q = .ok 2 ⟨5, q.take 2, [], 0, 0⟩ := by rw [hlx.out, if_pos (hmem.out.2 (by simp))]
    go_wp2_with fail
    go_ret
    rw [hlx2]
    refine ⟨fun n t h => ?_, fun o c h => by cases h⟩
    injection h with h1 h2
    subst h1 h2
    refine ⟨rfl, ((HB.out.other (Ne.symm hbr) _).other (Ne.symm hbr) _).put (i := 1) (v := .int .i64 ((i + 2 : Nat) : Int)) rfl, ?_, (((Chg.of_below HG.out).set2 _ _).set2 _ _).set1 _ _⟩
    show Bx _ r (tkC 5 ln cl (B (q.take 2)) ⟨#[]⟩ 0 0 j)
    rw [htk]
    exact ((HT.out.put (i := 0) (v := .int .i64 5) rfl).put (i := 3) (v := .string ⟨#[62, 61]⟩) rfl).other hbr _
  · go_enter Tryz.func47, Tryz.ntmps47
    go_wp2_with fail
    refine wp_loop_rounds 6 ?_
    clear q0 q1 q2 q3 q4
    rw [rounds_succ]
    go_wp2_with fail
    refine wp_region_ord [(0, 1), (1, 1), (2, 1), (3, 1), (4, 1), (5, 1), (6, 1), (7, 1), (8, 1), (9, 1), (10, 2)] [] 5 (by kernel_rfl) (by decide +kernel) ?_
    simp only [pickO, List.append_eq, List.cons_append, List.nil_append, List.getElem?_cons_succ, List.getElem?_cons_zero]
    intro w0 hG
    (repeat ((first | (with_reducible refine ord_q1 ?_) | (with_reducible refine ord_q0 ?_)); intro K hK; first | (refine Or.inr ⟨?_, ?_⟩; (focus (go_simp; first | done | (simp [undef]; done))); go_simp; (with_reducible refine hK _ ?_); clear hK K) | (refine Or.inl ⟨?_, ?_⟩; (focus (go_simp; done)); apply Exists.intro; refine And.intro ?_ ?_; (focus (first | (intro wq hq; obtain ⟨hcq, hfq⟩ := G.old hq; go_simp; (first | done | exact rfl); done) | (intro wq; go_simp; (first | done | exact rfl); done))); go_simp; (with_reducible refine hK _ ?_); clear hK K) | fail))
    (with_reducible refine ord_run ?_ hG)
    intro K hK
    go_simp
    go_at_call 82; (with_reducible refine (HP0.out _).mono ?_); rintro e1 wn ⟨rfl, rfl⟩; have hb := G.refl wn
    replace hG := Grew.trans hG hb
    (try dsimp only)
    (with_reducible refine hK _ _ hG ?_)
    clear hK K
    (repeat ((first | (with_reducible refine ord_q1 ?_) | (with_reducible refine ord_q0 ?_)); intro K hK; first | (refine Or.inr ⟨?_, ?_⟩; (focus (go_simp; first | done | (simp [undef]; done))); go_simp; (with_reducible refine hK _ ?_); clear hK K) | (refine Or.inl ⟨?_, ?_⟩; (focus (go_simp; done)); apply Exists.intro; refine And.intro ?_ ?_; (focus (first | (intro wq hq; obtain ⟨hcq, hfq⟩ := G.old hq; go_simp; (first | done | exact rfl); done) | (intro wq; go_simp; (first | done | exact rfl); done))); go_simp; (with_reducible refine hK _ ?_); clear hK K) | fail))
    (with_reducible refine ord_nil ?_)
    have hbx := hG.b
    replace HB := Lib.hid (HB.out.grow hbx)
    replace HT := Lib.hid (HT.out.grow hbx)
    replace HG := Lib.hid (G.trans HG.out hbx)
    clear hG hb hbx c0 c1 c2 c3 f0 f1 f2 f3 lt
    (obtain ⟨c0, c1, c2, c3⟩ := HB.out.c4; obtain ⟨f0, f1, f2, f3⟩ := HB.out.f4; have lt := HB.out.lt)
    go_wp2_with fail
    rw [rounds_succ]
    go_wp2_with fail
    refine wp_region_ord [(0, 1), (1, 1), (2, 1), (3, 1), (4, 1), (5, 1), (6, 1), (7, 1), (8, 1), (9, 1), (10, 2)] [] 5 (by kernel_rfl) (by decide +kernel) ?_
    simp only [pickO, List.append_eq, List.cons_append, List.nil_append, List.getElem?_cons_succ, List.getElem?_cons_zero]
    intro w0 hG
    (repeat ((first | (with_reducible refine ord_q1 ?_) | (with_reducible refine ord_q0 ?_)); intro K hK; first | (refine Or.inr ⟨?_, ?_⟩; (focus (go_simp; first | done | (simp [undef]; done))); go_simp; (with_reducible refine hK _ ?_); clear hK K) | (refine Or.inl ⟨?_, ?_⟩; (focus (go_simp; done)); apply Exists.intro; refine And.intro ?_ ?_; (focus (first | (intro wq hq; obtain ⟨hcq, hfq⟩ := G.old hq; go_simp; (first | done | exact rfl); done) | (intro wq; go_simp; (first | done | exact rfl); done))); go_simp; (with_reducible refine hK _ ?_); clear hK K) | fail))
    (with_reducible refine ord_run ?_ hG)
    intro K hK
    go_simp
    go_at_call 82; (with_reducible refine (HP1.out _).mono ?_); rintro e1 wn ⟨rfl, rfl⟩; have hb := G.refl wn
    replace hG := Grew.trans hG hb
    (try dsimp only)
    (with_reducible refine hK _ _ hG ?_)
    clear hK K
    (repeat ((first | (with_reducible refine ord_q1 ?_) | (with_reducible refine ord_q0 ?_)); intro K hK; first | (refine Or.inr ⟨?_, ?_⟩; (focus (go_simp; first | done | (simp [undef]; done))); go_simp; (with_reducible refine hK _ ?_); clear hK K) | (refine Or.inl ⟨?_, ?_⟩; (focus (go_simp; done)); apply Exists.intro; refine And.intro ?_ ?_; (focus (first | (intro wq hq; obtain ⟨hcq, hfq⟩ := G.old hq; go_simp; (first | done | exact rfl); done) | (intro wq; go_simp; (first | done | exact rfl); done))); go_simp; (with_reducible refine hK _ ?_); clear hK K) | fail))
    (with_reducible refine ord_nil ?_)
    have hbx := hG.b
    replace HB := Lib.hid (HB.out.grow hbx)
    replace HT := Lib.hid (HT.out.grow hbx)
    replace HG := Lib.hid (G.trans HG.out hbx)
    clear hG hb hbx c0 c1 c2 c3 f0 f1 f2 f3 lt
    (obtain ⟨c0, c1, c2, c3⟩ := HB.out.c4; obtain ⟨f0, f1, f2, f3⟩ := HB.out.f4; have lt := HB.out.lt)
    go_wp2_with fail
    rw [rounds_succ]
    go_wp2_with fail
    refine wp_region_ord [(0, 1), (1, 1), (2, 1), (3, 1), (4, 1), (5, 1), (6, 1), (7, 1), (8, 1), (9, 1), (10, 2)] [] 5 (by kernel_rfl) (by decide +kernel) ?_
    simp only [pickO, List.append_eq, List.cons_append, List.nil_append, List.getElem?_cons_succ, List.getElem?_cons_zero]
    intro w0 hG
    (repeat ((first | (with_reducible refine ord_q1 ?_) | (with_reducible refine ord_q0 ?_)); intro K hK; first | (refine Or.inr ⟨?_, ?_⟩; (focus (go_simp; first | done | (simp [undef]; done))); go_simp; (with_reducible refine hK _ ?_); clear hK K) | (refine Or.inl ⟨?_, ?_⟩; (focus (go_simp; done)); apply Exists.intro; refine And.intro ?_ ?_; (focus (first | (intro wq hq; obtain ⟨hcq, hfq⟩ := G.old hq; go_simp; (first | done | exact rfl); done) | (intro wq; go_simp; (first | done | exact rfl); done))); go_simp; (with_reducible refine hK _ ?_); clear hK K) | fail))
    (with_reducible refine ord_run ?_ hG)
    intro K hK
    go_simp
    go_at_call 82; (with_reducible refine (HP2.out _).mono ?_); rintro e1 wn ⟨rfl, rfl⟩; have hb := G.refl wn
    replace hG := Grew.trans hG hb
    (try dsimp only)
    (with_reducible refine hK _ _ hG ?_)
    clear hK K
    (repeat ((first | (with_reducible refine ord_q1 ?_) | (with_reducible refine ord_q0 ?_)); intro K hK; first | (refine Or.inr ⟨?_, ?_⟩; (focus (go_simp; first | done | (simp [undef]; done))); go_simp; (with_reducible refine hK _ ?_); clear hK K) | (refine Or.inl ⟨?_, ?_⟩; (focus (go_simp; done)); apply Exists.intro; refine And.intro ?_ ?_; (focus (first | (intro wq hq; obtain ⟨hcq, hfq⟩ := G.old hq; go_simp; (first | done | exact rfl); done) | (intro wq; go_simp; (first | done | exact rfl); done))); go_simp; (with_reducible refine hK _ ?_); clear hK K) | fail))
    (with_reducible refine ord_nil ?_)
    have hbx := hG.b
    replace HB := Lib.hid (HB.out.grow hbx)
    replace HT := Lib.hid (HT.out.grow hbx)
    replace HG := Lib.hid (G.trans HG.out hbx)
    clear hG hb hbx c0 c1 c2 c3 f0 f1 f2 f3 lt
    (obtain ⟨c0, c1, c2, c3⟩ := HB.out.c4; obtain ⟨f0, f1, f2, f3⟩ := HB.out.f4; have lt := HB.out.lt)
    go_wp2_with fail
    rw [rounds_succ]
    go_wp2_with fail
    refine wp_region_ord [(0, 1), (1, 1), (2, 1), (3, 1), (4, 1), (5, 1), (6, 1), (7, 1), (8, 1), (9, 1), (10, 2)] [] 5 (by kernel_rfl) (by decide +kernel) ?_
    simp only [pickO, List.append_eq, List.cons_append, List.nil_append, List.getElem?_cons_succ, List.getElem?_cons_zero]
    intro w0 hG
    (repeat ((first | (with_reducible refine ord_q1 ?_) | (with_reducible refine ord_q0 ?_)); intro K hK; first | (refine Or.inr ⟨?_, ?_⟩; (focus (go_simp; first | done | (simp [undef]; done))); go_simp; (with_reducible refine hK _ ?_); clear hK K) | (refine Or.inl ⟨?_, ?_⟩; (focus (go_simp; done)); apply Exists.intro; refine And.intro ?_ ?_; (focus (first | (intro wq hq; obtain ⟨hcq, hfq⟩ := G.old hq; go_simp; (first | done | exact rfl); done) | (intro wq; go_simp; (first | done | exact rfl); done))); go_simp; (with_reducible refine hK _ ?_); clear hK K) | fail))
    (with_reducible refine ord_run ?_ hG)
    intro K hK
    go_simp
    go_at_call 82; (with_reducible refine (HP3.out _).mono ?_); rintro e1 wn ⟨rfl, rfl⟩; have hb := G.refl wn
    replace hG := Grew.trans hG hb
    (try dsimp only)
    (with_reducible refine hK _ _ hG ?_)
    clear hK K
    (repeat ((first | (with_reducible refine ord_q1 ?_) | (with_reducible refine ord_q0 ?_)); intro K hK; first | (refine Or.inr ⟨?_, ?_⟩; (focus (go_simp; first | done | (simp [undef]; done))); go_simp; (with_reducible refine hK _ ?_); clear hK K) | (refine Or.inl ⟨?_, ?_⟩; (focus (go_simp; done)); apply Exists.intro; refine And.intro ?_ ?_; (focus (first | (intro wq hq; obtain ⟨hcq, hfq⟩ := G.old hq; go_simp; (first | done | exact rfl); done) | (intro wq; go_simp; (first | done | exact rfl); done))); go_simp; (with_reducible refine hK _ ?_); clear hK K) | fail))
    (with_reducible refine ord_nil ?_)
    have hbx := hG.b
    replace HB := Lib.hid (HB.out.grow hbx)
    replace HT := Lib.hid (HT.out.grow hbx)
    replace HG := Lib.hid (G.trans HG.out hbx)
    clear hG hb hbx c0 c1 c2 c3 f0 f1 f2 f3 lt
    (obtain ⟨c0, c1, c2, c3⟩ := HB.out.c4; obtain ⟨f0, f1, f2, f3⟩ := HB.out.f4; have lt := HB.out.lt)
    go_wp2_with fail
    rw [rounds_succ]
    go_wp2_with fail
    refine wp_region_ord [(0, 1), (1, 1), (2, 1), (3, 1), (4, 1), (5, 1), (6, 1), (7, 1), (8, 1), (9, 1), (10, 2)] [] 5 (by kernel_rfl) (by decide +kernel) ?_
    simp only [pickO, List.append_eq, List.cons_append, List.nil_append, List.getElem?_cons_succ, List.getElem?_cons_zero]
    intro w0 hG
    (repeat ((first | (with_reducible refine ord_q1 ?_) | (with_reducible refine ord_q0 ?_)); intro K hK; first | (refine Or.inr ⟨?_, ?_⟩; (focus (go_simp; first | done | (simp [undef]; done))); go_simp; (with_reducible refine hK _ ?_); clear hK K) | (refine Or.inl ⟨?_, ?_⟩; (focus (go_simp; done)); apply Exists.intro; refine And.intro ?_ ?_; (focus (first | (intro wq hq; obtain ⟨hcq, hfq⟩ := G.old hq; go_simp; (first | done | exact rfl); done) | (intro wq; go_simp; (first | done | exact rfl); done))); go_simp; (with_reducible refine hK _ ?_); clear hK K) | fail))
    (with_reducible refine ord_run ?_ hG)
    intro K hK
    go_simp
    go_at_call 82; (with_reducible refine (HP4.out _).mono ?_); rintro e1 wn ⟨rfl, rfl⟩; have hb := G.refl wn
    replace hG := Grew.trans hG hb
    (try dsimp only)
    (with_reducible refine hK _ _ hG ?_)
    clear hK K
    (repeat ((first | (with_reducible refine ord_q1 ?_) | (with_reducible refine ord_q0 ?_)); intro K hK; first | (refine Or.inr ⟨?_, ?_⟩; (focus (go_simp; first | done | (simp [undef]; done))); go_simp; (with_reducible refine hK _ ?_); clear hK K) | (refine Or.inl ⟨?_, ?_⟩; (focus (go_simp; done)); apply Exists.intro; refine And.intro ?_ ?_; (focus (first | (intro wq hq; obtain ⟨hcq, hfq⟩ := G.old hq; go_simp; (first | done | exact rfl); done) | (intro wq; go_simp; (first | done | exact rfl); done))); go_simp; (with_reducible refine hK _ ?_); clear hK K) | fail))
    (with_reducible refine ord_nil ?_)
    have hbx := hG.b
    replace HB := Lib.hid (HB.out.grow hbx)
    replace HT := Lib.hid (HT.out.grow hbx)
    replace HG := Lib.hid (G.trans HG.out hbx)
    clear hG hb hbx c0 c1 c2 c3 f0 f1 f2 f3 lt
    (obtain ⟨c0, c1, c2, c3⟩ := HB.out.c4; obtain ⟨f0, f1, f2, f3⟩ := HB.out.f4; have lt := HB.out.lt)
    have t0 := (HT.out.2 0 _ rfl).1
    have t3 := (HT.out.2 3 _ rfl).1
    have z0 := (HT.out.2 0 _ rfl).2
    have z3 := (HT.out.2 3 _ rfl).2
    have ltr := HT.out.lt
    have htk : q.take 2 = [46, 46] := hp4.out.1 (by simp)
    have hi2 : i + 2 ≤ s.size := hex (by rw [htk]; rfl)
    have hlx2 : lexY q = .ok 2 ⟨5, q.take 2, [], 0, 0⟩ := by rw [hlx.out, if_pos (hmem.out.2 (by simp))]
    go_wp2_with fail
    go_ret
    rw [hlx2]
    refine ⟨fun n t h => ?_, fun o c h => by cases h⟩
    injection h with h1 h2
    subst h1 h2
    refine ⟨rfl, ((HB.out.other (Ne.symm hbr) _).other (Ne.symm hbr) _).put (i := 1) (v := .int .i64 ((i + 2 : Nat) : Int)) rfl, ?_, (((Chg.of_below HG.out).set2 _ _).set2 _ _).set1 _ _⟩
    show Bx _ r (tkC 5 ln cl (B (q.take 2)) ⟨#[]⟩ 0 0 j)
    rw [htk]
    exact ((HT.out.put (i := 0) (v := .int .i64 5) rfl).put (i := 3) (v := .string ⟨#[46, 46]⟩) rfl).other hbr _
  · go_enter Tryz.func47, Tryz.ntmps47
    go_wp2_with fail
    refine wp_loop_rounds 6 ?_
    clear q0 q1 q2 q3 q4
    rw [rounds_succ]
    go_wp2_with fail
    refine wp_region_ord [(0, 1), (1, 1), (2, 1), (3, 1), (4, 1), (5, 1), (6, 1), (7, 1), (8, 1), (9, 1), (10, 2)] [] 5 (by kernel_rfl) (by decide +kernel) ?_
    simp only [pickO, List.append_eq, List.cons_append, List.nil_append, List.getElem?_cons_succ, List.getElem?_cons_zero]
    intro w0 hG
    (repeat ((first | (with_reducible refine ord_q1 ?_) | (with_reducible refine ord_q0 ?_)); intro K hK; first | (refine Or.inr ⟨?_, ?_⟩; (focus (go_simp; first | done | (simp [undef]; done))); go_simp; (with_reducible refine hK _ ?_); clear hK K) | (refine Or.inl ⟨?_, ?_⟩; (focus (go_simp; done)); apply Exists.intro; refine And.intro ?_ ?_; (focus (first | (intro wq hq; obtain ⟨hcq, hfq⟩ := G.old hq; go_simp; (first | done | exact rfl); done) | (intro wq; go_simp; (first | done | exact rfl); done))); go_simp; (with_reducible refine hK _ ?_); clear hK K) | fail))
    (with_reducible refine ord_run ?_ hG)
    intro K hK
    go_simp
    go_at_call 82; (with_reducible refine (HP0.out _).mono ?_); rintro e1 wn ⟨rfl, rfl⟩; have hb := G.refl wn
    replace hG := Grew.trans hG hb
    (try dsimp only)
    (with_reducible refine hK _ _ hG ?_)
    clear hK K
    (repeat ((first | (with_reducible refine ord_q1 ?_) | (with_reducible refine ord_q0 ?_)); intro K hK; first | (refine Or.inr ⟨?_, ?_⟩; (focus (go_simp; first | done | (simp [undef]; done))); go_simp; (with_reducible refine hK _ ?_); clear hK K) | (refine Or.inl ⟨?_, ?_⟩; (focus (go_simp; done)); apply Exists.intro; refine And.intro ?_ ?_; (focus (first | (intro wq hq; obtain ⟨hcq, hfq⟩ := G.old hq; go_simp; (first | done | exact rfl); done) | (intro wq; go_simp; (first | done | exact rfl); done))); go_simp; (with_reducible refine hK _ ?_); clear hK K) | fail))
    (with_reducible refine ord_nil ?_)
    have hbx := hG.b
    replace HB := Lib.hid (HB.out.grow hbx)
    replace HT := Lib.hid (HT.out.grow hbx)
    replace HG := Lib.hid (G.trans HG.out hbx)
    clear hG hb hbx c0 c1 c2 c3 f0 f1 f2 f3 lt
    (obtain ⟨c0, c1, c2, c3⟩ := HB.out.c4; obtain ⟨f0, f1, f2, f3⟩ := HB.out.f4; have lt := HB.out.lt)
    go_wp2_with fail
    rw [rounds_succ]
    go_wp2_with fail
    refine wp_region_ord [(0, 1), (1, 1), (2, 1), (3, 1), (4, 1), (5, 1), (6, 1), (7, 1), (8, 1), (9, 1), (10, 2)] [] 5 (by kernel_rfl) (by decide +kernel) ?_
    simp only [pickO, List.append_eq, List.cons_append, List.nil_append, List.getElem?_cons_succ, List.getElem?_cons_zero]
    intro w0 hG
    (repeat ((first | (with_reducible refine ord_q1 ?_) | (with_reducible refine ord_q0 ?_)); intro K hK; first | (refine Or.inr ⟨?_, ?_⟩; (focus (go_simp; first | done | (simp [undef]; done))); go_simp; (with_reducible refine hK _ ?_); clear hK K) | (refine Or.inl ⟨?_, ?_⟩; (focus (go_simp; done)); apply Exists.intro; refine And.intro ?_ ?_; (focus (first | (intro wq hq; obtain ⟨hcq, hfq⟩ := G.old hq; go_simp; (first | done | exact rfl); done) | (intro wq; go_simp; (first | done | exact rfl); done))); go_simp; (with_reducible refine hK _ ?_); clear hK K) | fail))
    (with_reducible refine ord_run ?_ hG)
    intro K hK
    go_simp
    go_at_call 82; (with_reducible refine (HP1.out _).mono ?_); rintro e1 wn ⟨rfl, rfl⟩; have hb := G.refl wn
    replace hG := Grew.trans hG hb
    (try dsimp only)
    (with_reducible refine hK _ _ hG ?_)
    clear hK K
    (repeat ((first | (with_reducible refine ord_q1 ?_) | (with_reducible refine ord_q0 ?_)); intro K hK; first | (refine Or.inr ⟨?_, ?_⟩; (focus (go_simp; first | done | (simp [undef]; done))); go_simp; (with_reducible refine hK _ ?_); clear hK K) | (refine Or.inl ⟨?_, ?_⟩; (focus (go_simp; done)); apply Exists.intro; refine And.intro ?_ ?_; (focus (first | (intro wq hq; obtain ⟨hcq, hfq⟩ := G.old hq; go_simp; (first | done | exact rfl); done) | (intro wq; go_simp; (first | done | exact rfl); done))); go_simp; (with_reducible refine hK _ ?_); clear hK K) | fail))
    (with_reducible refine ord_nil ?_)
    have hbx := hG.b
    replace HB := Lib.hid (HB.out.grow hbx)
    replace HT := Lib.hid (HT.out.grow hbx)
    replace HG := Lib.hid (G.trans HG.out hbx)
    clear hG hb hbx c0 c1 c2 c3 f0 f1 f2 f3 lt
    (obtain ⟨c0, c1, c2, c3⟩ := HB.out.c4; obtain ⟨f0, f1, f2, f3⟩ := HB.out.f4; have lt := HB.out.lt)
    go_wp2_with fail
    rw [rounds_succ]
    go_wp2_with fail
    refine wp_region_ord [(0, 1), (1, 1), (2, 1), (3, 1), (4, 1), (5, 1), (6, 1), (7, 1), (8, 1), (9, 1), (10, 2)] [] 5 (by kernel_rfl) (by decide +kernel) ?_
    simp only [pickO, List.append_eq, List.cons_append, List.nil_append, List.getElem?_cons_succ, List.getElem?_cons_zero]
    intro w0 hG
    (repeat ((first | (with_reducible refine ord_q1 ?_) | (with_reducible refine ord_q0 ?_)); intro K hK; first | (refine Or.inr ⟨?_, ?_⟩; (focus (go_simp; first | done | (simp [undef]; done))); go_simp; (with_reducible refine hK _ ?_); clear hK K) | (refine Or.inl ⟨?_, ?_⟩; (focus (go_simp; done)); apply Exists.intro; refine And.intro ?_ ?_; (focus (first | (intro wq hq; obtain ⟨hcq, hfq⟩ := G.old hq; go_simp; (first | done | exact rfl); done) | (intro wq; go_simp; (first | done | exact rfl); done))); go_simp; (with_reducible refine hK _ ?_); clear hK K) | fail))
    (with_reducible refine ord_run ?_ hG)
    intro K hK
    go_simp
    go_at_call 82; (with_reducible refine (HP2.out _).mono ?_); rintro e1 wn ⟨rfl, rfl⟩; have hb := G.refl wn
    replace hG := Grew.trans hG hb
    (try dsimp only)
    (with_reducible refine hK _ _ hG ?_)
    clear hK K
    (repeat ((first | (with_reducible refine ord_q1 ?_) | (with_reducible refine ord_q0 ?_)); intro K hK; first | (refine Or.inr ⟨?_, ?_⟩; (focus (go_simp; first | done | (simp [undef]; done))); go_simp; (with_reducible refine hK _ ?_); clear hK K) | (refine Or.inl ⟨?_, ?_⟩; (focus (go_simp; done)); apply Exists.intro; refine And.intro ?_ ?_; (focus (first | (intro wq hq; obtain ⟨hcq, hfq⟩ := G.old hq; go_simp; (first | done | exact rfl); done) | (intro wq; go_simp; (first | done | exact rfl); done))); go_simp; (with_reducible refine hK _ ?_); clear hK K) | fail))
    (with_reducible refine ord_nil ?_)
    have hbx := hG.b
    replace HB := Lib.hid (HB.out.grow hbx)
    replace HT := Lib.hid (HT.out.grow hbx)
    replace HG := Lib.hid (G.trans HG.out hbx)
    clear hG hb hbx c0 c1 c2 c3 f0 f1 f2 f3 lt
    (obtain ⟨c0, c1, c2, c3⟩ := HB.out.c4; obtain ⟨f0, f1, f2, f3⟩ := HB.out.f4; have lt := HB.out.lt)
    go_wp2_with fail
    rw [rounds_succ]
    go_wp2_with fail
    refine wp_region_ord [(0, 1), (1, 1), (2, 1), (3, 1), (4, 1), (5, 1), (6, 1), (7, 1), (8, 1), (9, 1), (10, 2)] [] 5 (by kernel_rfl) (by decide +kernel) ?_
    simp only [pickO, List.append_eq, List.cons_append, List.nil_append, List.getElem?_cons_succ, List.getElem?_cons_zero]
    intro w0 hG
    (repeat ((first | (with_reducible refine ord_q1 ?_) | (with_reducible refine ord_q0 ?_)); intro K hK; first | (refine Or.inr ⟨?_, ?_⟩; (focus (go_simp; first | done | (simp [undef]; done))); go_simp; (with_reducible refine hK _ ?_); clear hK K) | (refine Or.inl ⟨?_, ?_⟩; (focus (go_simp; done)); apply Exists.intro; refine And.intro ?_ ?_; (focus (first | (intro wq hq; obtain ⟨hcq, hfq⟩ := G.old hq; go_simp; (first | done | exact rfl); done) | (intro wq; go_simp; (first | done | exact rfl); done))); go_simp; (with_reducible refine hK _ ?_); clear hK K) | fail))
    (with_reducible refine ord_run ?_ hG)
    intro K hK
    go_simp
    go_at_call 82; (with_reducible refine (HP3.out _).mono ?_); rintro e1 wn ⟨rfl, rfl⟩; have hb := G.refl wn
    replace hG := Grew.trans hG hb
    (try dsimp only)
    (with_reducible refine hK _ _ hG ?_)
    clear hK K
    (repeat ((first | (with_reducible refine ord_q1 ?_) | (with_reducible refine ord_q0 ?_)); intro K hK; first | (refine Or.inr ⟨?_, ?_⟩; (focus (go_simp; first | done | (simp [undef]; done))); go_simp; (with_reducible refine hK _ ?_); clear hK K) | (refine Or.inl ⟨?_, ?_⟩; (focus (go_simp; done)); apply Exists.intro; refine And.intro ?_ ?_; (focus (first | (intro wq hq; obtain ⟨hcq, hfq⟩ := G.old hq; go_simp; (first | done | exact rfl); done) | (intro wq; go_simp; (first | done | exact rfl); done))); go_simp; (with_reducible refine hK _ ?_); clear hK K) | fail))
    (with_reducible refine ord_nil ?_)
    have hbx := hG.b
    replace HB := Lib.hid (HB.out.grow hbx)
    replace HT := Lib.hid (HT.out.grow hbx)
    replace HG := Lib.hid (G.trans HG.out hbx)
    clear hG hb hbx c0 c1 c2 c3 f0 f1 f2 f3 lt
    (obtain ⟨c0, c1, c2, c3⟩ := HB.out.c4; obtain ⟨f0, f1, f2, f3⟩ := HB.out.f4; have lt := HB.out.lt)
    go_wp2_with fail
    rw [rounds_succ]
    go_wp2_with fail
    refine wp_region_ord [(0, 1), (1, 1), (2, 1), (3, 1), (4, 1), (5, 1), (6, 1), (7, 1), (8, 1), (9, 1), (10, 2)] [] 5 (by kernel_rfl) (by decide +kernel) ?_
    simp only [pickO, List.append_eq, List.cons_append, List.nil_append, List.getElem?_cons_succ, List.getElem?_cons_zero]
    intro w0 hG
    (repeat ((first | (with_reducible refine ord_q1 ?_) | (with_reducible refine ord_q0 ?_)); intro K hK; first | (refine Or.inr ⟨?_, ?_⟩; (focus (go_simp; first | done | (simp [undef]; done))); go_simp; (with_reducible refine hK _ ?_); clear hK K) | (refine Or.inl ⟨?_, ?_⟩; (focus (go_simp; done)); apply Exists.intro; refine And.intro ?_ ?_; (focus (first | (intro wq hq; obtain ⟨hcq, hfq⟩ := G.old hq; go_simp; (first | done | exact rfl); done) | (intro wq; go_simp; (first | done | exact rfl); done))); go_simp; (with_reducible refine hK _ ?_); clear hK K) | fail))
    (with_reducible refine ord_run ?_ hG)
    intro K hK
    go_simp
    go_at_call 82; (with_reducible refine (HP4.out _).mono ?_); rintro e1 wn ⟨rfl, rfl⟩; have hb := G.refl wn
    replace hG := Grew.trans hG hb
    (try dsimp only)
    (with_reducible refine hK _ _ hG ?_)
    clear hK K
    (repeat ((first | (with_reducible refine ord_q1 ?_) | (with_reducible refine ord_q0 ?_)); intro K hK; first | (refine Or.inr ⟨?_, ?_⟩; (focus (go_simp; first | done | (simp [undef]; done))); go_simp; (with_reducible refine hK _ ?_); clear hK K) | (refine Or.inl ⟨?_, ?_⟩; (focus (go_simp; done)); apply Exists.intro; refine And.intro ?_ ?_; (focus (first | (intro wq hq; obtain ⟨hcq, hfq⟩ := G.old hq; go_simp; (first | done | exact rfl); done) | (intro wq; go_simp; (first | done | exact rfl); done))); go_simp; (with_reducible refine hK _ ?_); clear hK K) | fail))
    (with_reducible refine ord_nil ?_)
    have hbx := hG.b
    replace HB := Lib.hid (HB.out.grow hbx)
    replace HT := Lib.hid (HT.out.grow hbx)
    replace HG := Lib.hid (G.trans HG.out hbx)
    clear hG hb hbx c0 c1 c2 c3 f0 f1 f2 f3 lt
    (obtain ⟨c0, c1, c2, c3⟩ := HB.out.c4; obtain ⟨f0, f1, f2, f3⟩ := HB.out.f4; have lt := HB.out.lt)
    go_wp2_with fail
    rw [rounds_succ]
    go_wp2_with fail
    have hmn : ¬ q.take 2 ∈ pairsL := fun h => by have := hmem.out.1 h; simp at this
    have hlx2 := hlx.out
    rw [if_neg hmn] at hlx2
    have hix := idx_mem singlesL c
    have IB := Lib.hid (fun w => Tryz.strings_IndexByte ⟨singlesL.toArray⟩ (c.toNat : Int) w)
    have e1 : (((c.toNat : Nat) : Int)).toNat.toUInt8 = c := by simp
    rw [e1, show (⟨singlesL.toArray⟩ : ByteArray).data.toList = singlesL from rfl] at IB
    obtain ⟨x, hx⟩ : ∃ x, Lib.indexByte singlesL c = x := ⟨_, rfl⟩
    rw [hx] at IB hix
    clear e1 hx
    have hlit : (⟨singlesL.toArray⟩ : ByteArray) = ⟨#[40, 41, 123, 125, 91, 93, 60, 62, 61, 58, 59, 44, 46, 63, 43, 45, 42, 38, 64, 124]⟩ := rfl
    rw [hlit] at IB
    clear hlit
    by_cases hsg : c ∈ singlesL
    · have hneg : ¬ x < 0 := by have := hix.1.2 hsg; omega
      rw [if_pos hsg] at hlx2
      clear hix hlx
      replace hlx2 := Lib.hid hlx2
      refine wp_region_ord [(0, 1), (1, 1), (2, 1), (3, 1), (4, 1), (5, 1), (6, 1), (7, 1), (8, 1), (9, 2), (10, 1)] [] 5 (by kernel_rfl) (by decide +kernel) ?_
      simp only [pickO, List.append_eq, List.cons_append, List.nil_append, List.getElem?_cons_succ, List.getElem?_cons_zero]
      intro w0 hG
      (repeat ((first | (with_reducible refine ord_q1 ?_) | (with_reducible refine ord_q0 ?_)); intro K hK; first | (refine Or.inr ⟨?_, ?_⟩; (focus (go_simp; first | done | (simp [undef]; done))); go_simp; (with_reducible refine hK _ ?_); clear hK K) | (refine Or.inl ⟨?_, ?_⟩; (focus (go_simp; done)); apply Exists.intro; refine And.intro ?_ ?_; (focus (first | (intro wq hq; obtain ⟨hcq, hfq⟩ := G.old hq; go_simp; (first | done | exact rfl); done) | (intro wq; go_simp; (first | done | exact rfl); done))); go_simp; (with_reducible refine hK _ ?_); clear hK K) | fail))
      (with_reducible refine ord_run ?_ hG)
      intro K hK
      go_simp
      go_at_call 58; (with_reducible refine (IB.out _).mono ?_); rintro e1 wn ⟨rfl, rfl⟩; have hb := G.refl wn
      replace hG := Grew.trans hG hb
      (try dsimp only)
      (with_reducible refine hK _ _ hG ?_)
      clear hK K
      (repeat ((first | (with_reducible refine ord_q1 ?_) | (with_reducible refine ord_q0 ?_)); intro K hK; first | (refine Or.inr ⟨?_, ?_⟩; (focus (go_simp; first | done | (simp [undef]; done))); go_simp; (with_reducible refine hK _ ?_); clear hK K) | (refine Or.inl ⟨?_, ?_⟩; (focus (go_simp; done)); apply Exists.intro; refine And.intro ?_ ?_; (focus (first | (intro wq hq; obtain ⟨hcq, hfq⟩ := G.old hq; go_simp; (first | done | exact rfl); done) | (intro wq; go_simp; (first | done | exact rfl); done))); go_simp; (with_reducible refine hK _ ?_); clear hK K) | fail))
      (with_reducible refine ord_nil ?_)
      have hbx := hG.b
      replace HB := Lib.hid (HB.out.grow hbx)
      replace HT := Lib.hid (HT.out.grow hbx)
      replace HG := Lib.hid (G.trans HG.out hbx)
      clear hG hb hbx c0 c1 c2 c3 f0 f1 f2 f3 lt
      (obtain ⟨c0, c1, c2, c3⟩ := HB.out.c4; obtain ⟨f0, f1, f2, f3⟩ := HB.out.f4; have lt := HB.out.lt)
      have t0 := (HT.out.2 0 _ rfl).1
      have t3 := (HT.out.2 3 _ rfl).1
      have z0 := (HT.out.2 0 _ rfl).2
      have z3 := (HT.out.2 3 _ rfl).2
      have ltr := HT.out.lt
      have hj1 : (i : Int) ≤ ((i + 1 : Nat) : Int) := by omega
      have hj2 : ((i + 1 : Nat) : Int) ≤ (s.size : Int) := by omega
      obtain ⟨i1, hi1e⟩ : ∃ i1, i + 1 = i1 := ⟨_, rfl⟩
      rw [hi1e] at hx1 hj1 hj2 ht1
      obtain ⟨TT, hTT⟩ : ∃ TT, s.extract i i1 = TT := ⟨_, rfl⟩
      rw [hTT] at ht1
      replace hi1e := Lib.hid hi1e
      go_wp2_with fail
      refine wp_region_ord [(0, 1), (1, 0), (2, 1), (3, 1), (4, 1), (5, 1), (6, 1), (7, 1), (8, 1), (9, 1), (10, 1), (11, 1), (12, 1), (13, 1), (14, 0), (15, 0), (16, 1), (17, 1), (18, 3), (19, 0), (20, 0), (21, 3)] [18, 21] 5 (by kernel_rfl) (by decide +kernel) ?_
      simp only [pickO, List.append_eq, List.cons_append, List.nil_append, List.getElem?_cons_succ, List.getElem?_cons_zero]
      intro w0 hG
      (repeat ((first | (with_reducible refine ord_q1 ?_) | (with_reducible refine ord_q0 ?_)); intro K hK; first | (refine Or.inr ⟨?_, ?_⟩; (focus (go_simp; first | done | (simp [undef]; done))); go_simp; (with_reducible refine hK _ ?_); clear hK K) | (refine Or.inl ⟨?_, ?_⟩; (focus (go_simp; done)); apply Exists.intro; refine And.intro ?_ ?_; (focus (first | (intro wq hq; obtain ⟨hcq, hfq⟩ := G.old hq; go_simp; (first | done | exact rfl); done) | (intro wq; go_simp; (first | done | exact rfl); done))); go_simp; (with_reducible refine hK _ ?_); clear hK K) | fail))
      have hbx := hG.b
      replace HB := Lib.hid (HB.out.grow hbx)
      replace HT := Lib.hid (HT.out.grow hbx)
      replace HG := Lib.hid (G.trans HG.out hbx)
      clear hG hbx c0 c1 c2 c3 f0 f1 f2 f3 lt t0 t3 z0 z3 ltr
      (obtain ⟨c0, c1, c2, c3⟩ := HB.out.c4; obtain ⟨f0, f1, f2, f3⟩ := HB.out.f4; have lt := HB.out.lt)
      have t0 := (HT.out.2 0 _ rfl).1
      have t3 := (HT.out.2 3 _ rfl).1
      have z0 := (HT.out.2 0 _ rfl).2
      have z3 := (HT.out.2 3 _ rfl).2
      have ltr := HT.out.lt
      ((with_reducible refine ord_tail ?_); intro K hK; go_simp; (with_reducible refine hK _ _ ?_); clear hK K)
      (repeat ((first | (with_reducible refine ord_q1 ?_) | (with_reducible refine ord_q0 ?_)); intro K hK; first | (refine Or.inr ⟨?_, ?_⟩; (focus (go_simp; first | done | (simp [undef]; done))); go_simp; (with_reducible refine hK _ ?_); clear hK K) | (refine Or.inl ⟨?_, ?_⟩; (focus (go_simp; done)); apply Exists.intro; refine And.intro ?_ ?_; (focus (first | (intro wq hq; obtain ⟨hcq, hfq⟩ := G.old hq; go_simp; (first | done | exact rfl); done) | (intro wq; go_simp; (first | done | exact rfl); done))); go_simp; (with_reducible refine hK _ ?_); clear hK K) | fail))
      ((with_reducible refine ord_tail ?_); intro K hK; go_simp; (with_reducible refine hK _ _ ?_); clear hK K)
      (with_reducible refine ord_nil ?_)
      go_wp2_with fail
      go_ret
      rw [hlx2.out]
      refine ⟨fun n t h => ?_, fun o c h => (by cases h)⟩
      injection h with h1 h2
      subst h1 h2
      refine ⟨rfl, by rw [hi1e.out]; exact ((HB.out.other (Ne.symm hbr) _).other (Ne.symm hbr) _).put (i := 1) (v := .int .i64 (i1 : Int)) rfl, ?_, (((Chg.of_below HG.out).set2 _ _).set2 _ _).set1 _ _⟩
      show Bx _ r (tkC 5 ln cl (B (q.take 1)) ⟨#[]⟩ 0 0 j)
      rw [← ht1.out]
      exact ((HT.out.put (i := 0) (v := .int .i64 5) rfl).put (i := 3) (v := .string TT) rfl).other hbr _
    · have hneg : x < 0 := by
        have := hix.1
        rcases Int.lt_or_le x 0 with h | h
        · exact h
        · exact absurd (this.1 h) hsg
      rw [if_neg hsg] at hlx2
      clear hix hlx
      replace hlx2 := Lib.hid hlx2
      refine wp_region_ord [(0, 1), (1, 1), (2, 1), (3, 1), (4, 1), (5, 1), (6, 1), (7, 1), (8, 1), (9, 2), (10, 1)] [] 5 (by kernel_rfl) (by decide +kernel) ?_
      simp only [pickO, List.append_eq, List.cons_append, List.nil_append, List.getElem?_cons_succ, List.getElem?_cons_zero]
      intro w0 hG
      (repeat ((first | (with_reducible refine ord_q1 ?_) | (with_reducible refine ord_q0 ?_)); intro K hK; first | (refine Or.inr ⟨?_, ?_⟩; (focus (go_simp; first | done | (simp [undef]; done))); go_simp; (with_reducible refine hK _ ?_); clear hK K) | (refine Or.inl ⟨?_, ?_⟩; (focus (go_simp; done)); apply Exists.intro; refine And.intro ?_ ?_; (focus (first | (intro wq hq; obtain ⟨hcq, hfq⟩ := G.old hq; go_simp; (first | done | exact rfl); done) | (intro wq; go_simp; (first | done | exact rfl); done))); go_simp; (with_reducible refine hK _ ?_); clear hK K) | fail))
      (with_reducible refine ord_run ?_ hG)
      intro K hK
      go_simp
      go_at_call 58; (with_reducible refine (IB.out _).mono ?_); rintro e1 wn ⟨rfl, rfl⟩; have hb := G.refl wn
      replace hG := Grew.trans hG hb
      (try dsimp only)
      (with_reducible refine hK _ _ hG ?_)
      clear hK K
      (repeat ((first | (with_reducible refine ord_q1 ?_) | (with_reducible refine ord_q0 ?_)); intro K hK; first | (refine Or.inr ⟨?_, ?_⟩; (focus (go_simp; first | done | (simp [undef]; done))); go_simp; (with_reducible refine hK _ ?_); clear hK K) | (refine Or.inl ⟨?_, ?_⟩; (focus (go_simp; done)); apply Exists.intro; refine And.intro ?_ ?_; (focus (first | (intro wq hq; obtain ⟨hcq, hfq⟩ := G.old hq; go_simp; (first | done | exact rfl); done) | (intro wq; go_simp; (first | done | exact rfl); done))); go_simp; (with_reducible refine hK _ ?_); clear hK K) | fail))
      (with_reducible refine ord_nil ?_)
      have hbx := hG.b
      replace HG := Lib.hid (G.trans HG.out hbx)
      clear hG hb hbx c0 c1 c2 c3 f0 f1 f2 f3 lt
      go_wp2_with fail
      go_ret
      rw [hlx2.out]
      exact ⟨fun n t h => (by cases h), fun o c h => ⟨rfl, HG.out⟩⟩
end
end Go.Proofs.YtmchiibbodllaaaGreatDoor
