/- The law's decimal and text. -/
import Derived.Test.YtjldpodehffbnaaDoorSPar3
import Derived.Test.YtjldpodehffbnaaDoorTree
import Derived.Laws.IdiomStrings
namespace Go.Proofs.YtjldpodehffbnaaDoor
set_option linter.unusedVariables false
set_option linter.unnecessarySimpa false
set_option linter.unusedSimpArgs false
open Go.RowKit

theorem B_app (l m : List UInt8) : B l ++ B m = B (l ++ m) := by rw [← B_of (B l ++ B m)]; congr 1
theorem conv_one {w : World} {b : Nat} {x : Int} (hc : w.cell? ⟨b, 0, none⟩ = some (.int .u8 x)) (h0 : 0 ≤ x) (h1 : x ≤ 255) : (convert 75 9 (.slice (some ⟨b, 0, none⟩) 1 1)).run Tryd.prog w = .ok (.string ⟨#[UInt8.ofNat x.toNat]⟩) w := by
  have hx : ((UInt8.ofNat x.toNat).toNat : Int) = x := by rw [UInt8.toNat_ofNat']; omega
  exact run_convert_bytes_back (P := Tryd.prog) w 75 9 5 ⟨b, 0, none⟩ 1 [UInt8.ofNat x.toNat] Tryd.underlying75 Tryd.underlying5 Tryd.underlying9 (by
    intro j hj
    have : j = 0 := by simpa using hj
    subst this
    simp only [List.getElem_cons_zero]
    rw [hx]
    exact hc)
theorem conv_new (w : World) (x : Int) (h0 : 0 ≤ x) (h1 : x ≤ 255) : (convert 75 9 (.slice (some ⟨w.heap.size, 0, none⟩) 1 1)).run Tryd.prog (w.alloc (.cells #[.int .u8 x] 5)) = .ok (.string ⟨#[UInt8.ofNat x.toNat]⟩) (w.alloc (.cells #[.int .u8 x] 5)) := conv_one (by go_simp) h0 h1
theorem itoaB_one {n : Nat} (h : n < 10) : itoaB n = ⟨#[UInt8.ofNat (48 + (n : Int)).toNat]⟩ := by
  unfold itoaB Lib.itoa
  rw [if_neg (by omega), Int.toNat_natCast, Lib.decDigits, dif_pos h]
  congr 2
theorem itoaB_more {n : Nat} (h : ¬ n < 10) : itoaB n = itoaB ((n / 10 : Nat) : Int) ++ ⟨#[UInt8.ofNat (48 + ((n % 10 : Nat) : Int)).toNat]⟩ := by
  unfold itoaB Lib.itoa
  rw [if_neg (by omega), if_neg (by omega), Int.toNat_natCast, Int.toNat_natCast, Lib.decDigits, dif_neg h]
  have e : (48 + ((n % 10 : Nat) : Int)).toNat = 48 + n % 10 := by omega
  rw [e]
  apply ByteArray.ext
  rw [ByteArray.data_append]
  simp
theorem name_byte {K : Act → World → Prop} {a : Act} {W : World} {u : Value} {t : TypeId} (h : ∀ wX, Below W.heap.size W wX → wX.cell? ⟨W.heap.size, 0, none⟩ = some u → W.heap.size + 1 ≤ wX.heap.size → K a wX) : K a (W.alloc (.cells #[u] t)) :=
  h _ (G.alloc (G.refl W) _) (by go_simp) (by simp)
set_option maxRecDepth 20000 in set_option maxHeartbeats 1000000 in
theorem decimal_any (n : Nat) : n ≤ 9999999 → ∀ w : World, Calls Tryd.prog 52 #[.int .i64 n] w fun e w' => e = .returned (.string (itoaB n)) ∧ Below w.heap.size w w' := by
  induction n using Nat.strongRecOn with
  | _ n ih =>
    intro hn w
    by_cases h : n < 10
    · have h' : (n : Int) < 10 := by omega
      have f1 : IntKind.i64.wrap (48 + (n : Int)) = 48 + n := IntWalk.i64_in _ (by omega)
      have f2 : IntKind.u8.wrap (48 + (n : Int)) = 48 + n := IntWalk.u8_in _ (by omega)
      have hcv := conv_new w (48 + n) (by omega) (by omega)
      rw [itoaB_one h]
      clear ih
      go_enter Tryd.func52, Tryd.ntmps52
      go_wp2_with fail
      go_ret
      exact ⟨rfl, by repeat (first | with_reducible assumption | with_reducible exact G.refl _ | with_reducible refine G.drew ?_ | with_reducible refine G.drewN ?_ _ | with_reducible refine G.alloc ?_ _ | with_reducible refine Below.setCell ?_ (by first | (simp; done) | (simp; omega)) _ | with_reducible refine G.trans ?_ hb12 | with_reducible refine G.trans ?_ hb11 | with_reducible refine G.trans ?_ hb10 | with_reducible refine G.trans ?_ hb9 | with_reducible refine G.trans ?_ hb8 | with_reducible refine G.trans ?_ hb7 | with_reducible refine G.trans ?_ hb6 | with_reducible refine G.trans ?_ hb5 | with_reducible refine G.trans ?_ hb4 | with_reducible refine G.trans ?_ hb3 | with_reducible refine G.trans ?_ hb2 | with_reducible refine G.trans ?_ hb1 | with_reducible refine G.trans ?_ hb | assumption)⟩
    · have h' : ¬ (n : Int) < 10 := by omega
      have hI := Lib.hid (ih (n / 10) (by omega) (by omega))
      have hs := itoaB_more h
      obtain ⟨q, hq⟩ : ∃ q, n / 10 = q := ⟨_, rfl⟩
      obtain ⟨r, hr⟩ : ∃ r, n % 10 = r := ⟨_, rfl⟩
      rw [hq] at hI
      rw [hq, hr] at hs
      have hq7 : (itoaB (q : Int)).size ≤ 7 := itoaB_size (by omega) (by omega)
      have hr10 : r < 10 := by omega
      have g1 : (n : Int).tdiv 10 = q := by rw [Int.tdiv_eq_ediv_of_nonneg (by omega)]; omega
      have g2 : (n : Int).tmod 10 = r := by rw [Int.tmod_eq_emod_of_nonneg (by omega)]; omega
      have f1 : IntKind.i64.wrap (48 + (r : Int)) = 48 + r := IntWalk.i64_in _ (by omega)
      have f2 : IntKind.u8.wrap (48 + (r : Int)) = 48 + r := IntWalk.u8_in _ (by omega)
      have f3 : IntKind.i64.wrap (q : Int) = q := IntWalk.i64_in _ (by omega)
      have hcat := fun (wx : World) => run_string_add_sum (P := Tryd.prog) wx (itoaB q) ⟨#[UInt8.ofNat (48 + (r : Int)).toNat]⟩ (by have h1 : (ByteArray.mk #[UInt8.ofNat (48 + (r : Int)).toNat]).size = 1 := rfl; omega)
      rw [← hs] at hcat
      have h48 : 0 ≤ 48 + (r : Int) ∧ 48 + (r : Int) ≤ 255 := by omega
      replace h48 := Lib.hid h48
      replace hs := Lib.hid hs
      clear ih hq hr hq7 hr10
      go_enter Tryd.func52, Tryd.ntmps52
      go_wp2_with fail
      refine wp_region_tree (.quiet 0 1 (.quiet 1 1 (.quiet 3 1 (.quiet 4 1 (.quiet 5 1 (.quiet 6 1 (.run 2 2 (.run 7 2 (.run 8 2 (.quiet 9 1 (.quiet 10 1 .nil)) .stop) .stop) (.run 7 2 (.run 2 2 (.run 8 2 (.quiet 9 1 (.quiet 10 1 .nil)) .stop) (.run 8 2 (.run 2 2 (.quiet 9 1 (.quiet 10 1 .nil)) .stop) .stop)) .stop)))))))) [] 5 (by kernel_rfl) (by decide +kernel) ?_
      simp only [pickT, List.getElem?_cons_succ, List.getElem?_cons_zero]
      intro w0 hG
      have hG0 := hG.b
      have szG := hG0.size
      (try simp at szG)
      (repeat ((first | (with_reducible refine tree_q1 ?_) | (with_reducible refine tree_q0 ?_)); intro K hK; first | (refine Or.inr ⟨?_, ?_⟩; (focus (go_simp; first | done | (simp [undef]; done))); go_simp; (with_reducible refine hK _ ?_); clear hK K) | (refine Or.inl ⟨?_, ?_⟩; (focus (go_simp; done)); apply Exists.intro; refine And.intro ?_ ?_; (focus (first | (intro wq hq; obtain ⟨hcq, hfq⟩ := G.old hq; go_simp; (first | done | exact rfl); done) | (intro wq; go_simp; (first | done | exact rfl); done))); go_simp; (with_reducible refine hK _ ?_); clear hK K) | fail))
      (with_reducible refine tree_run hG ?_ ?_)
      · intro K hK
        go_simp
        go_at_call 52; (with_reducible refine (hI.out _).mono ?_); rintro e w3 ⟨rfl, hb3⟩; (first | (replace hcl := G.cell hcl hb3) | skip)
        replace hG := Grew.trans hG hb3
        (try dsimp only)
        (with_reducible refine hK _ _ hG ?_)
        clear hK K
        (with_reducible refine tree_run hG ?_ ?_)
        · intro K hK
          go_simp
          (with_reducible refine name_byte ?_); intro wX hb4 hcl hsX
          replace hG := Grew.trans hG hb4
          (try dsimp only)
          (with_reducible refine hK _ _ hG ?_)
          clear hK K
          (with_reducible refine tree_run hG ?_ ?_)
          · intro K hK
            have hcv := conv_one (x := 48 + (r : Int)) hcl h48.out.1 h48.out.2
            go_simp
            have hb5 : ∀ {x : World}, Below x.heap.size x x := G.refl _
            replace hG := Grew.trans hG hb5
            (try dsimp only)
            (with_reducible refine hK _ _ hG ?_)
            clear hK K
            (repeat ((first | (with_reducible refine tree_q1 ?_) | (with_reducible refine tree_q0 ?_)); intro K hK; first | (refine Or.inr ⟨?_, ?_⟩; (focus (go_simp; first | done | (simp [undef]; done))); go_simp; (with_reducible refine hK _ ?_); clear hK K) | (refine Or.inl ⟨?_, ?_⟩; (focus (go_simp; done)); apply Exists.intro; refine And.intro ?_ ?_; (focus (first | (intro wq hq; obtain ⟨hcq, hfq⟩ := G.old hq; go_simp; (first | done | exact rfl); done) | (intro wq; go_simp; (first | done | exact rfl); done))); go_simp; (with_reducible refine hK _ ?_); clear hK K) | fail))
            (with_reducible refine tree_nil ?_)
            go_wp2_with fail
            go_ret
            exact ⟨rfl, hG.b⟩
          exact tree_stop
        exact tree_stop
      (with_reducible refine tree_run hG ?_ ?_)
      · intro K hK
        go_simp
        (with_reducible refine name_byte ?_); intro wX hb4 hcl hsX
        replace hG := Grew.trans hG hb4
        (try dsimp only)
        (with_reducible refine hK _ _ hG ?_)
        clear hK K
        (with_reducible refine tree_run hG ?_ ?_)
        · intro K hK
          go_simp
          go_at_call 52; (with_reducible refine (hI.out _).mono ?_); rintro e w3 ⟨rfl, hb3⟩; (first | (replace hcl := G.cell hcl hb3) | skip)
          replace hG := Grew.trans hG hb3
          (try dsimp only)
          (with_reducible refine hK _ _ hG ?_)
          clear hK K
          (with_reducible refine tree_run hG ?_ ?_)
          · intro K hK
            have hcv := conv_one (x := 48 + (r : Int)) hcl h48.out.1 h48.out.2
            go_simp
            have hb5 : ∀ {x : World}, Below x.heap.size x x := G.refl _
            replace hG := Grew.trans hG hb5
            (try dsimp only)
            (with_reducible refine hK _ _ hG ?_)
            clear hK K
            (repeat ((first | (with_reducible refine tree_q1 ?_) | (with_reducible refine tree_q0 ?_)); intro K hK; first | (refine Or.inr ⟨?_, ?_⟩; (focus (go_simp; first | done | (simp [undef]; done))); go_simp; (with_reducible refine hK _ ?_); clear hK K) | (refine Or.inl ⟨?_, ?_⟩; (focus (go_simp; done)); apply Exists.intro; refine And.intro ?_ ?_; (focus (first | (intro wq hq; obtain ⟨hcq, hfq⟩ := G.old hq; go_simp; (first | done | exact rfl); done) | (intro wq; go_simp; (first | done | exact rfl); done))); go_simp; (with_reducible refine hK _ ?_); clear hK K) | fail))
            (with_reducible refine tree_nil ?_)
            go_wp2_with fail
            go_ret
            exact ⟨rfl, hG.b⟩
          exact tree_stop
        (with_reducible refine tree_run hG ?_ ?_)
        · intro K hK
          have hcv := conv_one (x := 48 + (r : Int)) hcl h48.out.1 h48.out.2
          go_simp
          have hb5 : ∀ {x : World}, Below x.heap.size x x := G.refl _
          replace hG := Grew.trans hG hb5
          (try dsimp only)
          (with_reducible refine hK _ _ hG ?_)
          clear hK K
          (with_reducible refine tree_run hG ?_ ?_)
          · intro K hK
            go_simp
            go_at_call 52; (with_reducible refine (hI.out _).mono ?_); rintro e w3 ⟨rfl, hb3⟩; (first | (replace hcl := G.cell hcl hb3) | skip)
            replace hG := Grew.trans hG hb3
            (try dsimp only)
            (with_reducible refine hK _ _ hG ?_)
            clear hK K
            (repeat ((first | (with_reducible refine tree_q1 ?_) | (with_reducible refine tree_q0 ?_)); intro K hK; first | (refine Or.inr ⟨?_, ?_⟩; (focus (go_simp; first | done | (simp [undef]; done))); go_simp; (with_reducible refine hK _ ?_); clear hK K) | (refine Or.inl ⟨?_, ?_⟩; (focus (go_simp; done)); apply Exists.intro; refine And.intro ?_ ?_; (focus (first | (intro wq hq; obtain ⟨hcq, hfq⟩ := G.old hq; go_simp; (first | done | exact rfl); done) | (intro wq; go_simp; (first | done | exact rfl); done))); go_simp; (with_reducible refine hK _ ?_); clear hK K) | fail))
            (with_reducible refine tree_nil ?_)
            go_wp2_with fail
            go_ret
            exact ⟨rfl, hG.b⟩
          exact tree_stop
        exact tree_stop
      exact tree_stop
/-- The law's text, while it is made. -/
def txtB (e : Int) (xs : List Int) (k : Nat) : List UInt8 := Lib.itoa e ++ 47 :: Lib.join ((xs.take k).map Lib.itoa) [46]
theorem join_snoc (sep x : List UInt8) : ∀ l : List (List UInt8), l ≠ [] → Lib.join (l ++ [x]) sep = Lib.join l sep ++ sep ++ x
  | [], h => absurd rfl h
  | y :: l, _ => by
    rw [List.cons_append, Lib.join_cons, Lib.join_cons]
    simp [Lib.joinTail]
set_option maxRecDepth 20000 in set_option maxHeartbeats 1000000 in
theorem textM_any (e : Int) (A : Option Addr) (n c : Nat) (xs : List Int) (w : World) (hx : Sl w A n (i64s xs)) (hnc : n ≤ c) (hn : n ≤ 512) (he : 0 ≤ e ∧ e ≤ 9999999) (hr : ∀ x ∈ xs, 0 ≤ x ∧ x ≤ 9999999) :
    Calls Tryd.prog 34 #[.agg #[.int .i64 e, .slice A n c]] w fun e' w' => e' = .returned (.string (B (textL e xs))) ∧ Below w.heap.size w w' := by
  have hl := Lib.hid hx.len
  have hr' := Lib.hid hr
  obtain ⟨E, rfl⟩ : ∃ E : Nat, (E : Int) = e := ⟨e.toNat, by omega⟩
  have hD := Lib.hid (decimal_any E (by omega))
  have hes := itoaB_size he.1 he.2
  have hlen : ∀ k, k ≤ n → (B (txtB E xs k)).size ≤ 8 + k * 8 := fun k hk => by
    have := join_len [46] ((xs.take k).map Lib.itoa) 7 (fun y hy => by
      obtain ⟨z, hz, rfl⟩ := List.mem_map.1 hy
      have := hr z (List.mem_of_mem_take hz)
      exact itoa_len this.1 this.2)
    have h2 := itoa_len he.1 he.2
    have h3 : (xs.take k).length = k := by rw [List.length_take]; have := hl.out; omega
    rw [List.length_map, h3] at this
    rw [B_size]
    unfold txtB
    simp only [List.length_append, List.length_cons, List.length_nil] at this ⊢
    omega
  have hlen' := Lib.hid hlen
  have h0 : itoaB E ++ ⟨#[47]⟩ = B (txtB E xs 0) := by
    rw [show itoaB E = B (Lib.itoa E) from rfl, show (⟨#[47]⟩ : ByteArray) = B [47] from rfl, B_app]
    rfl
  have hc0 := fun (wx : World) => run_string_add_sum (P := Tryd.prog) wx (itoaB E) ⟨#[47]⟩ (by have h1 : (ByteArray.mk #[47]).size = 1 := rfl; omega)
  rw [h0] at hc0
  have h46 : (ByteArray.mk #[46]).size = 1 := rfl
  clear hlen hes h0 hr
  go_enter Tryd.func34, Tryd.ntmps34
  go_wp2_with fail
  refine (hD.out _).mono ?_
  rintro e1 w1 ⟨rfl, hb1⟩
  have k0 := G.cell (a := ⟨w.heap.size, 0, none⟩) (v := .int .i64 E) (by go_simp) hb1
  have k1 := G.cell (a := ⟨w.heap.size, 1, none⟩) (v := .slice A n c) (by go_simp) hb1
  have hbw1 : Below w.heap.size w w1 := G.trans (by repeat (first | with_reducible assumption | with_reducible exact G.refl _ | with_reducible refine G.drew ?_ | with_reducible refine G.drewN ?_ _ | with_reducible refine G.alloc ?_ _ | with_reducible refine Below.setCell ?_ (by first | (simp; done) | (simp; omega)) _ | with_reducible refine G.trans ?_ hb12 | with_reducible refine G.trans ?_ hb11 | with_reducible refine G.trans ?_ hb10 | with_reducible refine G.trans ?_ hb9 | with_reducible refine G.trans ?_ hb8 | with_reducible refine G.trans ?_ hb7 | with_reducible refine G.trans ?_ hb6 | with_reducible refine G.trans ?_ hb5 | with_reducible refine G.trans ?_ hb4 | with_reducible refine G.trans ?_ hb3 | with_reducible refine G.trans ?_ hb2 | with_reducible refine G.trans ?_ hb1 | with_reducible refine G.trans ?_ hb | assumption)) hb1
  have hx1 := Lib.hid (hx.grow hbw1)
  have lt0 := cell_lt k0
  clear hb1 hx
  go_wp2_with fail
  go_loopw [3, 4] (fun sv iv wr => ∃ i : Nat, i ≤ n ∧ iv = .int .i64 i ∧ sv = .string (B (txtB E xs i)) ∧ Below w1.heap.size w1 wr) (fun _ iv _ => n - (intOf iv).toNat)
  case atStart => exact ⟨0, Nat.zero_le _, rfl, rfl, G.refl _⟩
  case round =>
    obtain ⟨i, hi, rfl, rfl, hbr⟩ := hrel
    replace k0 := G.cell k0 hbr
    replace k1 := G.cell k1 hbr
    have lt0 := cell_lt k0
    by_cases hlt : i < n
    · obtain ⟨bx, ox, x, rfl, hbx, hxi, hcx⟩ := (hx1.out.grow hbr).at_ hlt
      have hxr := hr'.out x (List.mem_of_getElem? hxi)
      obtain ⟨X, rfl⟩ : ∃ X : Nat, (X : Int) = x := ⟨x.toNat, by omega⟩
      have hDX := Lib.hid (decimal_any X (by omega))
      have hsz := hlen'.out i hi
      have hXs := itoaB_size hxr.1 hxr.2
      have htk : (xs.take (i + 1)).map Lib.itoa = (xs.take i).map Lib.itoa ++ [Lib.itoa X] := by rw [List.take_add_one, hxi]; simp
      by_cases hi0 : 0 < i
      · have hi0' : (0 : Int) < (i : Int) := by omega
        have e1 : B (txtB E xs i) ++ ⟨#[46]⟩ ++ itoaB X = B (txtB E xs (i + 1)) := by
          rw [show itoaB X = B (Lib.itoa X) from rfl, show (⟨#[46]⟩ : ByteArray) = B [46] from rfl, B_app, B_app]
          congr 1
          unfold txtB
          rw [htk, join_snoc _ _ _ (by intro h; have h2 := congrArg List.length h; rw [List.length_map, List.length_take, List.length_nil] at h2; have := hl.out; omega)]
          simp
        have c1 := fun (wx : World) => run_string_add_sum (P := Tryd.prog) wx (B (txtB E xs i)) ⟨#[46]⟩ (by omega)
        have c2 := fun (wx : World) => run_string_add_sum (P := Tryd.prog) wx (B (txtB E xs i) ++ ⟨#[46]⟩) (itoaB X) (by rw [ByteArray.size_append]; omega)
        rw [e1] at c2
        clear hsz hXs htk e1 hxr hxi
        go_wp2_with fail
        refine (hDX.out _).mono ?_
        rintro e2 w2 ⟨rfl, hb2⟩
        go_wp2_with fail
        go_roundw
        case rel => exact ⟨i + 1, by omega, by go_num, rfl, G.trans hbr hb2⟩
        case measure => simp [intOf]; omega
      · have hi0' : ¬ (0 : Int) < (i : Int) := by omega
        have e1 : B (txtB E xs i) ++ itoaB X = B (txtB E xs (i + 1)) := by
          rw [show itoaB X = B (Lib.itoa X) from rfl, B_app]
          congr 1
          unfold txtB
          have : i = 0 := by omega
          subst this
          rw [htk]
          simp [Lib.join_cons, Lib.joinTail, Lib.join_nil]
        have c2 := fun (wx : World) => run_string_add_sum (P := Tryd.prog) wx (B (txtB E xs i)) (itoaB X) (by omega)
        rw [e1] at c2
        clear hsz hXs htk e1 hxr hxi
        go_wp2_with fail
        refine (hDX.out _).mono ?_
        rintro e2 w2 ⟨rfl, hb2⟩
        go_wp2_with fail
        go_roundw
        case rel => exact ⟨i + 1, by omega, by go_num, rfl, G.trans hbr hb2⟩
        case measure => simp [intOf]; omega
    · obtain rfl : i = n := by omega
      have hfin : Hid (B (txtB E xs i) = B (textL E xs)) := by
        unfold Hid txtB textL
        rw [List.take_of_length_le (by have := hl.out; omega)]
      go_wp2_with fail
      go_ret
      exact ⟨by rw [hfin.out]; rfl, G.trans hbw1 hbr⟩
end Go.Proofs.YtjldpodehffbnaaDoor
