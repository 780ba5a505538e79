/- play: a channel and its model stay in step. Printed by mkplay.py. -/
import Derived.Test.YtjldpodehffbnaaMod7
namespace Go.Proofs.Ytjldpodehffbnaa
set_option linter.unusedVariables false
set_option linter.unnecessarySimpa false
set_option linter.unusedSimpArgs false
open Go.RowKit

/-- A channel and its model in step. -/
def RetPlay (ok : Nat → Prop) (K : Nat) (w : World) (e : Ending) (w' : World) : Prop :=
  ∃ b r mb c A base, e = .returned (.tuple #[.pointer (some ⟨b, 0, none⟩), .pointer (some ⟨mb, 0, none⟩), .bool true]) ∧ PlayW ok base w' b r mb c c A ∧ Made K c ∧ (w.heap.size ≤ b ∧ w.heap.size ≤ r ∧ w.heap.size ≤ mb ∧ w.heap.size ≤ base) ∧ Below w.heap.size w w'
set_option maxRecDepth 20000 in set_option maxHeartbeats 4000000 in
theorem play_any {ok : Nat → Prop} {w : World} {K : Nat} (hK1 : 1 ≤ K) (hK2 : K ≤ 1024) {A0 : Option Addr} {n q0 : Nat} {ops : List (Int × It)} {xs : List Value} (hops : OpsV ok w A0 n q0 xs ops) (hkd : ∀ o ∈ ops, 0 ≤ o.1 ∧ o.1 ≤ 255) (hn40 : n ≤ 40) (hf : ∀ x, w.heap.size ≤ x → ok x) :
    Calls Try.prog 26 #[.int .i64 K, .slice A0 n q0] w (RetPlay ok K w) := by
  have H := Lib.hid hops
  have hkd := Lib.hid hkd
  have hlen := Lib.hid hops.2.1
  have hf := Lib.hid hf
  clear hops
  go_enter Try.func26, Try.ntmps26
  go_wp2_with fail
  refine (new_any K _ (by omega) (by omega)).mono ?_
  rintro e3 w3 ⟨b, r, rfl, hbb, hrr, C, hb3⟩
  go_wp2_with fail
  refine wp_name (fun wx => Below w3.heap.size w3 wx ∧ Bx wx w3.heap.size [.int .i64 K, .slice none 0 0, .int .i64 0, .slice none 0 0, .int .i64 0, .slice none 0 0] ∧ wx.heap.size = w3.heap.size + 1) ⟨by repeat (first | with_reducible assumption | with_reducible exact G.refl _ | with_reducible refine G.drew ?_ | with_reducible refine G.drewN ?_ _ | with_reducible refine G.alloc ?_ _ | with_reducible refine Below.setCell ?_ (by first | (simp; done) | (simp; omega)) _ | with_reducible refine G.trans ?_ hb12 | with_reducible refine G.trans ?_ hb11 | with_reducible refine G.trans ?_ hb10 | with_reducible refine G.trans ?_ hb9 | with_reducible refine G.trans ?_ hb8 | with_reducible refine G.trans ?_ hb7 | with_reducible refine G.trans ?_ hb6 | with_reducible refine G.trans ?_ hb5 | with_reducible refine G.trans ?_ hb4 | with_reducible refine G.trans ?_ hb3 | with_reducible refine G.trans ?_ hb2 | with_reducible refine G.trans ?_ hb1 | with_reducible refine G.trans ?_ hb | assumption), by repeat (first | with_reducible assumption | (with_reducible exact Bx.new (by simp; done) (by rfl)) | (with_reducible refine Bx.alloc ?_ _) | (with_reducible refine Bx.drewN ?_ _) | ((with_reducible apply Bx.put); rotate_right; (first | rfl | skip)) | (with_reducible refine Bx.other ?_ (by first | (simp; done) | (simp; omega)) _)), by simp⟩ ?_
  rintro w1 ⟨hb1, xm, hs1⟩
  have lt3 := (C (fun _ => False) (fun h => h) (fun h => h)).lt
  have hs3 := hb3.size
  have hwb : Hid (w.heap.size ≤ b ∧ w.heap.size ≤ r ∧ w.heap.size ≤ w3.heap.size ∧ w.heap.size ≤ w1.heap.size) := by unfold Hid; omega
  have hP1 : PlayW ok w1.heap.size w1 b r w3.heap.size (ch0 K) (ch0 K) none := by
    refine ⟨(C _ (fun h => h.1.2.1 rfl) (fun h => h.1.2.2.1 rfl)).grow hb1, ⟨0, [], none, none, 0, 0, 0, 0, xm, OwnO.nil _ _ _, fun j it h => (by simp [ch0] at h), PathIs.nil _ _, PathIs.nil _ _, fun h => h.1.2.2.2 rfl, fun ad e => by cases e⟩, by omega, fun x hx => hf.out x (by omega)⟩
  have hbw1 := G.trans hb3 hb1
  replace hP1 := Lib.hid hP1
  clear C lt3 hbb hrr hb3 xm hs1 hb1
  generalize hmb : w3.heap.size = mb at *
  go_wp2_with fail
  go_loopw [4, 5, 8] (fun cv mv iv wr => ∃ (k : Nat) (ch : Ch) (A : Option Addr), k ≤ n ∧ iv = .int .i64 k ∧ cv = .pointer (some ⟨b, 0, none⟩) ∧ mv = .pointer (some ⟨mb, 0, none⟩) ∧ PlayW ok w1.heap.size wr b r mb ch ch A ∧ Made K ch ∧ Below w.heap.size w wr) (fun _ _ iv _ => n - (intOf iv).toNat)
  case atStart => exact ⟨0, ch0 K, none, Nat.zero_le _, rfl, rfl, rfl, hP1.out, .new, hbw1⟩
  case round =>
    clear hP1 hbw1
    obtain ⟨k, ch, A, hk, rfl, rfl, rfl, hP, hM, hbr⟩ := hrel
    by_cases hlt : k < n
    · have hko : k < ops.length := by rw [hlen.out]; exact hlt
      obtain ⟨⟨kd, it⟩, hop⟩ : ∃ o, ops[k]? = some o := ⟨_, List.getElem?_eq_getElem hko⟩
      have hkk := hkd.out _ (List.mem_of_getElem? hop)
      dsimp only at hkk
      obtain ⟨cs, hch, hiv⟩ := (H.out.grow hbr).2.2 k kd it hop
      obtain ⟨cs0, hch0, hiv0⟩ := H.out.2.2 k kd it hop
      rw [hch] at hch0
      cases hch0
      obtain ⟨bx, ox, rfl, hbl, _, _, hcell⟩ := (H.out.grow hbr).1.at_ (by decide) hlt
      rw [hch] at hcell
      obtain ⟨z0, A5, n5, c5', z1, A6, n6, c6', z2, z3, z4, z5, A7, n7, c7', A8, n8, c8', A9, n9, c9', rfl⟩ := item_cells hiv
      have e0 : wr.cell? ⟨bx, ox + k * 12, none⟩ = _ := hcell 0 _ rfl
      have e1 := hcell 1 _ rfl
      have e2 := hcell 2 _ rfl
      have e3 := hcell 3 _ rfl
      have e4 := hcell 4 _ rfl
      have e5 := hcell 5 _ rfl
      have e6 := hcell 6 _ rfl
      have e7 := hcell 7 _ rfl
      have e8 := hcell 8 _ rfl
      have e9 := hcell 9 _ rfl
      have e10 := hcell 10 _ rfl
      have e11 := hcell 11 _ rfl
      have hItem : Hid (∀ wx A', Below w.heap.size w wx → (∀ ad, A' = some ad → w1.heap.size ≤ ad.block) → ItemV (OkM (okP b r mb ok) A') wx [.int .i64 z0, .slice A5 n5 c5', .int .i64 z1, .slice A6 n6 c6', .int .i64 z2, .int .i64 z3, .int .i64 z4, .string z5, .slice A7 n7 c7', .slice A8 n8 c8', .slice A9 n9 c9'] it) := fun wx A' hbx hA' => (hiv0.mono fun x hx ho => ⟨⟨ho, by have := hwb.out; omega, by have := hwb.out; omega, by have := hwb.out; omega⟩, fun ad e => by have := hwb.out; have := hA' ad e; omega⟩).grow hbx
      have hq4 : Int.tmod kd 4 = 0 ∨ Int.tmod kd 4 = 1 ∨ Int.tmod kd 4 = 2 ∨ Int.tmod kd 4 = 3 := by
        rw [Int.tmod_eq_emod_of_nonneg hkk.1]; omega
      replace hP := Lib.hid hP
      replace hM := Lib.hid hM
      clear hcell hch hop hiv hiv0
      rcases hq4 with hq | hq | hq | hq
      · have hmd : Int.tmod kd 4 = 0 := hq
        obtain ⟨v, c', hpc⟩ : ∃ v c', putC (chkI (zeroC [.int .i64 z0, .slice A5 n5 c5', .int .i64 z1, .slice A6 n6 c6', .int .i64 z2, .int .i64 z3, .int .i64 z4, .string z5, .slice A7 n7 c7', .slice A8 n8 c8', .slice A9 n9 c9']) it) ch it = (v, c') := ⟨_, _, rfl⟩
        have HMN : Made K c' := by have := hM.out.put (zeroC [.int .i64 z0, .slice A5 n5 c5', .int .i64 z1, .slice A6 n6 c6', .int .i64 z2, .int .i64 z3, .int .i64 z4, .string z5, .slice A7 n7 c7', .slice A8 n8 c8', .slice A9 n9 c9']) it; rw [hpc] at this; exact this
        replace hpc := Lib.hid hpc
        go_wp2_with fail
        refine wp_name (fun wx => Below wr.heap.size wr wx ∧ Bx wx wr.heap.size [.int .u8 kd, .int .i64 z0, .slice A5 n5 c5', .int .i64 z1, .slice A6 n6 c6', .int .i64 z2, .int .i64 z3, .int .i64 z4, .string z5, .slice A7 n7 c7', .slice A8 n8 c8', .slice A9 n9 c9']) ⟨by repeat (first | with_reducible assumption | with_reducible exact G.refl _ | with_reducible refine G.drew ?_ | with_reducible refine G.drewN ?_ _ | with_reducible refine G.alloc ?_ _ | with_reducible refine Below.setCell ?_ (by first | (simp; done) | (simp; omega)) _ | with_reducible refine G.trans ?_ hb12 | with_reducible refine G.trans ?_ hb11 | with_reducible refine G.trans ?_ hb10 | with_reducible refine G.trans ?_ hb9 | with_reducible refine G.trans ?_ hb8 | with_reducible refine G.trans ?_ hb7 | with_reducible refine G.trans ?_ hb6 | with_reducible refine G.trans ?_ hb5 | with_reducible refine G.trans ?_ hb4 | with_reducible refine G.trans ?_ hb3 | with_reducible refine G.trans ?_ hb2 | with_reducible refine G.trans ?_ hb1 | with_reducible refine G.trans ?_ hb | assumption), by repeat (first | with_reducible assumption | (with_reducible exact Bx.new (by simp; done) (by rfl)) | (with_reducible refine Bx.alloc ?_ _) | (with_reducible refine Bx.drewN ?_ _) | ((with_reducible apply Bx.put); rotate_right; (first | rfl | skip)) | (with_reducible refine Bx.other ?_ (by first | (simp; done) | (simp; omega)) _))⟩ ?_
        rintro w4 ⟨hb4, x⟩
        have hp4 := Lib.hid (hP.out.grow hb4)
        have hap := Lib.hid (hP.out.apart (Nat.le_refl wr.heap.size))
        have hbw4 := G.trans hbr hb4
        clear e0 e1 e2 e3 e4 e5 e6 e7 e8 e9 e10 e11
        refine wp_region_ordD [(0, 0), (1, 0), (2, 0), (4, 0), (5, 0), (6, 0), (3, 3), (7, 3), (8, 0)] [3, 7] 5 (fun wq => Bx wq wr.heap.size [.int .u8 kd, .int .i64 z0, .slice A5 n5 c5', .int .i64 z1, .slice A6 n6 c6', .int .i64 z2, .int .i64 z3, .int .i64 z4, .string z5, .slice A7 n7 c7', .slice A8 n8 c8', .slice A9 n9 c9']) (by kernel_rfl) (by decide +kernel) ?_
        simp only [pickO, List.append_eq, List.cons_append, List.nil_append, List.getElem?_cons_succ, List.getElem?_cons_zero]
        intro w0 hG
        have hD := x.grow hG.b
        refine ⟨hD, ?_⟩
        (repeat ((first | (with_reducible refine ord_q1D ?_) | (with_reducible refine ord_q0D ?_)); intro K hK; first | (refine Or.inr ⟨?_, ?_⟩; (focus (go_simp; first | done | (simp [undef]; done))); go_simp; (with_reducible refine hK _ ?_); clear hK K) | (refine Or.inl ⟨?_, ?_⟩; (focus (go_simp; done)); apply Exists.intro; refine And.intro ?_ ?_; (focus (first | (intro wq hq; have hcf := G.old hq; obtain ⟨hcq, hfq⟩ := hcf; go_simp; (first | done | exact rfl); done) | (intro wq hq; have d1 := (hq.2 1 _ rfl).1; have d2 := (hq.2 2 _ rfl).1; have d3 := (hq.2 3 _ rfl).1; have d4 := (hq.2 4 _ rfl).1; have d5 := (hq.2 5 _ rfl).1; have d6 := (hq.2 6 _ rfl).1; have d7 := (hq.2 7 _ rfl).1; have d8 := (hq.2 8 _ rfl).1; have d9 := (hq.2 9 _ rfl).1; have d10 := (hq.2 10 _ rfl).1; have d11 := (hq.2 11 _ rfl).1; have dlt := hq.lt; go_simp; (first | done | exact rfl); done))); go_simp; (with_reducible refine hK _ ?_); clear hK K) | fail))
        have hGb := hG.b
        have hp5 := hp4.out.grow hGb
        have hbw5 := G.trans hbw4 hGb
        (with_reducible refine ord_tailD hD ?_)
        intro K hK
        go_simp
        go_at_call 22; (with_reducible refine (cputP hp5 (hItem.out w0 A hbw5 hp5.row) hpc.out).mono ?_); rintro e6 w6 ⟨rfl, hp6, hc6⟩; have hD' := hap.out.chan hD hc6
        replace hD := hD'
        clear hD'
        (try dsimp only)
        (with_reducible refine hK _ _ hD ?_)
        clear hK K
        (repeat ((first | (with_reducible refine ord_q1D ?_) | (with_reducible refine ord_q0D ?_)); intro K hK; first | (refine Or.inr ⟨?_, ?_⟩; (focus (go_simp; first | done | (simp [undef]; done))); go_simp; (with_reducible refine hK _ ?_); clear hK K) | (refine Or.inl ⟨?_, ?_⟩; (focus (go_simp; done)); apply Exists.intro; refine And.intro ?_ ?_; (focus (first | (intro wq hq; have hcf := G.old hq; obtain ⟨hcq, hfq⟩ := hcf; go_simp; (first | done | exact rfl); done) | (intro wq hq; have d1 := (hq.2 1 _ rfl).1; have d2 := (hq.2 2 _ rfl).1; have d3 := (hq.2 3 _ rfl).1; have d4 := (hq.2 4 _ rfl).1; have d5 := (hq.2 5 _ rfl).1; have d6 := (hq.2 6 _ rfl).1; have d7 := (hq.2 7 _ rfl).1; have d8 := (hq.2 8 _ rfl).1; have d9 := (hq.2 9 _ rfl).1; have d10 := (hq.2 10 _ rfl).1; have d11 := (hq.2 11 _ rfl).1; have dlt := hq.lt; go_simp; (first | done | exact rfl); done))); go_simp; (with_reducible refine hK _ ?_); clear hK K) | fail))
        have hbw6 := hbw5.trans (hp5.cbelow hc6 hwb.out.2.2.2 hwb.out.1 hwb.out.2.1)
        (with_reducible refine ord_tailD hD ?_)
        intro K hK
        go_simp
        go_at_call 51; (with_reducible refine (mputP hp6 hM.out hK2 (hItem.out w6 A hbw6 hp6.row) hpc.out).mono ?_); rintro e7 w7 ⟨rfl, hc7, A7', hp7⟩; have hD' := hap.out.model hD hc7
        replace hD := hD'
        clear hD'
        (try dsimp only)
        (with_reducible refine hK _ _ hD ?_)
        clear hK K
        (repeat ((first | (with_reducible refine ord_q1D ?_) | (with_reducible refine ord_q0D ?_)); intro K hK; first | (refine Or.inr ⟨?_, ?_⟩; (focus (go_simp; first | done | (simp [undef]; done))); go_simp; (with_reducible refine hK _ ?_); clear hK K) | (refine Or.inl ⟨?_, ?_⟩; (focus (go_simp; done)); apply Exists.intro; refine And.intro ?_ ?_; (focus (first | (intro wq hq; have hcf := G.old hq; obtain ⟨hcq, hfq⟩ := hcf; go_simp; (first | done | exact rfl); done) | (intro wq hq; have d1 := (hq.2 1 _ rfl).1; have d2 := (hq.2 2 _ rfl).1; have d3 := (hq.2 3 _ rfl).1; have d4 := (hq.2 4 _ rfl).1; have d5 := (hq.2 5 _ rfl).1; have d6 := (hq.2 6 _ rfl).1; have d7 := (hq.2 7 _ rfl).1; have d8 := (hq.2 8 _ rfl).1; have d9 := (hq.2 9 _ rfl).1; have d10 := (hq.2 10 _ rfl).1; have d11 := (hq.2 11 _ rfl).1; have dlt := hq.lt; go_simp; (first | done | exact rfl); done))); go_simp; (with_reducible refine hK _ ?_); clear hK K) | fail))
        (with_reducible refine ord_nilD ?_)
        have hbw7 := hbw6.trans (hp6.mbelow hc7 hwb.out.2.2.2 hwb.out.2.2.1)
        have FIN := Lib.hid (And.intro (hp7) (hbw7))
        clear hP hp4
        go_wp2_with fail
        refine (isP FIN.out.1).mono ?_
        rintro e9 w9 ⟨rfl, hb9⟩
        go_wp2_with fail
        go_roundw
        case rel => exact ⟨k + 1, _, _, by omega, by go_num, rfl, rfl, FIN.out.1.grow hb9, HMN, G.trans FIN.out.2 hb9⟩
        case measure => simp [intOf]; omega
      · have hmd : Int.tmod kd 4 = 1 := hq
        obtain ⟨v, c', hpc⟩ : ∃ v c', putC (chkI (zeroC [.int .i64 z0, .slice A5 n5 c5', .int .i64 z1, .slice A6 n6 c6', .int .i64 z2, .int .i64 z3, .int .i64 z4, .string z5, .slice A7 n7 c7', .slice A8 n8 c8', .slice A9 n9 c9']) it) ch it = (v, c') := ⟨_, _, rfl⟩
        have HMN : Made K c' := by have := hM.out.put (zeroC [.int .i64 z0, .slice A5 n5 c5', .int .i64 z1, .slice A6 n6 c6', .int .i64 z2, .int .i64 z3, .int .i64 z4, .string z5, .slice A7 n7 c7', .slice A8 n8 c8', .slice A9 n9 c9']) it; rw [hpc] at this; exact this
        replace hpc := Lib.hid hpc
        go_wp2_with fail
        refine wp_name (fun wx => Below wr.heap.size wr wx ∧ Bx wx wr.heap.size [.int .u8 kd, .int .i64 z0, .slice A5 n5 c5', .int .i64 z1, .slice A6 n6 c6', .int .i64 z2, .int .i64 z3, .int .i64 z4, .string z5, .slice A7 n7 c7', .slice A8 n8 c8', .slice A9 n9 c9']) ⟨by repeat (first | with_reducible assumption | with_reducible exact G.refl _ | with_reducible refine G.drew ?_ | with_reducible refine G.drewN ?_ _ | with_reducible refine G.alloc ?_ _ | with_reducible refine Below.setCell ?_ (by first | (simp; done) | (simp; omega)) _ | with_reducible refine G.trans ?_ hb12 | with_reducible refine G.trans ?_ hb11 | with_reducible refine G.trans ?_ hb10 | with_reducible refine G.trans ?_ hb9 | with_reducible refine G.trans ?_ hb8 | with_reducible refine G.trans ?_ hb7 | with_reducible refine G.trans ?_ hb6 | with_reducible refine G.trans ?_ hb5 | with_reducible refine G.trans ?_ hb4 | with_reducible refine G.trans ?_ hb3 | with_reducible refine G.trans ?_ hb2 | with_reducible refine G.trans ?_ hb1 | with_reducible refine G.trans ?_ hb | assumption), by repeat (first | with_reducible assumption | (with_reducible exact Bx.new (by simp; done) (by rfl)) | (with_reducible refine Bx.alloc ?_ _) | (with_reducible refine Bx.drewN ?_ _) | ((with_reducible apply Bx.put); rotate_right; (first | rfl | skip)) | (with_reducible refine Bx.other ?_ (by first | (simp; done) | (simp; omega)) _))⟩ ?_
        rintro w4 ⟨hb4, x⟩
        have hp4 := Lib.hid (hP.out.grow hb4)
        have hap := Lib.hid (hP.out.apart (Nat.le_refl wr.heap.size))
        have hbw4 := G.trans hbr hb4
        clear e0 e1 e2 e3 e4 e5 e6 e7 e8 e9 e10 e11
        refine wp_region_ordD [(0, 0), (1, 0), (2, 0), (4, 0), (5, 0), (6, 0), (3, 3), (7, 3), (8, 0)] [3, 7] 5 (fun wq => Bx wq wr.heap.size [.int .u8 kd, .int .i64 z0, .slice A5 n5 c5', .int .i64 z1, .slice A6 n6 c6', .int .i64 z2, .int .i64 z3, .int .i64 z4, .string z5, .slice A7 n7 c7', .slice A8 n8 c8', .slice A9 n9 c9']) (by kernel_rfl) (by decide +kernel) ?_
        simp only [pickO, List.append_eq, List.cons_append, List.nil_append, List.getElem?_cons_succ, List.getElem?_cons_zero]
        intro w0 hG
        have hD := x.grow hG.b
        refine ⟨hD, ?_⟩
        (repeat ((first | (with_reducible refine ord_q1D ?_) | (with_reducible refine ord_q0D ?_)); intro K hK; first | (refine Or.inr ⟨?_, ?_⟩; (focus (go_simp; first | done | (simp [undef]; done))); go_simp; (with_reducible refine hK _ ?_); clear hK K) | (refine Or.inl ⟨?_, ?_⟩; (focus (go_simp; done)); apply Exists.intro; refine And.intro ?_ ?_; (focus (first | (intro wq hq; have hcf := G.old hq; obtain ⟨hcq, hfq⟩ := hcf; go_simp; (first | done | exact rfl); done) | (intro wq hq; have d1 := (hq.2 1 _ rfl).1; have d2 := (hq.2 2 _ rfl).1; have d3 := (hq.2 3 _ rfl).1; have d4 := (hq.2 4 _ rfl).1; have d5 := (hq.2 5 _ rfl).1; have d6 := (hq.2 6 _ rfl).1; have d7 := (hq.2 7 _ rfl).1; have d8 := (hq.2 8 _ rfl).1; have d9 := (hq.2 9 _ rfl).1; have d10 := (hq.2 10 _ rfl).1; have d11 := (hq.2 11 _ rfl).1; have dlt := hq.lt; go_simp; (first | done | exact rfl); done))); go_simp; (with_reducible refine hK _ ?_); clear hK K) | fail))
        have hGb := hG.b
        have hp5 := hp4.out.grow hGb
        have hbw5 := G.trans hbw4 hGb
        (with_reducible refine ord_tailD hD ?_)
        intro K hK
        go_simp
        go_at_call 22; (with_reducible refine (cputP hp5 (hItem.out w0 A hbw5 hp5.row) hpc.out).mono ?_); rintro e6 w6 ⟨rfl, hp6, hc6⟩; have hD' := hap.out.chan hD hc6
        replace hD := hD'
        clear hD'
        (try dsimp only)
        (with_reducible refine hK _ _ hD ?_)
        clear hK K
        (repeat ((first | (with_reducible refine ord_q1D ?_) | (with_reducible refine ord_q0D ?_)); intro K hK; first | (refine Or.inr ⟨?_, ?_⟩; (focus (go_simp; first | done | (simp [undef]; done))); go_simp; (with_reducible refine hK _ ?_); clear hK K) | (refine Or.inl ⟨?_, ?_⟩; (focus (go_simp; done)); apply Exists.intro; refine And.intro ?_ ?_; (focus (first | (intro wq hq; have hcf := G.old hq; obtain ⟨hcq, hfq⟩ := hcf; go_simp; (first | done | exact rfl); done) | (intro wq hq; have d1 := (hq.2 1 _ rfl).1; have d2 := (hq.2 2 _ rfl).1; have d3 := (hq.2 3 _ rfl).1; have d4 := (hq.2 4 _ rfl).1; have d5 := (hq.2 5 _ rfl).1; have d6 := (hq.2 6 _ rfl).1; have d7 := (hq.2 7 _ rfl).1; have d8 := (hq.2 8 _ rfl).1; have d9 := (hq.2 9 _ rfl).1; have d10 := (hq.2 10 _ rfl).1; have d11 := (hq.2 11 _ rfl).1; have dlt := hq.lt; go_simp; (first | done | exact rfl); done))); go_simp; (with_reducible refine hK _ ?_); clear hK K) | fail))
        have hbw6 := hbw5.trans (hp5.cbelow hc6 hwb.out.2.2.2 hwb.out.1 hwb.out.2.1)
        (with_reducible refine ord_tailD hD ?_)
        intro K hK
        go_simp
        go_at_call 51; (with_reducible refine (mputP hp6 hM.out hK2 (hItem.out w6 A hbw6 hp6.row) hpc.out).mono ?_); rintro e7 w7 ⟨rfl, hc7, A7', hp7⟩; have hD' := hap.out.model hD hc7
        replace hD := hD'
        clear hD'
        (try dsimp only)
        (with_reducible refine hK _ _ hD ?_)
        clear hK K
        (repeat ((first | (with_reducible refine ord_q1D ?_) | (with_reducible refine ord_q0D ?_)); intro K hK; first | (refine Or.inr ⟨?_, ?_⟩; (focus (go_simp; first | done | (simp [undef]; done))); go_simp; (with_reducible refine hK _ ?_); clear hK K) | (refine Or.inl ⟨?_, ?_⟩; (focus (go_simp; done)); apply Exists.intro; refine And.intro ?_ ?_; (focus (first | (intro wq hq; have hcf := G.old hq; obtain ⟨hcq, hfq⟩ := hcf; go_simp; (first | done | exact rfl); done) | (intro wq hq; have d1 := (hq.2 1 _ rfl).1; have d2 := (hq.2 2 _ rfl).1; have d3 := (hq.2 3 _ rfl).1; have d4 := (hq.2 4 _ rfl).1; have d5 := (hq.2 5 _ rfl).1; have d6 := (hq.2 6 _ rfl).1; have d7 := (hq.2 7 _ rfl).1; have d8 := (hq.2 8 _ rfl).1; have d9 := (hq.2 9 _ rfl).1; have d10 := (hq.2 10 _ rfl).1; have d11 := (hq.2 11 _ rfl).1; have dlt := hq.lt; go_simp; (first | done | exact rfl); done))); go_simp; (with_reducible refine hK _ ?_); clear hK K) | fail))
        (with_reducible refine ord_nilD ?_)
        have hbw7 := hbw6.trans (hp6.mbelow hc7 hwb.out.2.2.2 hwb.out.2.2.1)
        have FIN := Lib.hid (And.intro (hp7) (hbw7))
        clear hP hp4
        go_wp2_with fail
        refine (isP FIN.out.1).mono ?_
        rintro e9 w9 ⟨rfl, hb9⟩
        go_wp2_with fail
        go_roundw
        case rel => exact ⟨k + 1, _, _, by omega, by go_num, rfl, rfl, FIN.out.1.grow hb9, HMN, G.trans FIN.out.2 hb9⟩
        case measure => simp [intOf]; omega
      · have hmd : Int.tmod kd 4 = 2 := hq
        obtain ⟨v, c', hpc⟩ : ∃ v c', advC ch it.e it.p = (v, c') := ⟨_, _, rfl⟩
        have HMN : Made K c' := by have := hM.out.adv it.e it.p; rw [hpc] at this; exact this
        replace hpc := Lib.hid hpc
        go_wp2_with fail
        refine wp_name (fun wx => Below wr.heap.size wr wx ∧ Bx wx wr.heap.size [.int .u8 kd, .int .i64 z0, .slice A5 n5 c5', .int .i64 z1, .slice A6 n6 c6', .int .i64 z2, .int .i64 z3, .int .i64 z4, .string z5, .slice A7 n7 c7', .slice A8 n8 c8', .slice A9 n9 c9']) ⟨by repeat (first | with_reducible assumption | with_reducible exact G.refl _ | with_reducible refine G.drew ?_ | with_reducible refine G.drewN ?_ _ | with_reducible refine G.alloc ?_ _ | with_reducible refine Below.setCell ?_ (by first | (simp; done) | (simp; omega)) _ | with_reducible refine G.trans ?_ hb12 | with_reducible refine G.trans ?_ hb11 | with_reducible refine G.trans ?_ hb10 | with_reducible refine G.trans ?_ hb9 | with_reducible refine G.trans ?_ hb8 | with_reducible refine G.trans ?_ hb7 | with_reducible refine G.trans ?_ hb6 | with_reducible refine G.trans ?_ hb5 | with_reducible refine G.trans ?_ hb4 | with_reducible refine G.trans ?_ hb3 | with_reducible refine G.trans ?_ hb2 | with_reducible refine G.trans ?_ hb1 | with_reducible refine G.trans ?_ hb | assumption), by repeat (first | with_reducible assumption | (with_reducible exact Bx.new (by simp; done) (by rfl)) | (with_reducible refine Bx.alloc ?_ _) | (with_reducible refine Bx.drewN ?_ _) | ((with_reducible apply Bx.put); rotate_right; (first | rfl | skip)) | (with_reducible refine Bx.other ?_ (by first | (simp; done) | (simp; omega)) _))⟩ ?_
        rintro w4 ⟨hb4, x⟩
        have hp4 := Lib.hid (hP.out.grow hb4)
        have hap := Lib.hid (hP.out.apart (Nat.le_refl wr.heap.size))
        have hbw4 := G.trans hbr hb4
        clear e0 e1 e2 e3 e4 e5 e6 e7 e8 e9 e10 e11
        refine wp_region_ordD [(0, 0), (1, 0), (2, 0), (5, 0), (6, 0), (7, 0), (3, 3), (4, 3), (8, 3), (9, 3), (10, 0)] [3, 4, 8, 9] 5 (fun wq => Bx wq wr.heap.size [.int .u8 kd, .int .i64 z0, .slice A5 n5 c5', .int .i64 z1, .slice A6 n6 c6', .int .i64 z2, .int .i64 z3, .int .i64 z4, .string z5, .slice A7 n7 c7', .slice A8 n8 c8', .slice A9 n9 c9']) (by kernel_rfl) (by decide +kernel) ?_
        simp only [pickO, List.append_eq, List.cons_append, List.nil_append, List.getElem?_cons_succ, List.getElem?_cons_zero]
        intro w0 hG
        have hD := x.grow hG.b
        refine ⟨hD, ?_⟩
        (repeat ((first | (with_reducible refine ord_q1D ?_) | (with_reducible refine ord_q0D ?_)); intro K hK; first | (refine Or.inr ⟨?_, ?_⟩; (focus (go_simp; first | done | (simp [undef]; done))); go_simp; (with_reducible refine hK _ ?_); clear hK K) | (refine Or.inl ⟨?_, ?_⟩; (focus (go_simp; done)); apply Exists.intro; refine And.intro ?_ ?_; (focus (first | (intro wq hq; have hcf := G.old hq; obtain ⟨hcq, hfq⟩ := hcf; go_simp; (first | done | exact rfl); done) | (intro wq hq; have d1 := (hq.2 1 _ rfl).1; have d2 := (hq.2 2 _ rfl).1; have d3 := (hq.2 3 _ rfl).1; have d4 := (hq.2 4 _ rfl).1; have d5 := (hq.2 5 _ rfl).1; have d6 := (hq.2 6 _ rfl).1; have d7 := (hq.2 7 _ rfl).1; have d8 := (hq.2 8 _ rfl).1; have d9 := (hq.2 9 _ rfl).1; have d10 := (hq.2 10 _ rfl).1; have d11 := (hq.2 11 _ rfl).1; have dlt := hq.lt; go_simp; (first | done | exact rfl); done))); go_simp; (with_reducible refine hK _ ?_); clear hK K) | fail))
        have hGb := hG.b
        have hp5 := hp4.out.grow hGb
        have hbw5 := G.trans hbw4 hGb
        (with_reducible refine ord_tailD hD ?_)
        intro K hK
        go_simp
        go_at_call 17; (with_reducible refine (of_any (hItem.out w0 A hbw5 hp5.row)).mono ?_); rintro e6 w6 ⟨X6, m6, d6, rfl, hq6, hb6⟩; have hD' := Bx.grow hD hb6
        replace hD := hD'
        clear hD'
        (try dsimp only)
        (with_reducible refine hK _ _ hD ?_)
        clear hK K
        (repeat ((first | (with_reducible refine ord_q1D ?_) | (with_reducible refine ord_q0D ?_)); intro K hK; first | (refine Or.inr ⟨?_, ?_⟩; (focus (go_simp; first | done | (simp [undef]; done))); go_simp; (with_reducible refine hK _ ?_); clear hK K) | (refine Or.inl ⟨?_, ?_⟩; (focus (go_simp; done)); apply Exists.intro; refine And.intro ?_ ?_; (focus (first | (intro wq hq; have hcf := G.old hq; obtain ⟨hcq, hfq⟩ := hcf; go_simp; (first | done | exact rfl); done) | (intro wq hq; have d1 := (hq.2 1 _ rfl).1; have d2 := (hq.2 2 _ rfl).1; have d3 := (hq.2 3 _ rfl).1; have d4 := (hq.2 4 _ rfl).1; have d5 := (hq.2 5 _ rfl).1; have d6 := (hq.2 6 _ rfl).1; have d7 := (hq.2 7 _ rfl).1; have d8 := (hq.2 8 _ rfl).1; have d9 := (hq.2 9 _ rfl).1; have d10 := (hq.2 10 _ rfl).1; have d11 := (hq.2 11 _ rfl).1; have dlt := hq.lt; go_simp; (first | done | exact rfl); done))); go_simp; (with_reducible refine hK _ ?_); clear hK K) | fail))
        have hp6 := hp5.grow hb6
        have hbw6 := G.trans hbw5 hb6
        (with_reducible refine ord_tailD hD ?_)
        intro K hK
        go_simp
        go_at_call 19; (with_reducible refine (cadvP hp6 hq6 hpc.out).mono ?_); rintro e7 w7 ⟨rfl, hp7, hc7⟩; have hD' := hap.out.chan hD hc7
        replace hD := hD'
        clear hD'
        (try dsimp only)
        (with_reducible refine hK _ _ hD ?_)
        clear hK K
        (repeat ((first | (with_reducible refine ord_q1D ?_) | (with_reducible refine ord_q0D ?_)); intro K hK; first | (refine Or.inr ⟨?_, ?_⟩; (focus (go_simp; first | done | (simp [undef]; done))); go_simp; (with_reducible refine hK _ ?_); clear hK K) | (refine Or.inl ⟨?_, ?_⟩; (focus (go_simp; done)); apply Exists.intro; refine And.intro ?_ ?_; (focus (first | (intro wq hq; have hcf := G.old hq; obtain ⟨hcq, hfq⟩ := hcf; go_simp; (first | done | exact rfl); done) | (intro wq hq; have d1 := (hq.2 1 _ rfl).1; have d2 := (hq.2 2 _ rfl).1; have d3 := (hq.2 3 _ rfl).1; have d4 := (hq.2 4 _ rfl).1; have d5 := (hq.2 5 _ rfl).1; have d6 := (hq.2 6 _ rfl).1; have d7 := (hq.2 7 _ rfl).1; have d8 := (hq.2 8 _ rfl).1; have d9 := (hq.2 9 _ rfl).1; have d10 := (hq.2 10 _ rfl).1; have d11 := (hq.2 11 _ rfl).1; have dlt := hq.lt; go_simp; (first | done | exact rfl); done))); go_simp; (with_reducible refine hK _ ?_); clear hK K) | fail))
        have hbw7 := hbw6.trans (hp6.cbelow hc7 hwb.out.2.2.2 hwb.out.1 hwb.out.2.1)
        (with_reducible refine ord_tailD hD ?_)
        intro K hK
        go_simp
        go_at_call 17; (with_reducible refine (of_any (hItem.out w7 A hbw7 hp7.row)).mono ?_); rintro e8 w8 ⟨X8, m8, d8, rfl, hq8, hb8⟩; have hD' := Bx.grow hD hb8
        replace hD := hD'
        clear hD'
        (try dsimp only)
        (with_reducible refine hK _ _ hD ?_)
        clear hK K
        (repeat ((first | (with_reducible refine ord_q1D ?_) | (with_reducible refine ord_q0D ?_)); intro K hK; first | (refine Or.inr ⟨?_, ?_⟩; (focus (go_simp; first | done | (simp [undef]; done))); go_simp; (with_reducible refine hK _ ?_); clear hK K) | (refine Or.inl ⟨?_, ?_⟩; (focus (go_simp; done)); apply Exists.intro; refine And.intro ?_ ?_; (focus (first | (intro wq hq; have hcf := G.old hq; obtain ⟨hcq, hfq⟩ := hcf; go_simp; (first | done | exact rfl); done) | (intro wq hq; have d1 := (hq.2 1 _ rfl).1; have d2 := (hq.2 2 _ rfl).1; have d3 := (hq.2 3 _ rfl).1; have d4 := (hq.2 4 _ rfl).1; have d5 := (hq.2 5 _ rfl).1; have d6 := (hq.2 6 _ rfl).1; have d7 := (hq.2 7 _ rfl).1; have d8 := (hq.2 8 _ rfl).1; have d9 := (hq.2 9 _ rfl).1; have d10 := (hq.2 10 _ rfl).1; have d11 := (hq.2 11 _ rfl).1; have dlt := hq.lt; go_simp; (first | done | exact rfl); done))); go_simp; (with_reducible refine hK _ ?_); clear hK K) | fail))
        have hp8 := hp7.grow hb8
        have hbw8 := G.trans hbw7 hb8
        (with_reducible refine ord_tailD hD ?_)
        intro K hK
        go_simp
        go_at_call 52; (with_reducible refine (madvP hp8 hq8 hpc.out).mono ?_); rintro e9 w9 ⟨rfl, hc9, hp9⟩; have hD' := hap.out.model hD hc9
        replace hD := hD'
        clear hD'
        (try dsimp only)
        (with_reducible refine hK _ _ hD ?_)
        clear hK K
        (repeat ((first | (with_reducible refine ord_q1D ?_) | (with_reducible refine ord_q0D ?_)); intro K hK; first | (refine Or.inr ⟨?_, ?_⟩; (focus (go_simp; first | done | (simp [undef]; done))); go_simp; (with_reducible refine hK _ ?_); clear hK K) | (refine Or.inl ⟨?_, ?_⟩; (focus (go_simp; done)); apply Exists.intro; refine And.intro ?_ ?_; (focus (first | (intro wq hq; have hcf := G.old hq; obtain ⟨hcq, hfq⟩ := hcf; go_simp; (first | done | exact rfl); done) | (intro wq hq; have d1 := (hq.2 1 _ rfl).1; have d2 := (hq.2 2 _ rfl).1; have d3 := (hq.2 3 _ rfl).1; have d4 := (hq.2 4 _ rfl).1; have d5 := (hq.2 5 _ rfl).1; have d6 := (hq.2 6 _ rfl).1; have d7 := (hq.2 7 _ rfl).1; have d8 := (hq.2 8 _ rfl).1; have d9 := (hq.2 9 _ rfl).1; have d10 := (hq.2 10 _ rfl).1; have d11 := (hq.2 11 _ rfl).1; have dlt := hq.lt; go_simp; (first | done | exact rfl); done))); go_simp; (with_reducible refine hK _ ?_); clear hK K) | fail))
        (with_reducible refine ord_nilD ?_)
        have hbw9 := hbw8.trans (hp8.mbelow hc9 hwb.out.2.2.2 hwb.out.2.2.1)
        have FIN := Lib.hid (And.intro (hp9) (hbw9))
        clear hP hp4
        go_wp2_with fail
        refine (isP FIN.out.1).mono ?_
        rintro e10 w10 ⟨rfl, hb10⟩
        go_wp2_with fail
        go_roundw
        case rel => exact ⟨k + 1, _, _, by omega, by go_num, rfl, rfl, FIN.out.1.grow hb10, HMN, G.trans FIN.out.2 hb10⟩
        case measure => simp [intOf]; omega
      · have hmd : Int.tmod kd 4 = 3 := hq
        clear hItem
        rcases hcit : ch.items with _ | ⟨it0, l0⟩
        · go_wp2_with fail
          refine (take0_any (hP.out.grow (by repeat (first | with_reducible assumption | with_reducible exact G.refl _ | with_reducible refine G.drew ?_ | with_reducible refine G.drewN ?_ _ | with_reducible refine G.alloc ?_ _ | with_reducible refine Below.setCell ?_ (by first | (simp; done) | (simp; omega)) _ | with_reducible refine G.trans ?_ hb12 | with_reducible refine G.trans ?_ hb11 | with_reducible refine G.trans ?_ hb10 | with_reducible refine G.trans ?_ hb9 | with_reducible refine G.trans ?_ hb8 | with_reducible refine G.trans ?_ hb7 | with_reducible refine G.trans ?_ hb6 | with_reducible refine G.trans ?_ hb5 | with_reducible refine G.trans ?_ hb4 | with_reducible refine G.trans ?_ hb3 | with_reducible refine G.trans ?_ hb2 | with_reducible refine G.trans ?_ hb1 | with_reducible refine G.trans ?_ hb | assumption))).chn hcit).mono ?_
          rintro e4 w4 ⟨rfl, hb4⟩
          have hb4' : Below wr.heap.size wr w4 := G.trans (by repeat (first | with_reducible assumption | with_reducible exact G.refl _ | with_reducible refine G.drew ?_ | with_reducible refine G.drewN ?_ _ | with_reducible refine G.alloc ?_ _ | with_reducible refine Below.setCell ?_ (by first | (simp; done) | (simp; omega)) _ | with_reducible refine G.trans ?_ hb12 | with_reducible refine G.trans ?_ hb11 | with_reducible refine G.trans ?_ hb10 | with_reducible refine G.trans ?_ hb9 | with_reducible refine G.trans ?_ hb8 | with_reducible refine G.trans ?_ hb7 | with_reducible refine G.trans ?_ hb6 | with_reducible refine G.trans ?_ hb5 | with_reducible refine G.trans ?_ hb4 | with_reducible refine G.trans ?_ hb3 | with_reducible refine G.trans ?_ hb2 | with_reducible refine G.trans ?_ hb1 | with_reducible refine G.trans ?_ hb | assumption)) hb4
          have hp4 := hP.out.grow hb4'
          have hbw4 := G.trans hbr hb4'
          obtain ⟨q, P1, P2, n1, s1, n2, s2, hbx, _, _, _⟩ := hp4.mod.box
          have k1 := (hbx.2 1 _ rfl).1
          have ltb := hbx.lt
          have hl0 : ch.items.length = 0 := by rw [hcit]; rfl
          rw [hl0] at k1
          have HMN := hM.out
          replace hcit := Lib.hid hcit
          have hz : zeroP 0 0 0 0 (nullP 0 0 0 ⟨#[]⟩ 0 0) = true := zero_z
          replace hp4 := Lib.hid hp4
          clear e0 e1 e2 e3 e4 e5 e6 e7 e8 e9 e10 e11 hl0
          go_wp2_with fail
          refine (empty_any 0 0 0 0 0 _ none none none none 0 0 0 0 0 0 0 0 _).mono ?_
          rintro e5 w5 ⟨rfl, hb5⟩
          rw [hz]
          have hb45 : Below w4.heap.size w4 w5 := G.trans (by repeat (first | with_reducible assumption | with_reducible exact G.refl _ | with_reducible refine G.drew ?_ | with_reducible refine G.drewN ?_ _ | with_reducible refine G.alloc ?_ _ | with_reducible refine Below.setCell ?_ (by first | (simp; done) | (simp; omega)) _ | with_reducible refine G.trans ?_ hb12 | with_reducible refine G.trans ?_ hb11 | with_reducible refine G.trans ?_ hb10 | with_reducible refine G.trans ?_ hb9 | with_reducible refine G.trans ?_ hb8 | with_reducible refine G.trans ?_ hb7 | with_reducible refine G.trans ?_ hb6 | with_reducible refine G.trans ?_ hb5 | with_reducible refine G.trans ?_ hb4 | with_reducible refine G.trans ?_ hb3 | with_reducible refine G.trans ?_ hb2 | with_reducible refine G.trans ?_ hb1 | with_reducible refine G.trans ?_ hb | assumption)) hb5
          have hp5 := hp4.out.grow hb45
          have hbw5 := G.trans hbw4 hb45
          clear k1 ltb hbx
          have FIN := Lib.hid (And.intro (hp5) (hbw5))
          clear hP hp4
          go_wp2_with fail
          refine (isP FIN.out.1).mono ?_
          rintro e9 w9 ⟨rfl, hb9⟩
          go_wp2_with fail
          go_roundw
          case rel => exact ⟨k + 1, _, _, by omega, by go_num, rfl, rfl, FIN.out.1.grow hb9, HMN, G.trans FIN.out.2 hb9⟩
          case measure => simp [intOf]; omega

        · go_wp2_with fail
          refine calls_name (fun wx => Below wr.heap.size wr wx) (by repeat (first | with_reducible assumption | with_reducible exact G.refl _ | with_reducible refine G.drew ?_ | with_reducible refine G.drewN ?_ _ | with_reducible refine G.alloc ?_ _ | with_reducible refine Below.setCell ?_ (by first | (simp; done) | (simp; omega)) _ | with_reducible refine G.trans ?_ hb12 | with_reducible refine G.trans ?_ hb11 | with_reducible refine G.trans ?_ hb10 | with_reducible refine G.trans ?_ hb9 | with_reducible refine G.trans ?_ hb8 | with_reducible refine G.trans ?_ hb7 | with_reducible refine G.trans ?_ hb6 | with_reducible refine G.trans ?_ hb5 | with_reducible refine G.trans ?_ hb4 | with_reducible refine G.trans ?_ hb3 | with_reducible refine G.trans ?_ hb2 | with_reducible refine G.trans ?_ hb1 | with_reducible refine G.trans ?_ hb | assumption)) ?_
          intro w3' hb3'
          have hp3 := hP.out.grow hb3'
          have hbw3 := G.trans hbr hb3'
          refine (ctakeP hp3 hcit).mono ?_
          rintro e4 w4 ⟨cs4, rfl, hi4, hp4, hc4⟩
          have hbw4 := hbw3.trans (hp3.cbelow hc4 hwb.out.2.2.2 hwb.out.1 hwb.out.2.1)
          obtain ⟨x0, X5, m5, d5', x1, X6, m6, d6', x2, x3, x4, x5, X7, m7, d7', X8, m8, d8', X9, m9, d9', rfl⟩ := item_cells hi4
          have HMN := hM.out.take hcit
          have hlen0 : ch.items.length = l0.length + 1 := by rw [hcit]; rfl
          obtain ⟨q, P1, P2, n1, s1, n2, s2, hbx, _, _, _⟩ := hp4.mod.box
          have k1 := (hbx.2 1 _ rfl).1
          have ltb := hbx.lt
          rw [hlen0] at k1
          have hit0 : ch.items[0]? = some it0 := by rw [hcit]; rfl
          have hgt : ((l0.length + 1 : Nat) : Int) ≠ 0 := by omega
          have hgt2 : ¬ (l0.length + 1 = 0) := by omega
          replace hcit := Lib.hid hcit
          replace hit0 := Lib.hid hit0
          replace hp4 := Lib.hid hp4
          clear e0 e1 e2 e3 e4 e5 e6 e7 e8 e9 e10 e11 hp3 hc4 hb3' hP
          go_wp2_with fail
          refine wp_name (fun wx => Below w4.heap.size w4 wx ∧ Bx wx w4.heap.size [.int .i64 x0, .slice X5 m5 d5', .int .i64 x1, .slice X6 m6 d6', .int .i64 x2, .int .i64 x3, .int .i64 x4, .string x5, .slice X7 m7 d7', .slice X8 m8 d8', .slice X9 m9 d9']) ⟨by repeat (first | with_reducible assumption | with_reducible exact G.refl _ | with_reducible refine G.drew ?_ | with_reducible refine G.drewN ?_ _ | with_reducible refine G.alloc ?_ _ | with_reducible refine Below.setCell ?_ (by first | (simp; done) | (simp; omega)) _ | with_reducible refine G.trans ?_ hb12 | with_reducible refine G.trans ?_ hb11 | with_reducible refine G.trans ?_ hb10 | with_reducible refine G.trans ?_ hb9 | with_reducible refine G.trans ?_ hb8 | with_reducible refine G.trans ?_ hb7 | with_reducible refine G.trans ?_ hb6 | with_reducible refine G.trans ?_ hb5 | with_reducible refine G.trans ?_ hb4 | with_reducible refine G.trans ?_ hb3 | with_reducible refine G.trans ?_ hb2 | with_reducible refine G.trans ?_ hb1 | with_reducible refine G.trans ?_ hb | assumption), by repeat (first | with_reducible assumption | (with_reducible exact Bx.new (by simp; done) (by rfl)) | (with_reducible refine Bx.alloc ?_ _) | (with_reducible refine Bx.drewN ?_ _) | ((with_reducible apply Bx.put); rotate_right; (first | rfl | skip)) | (with_reducible refine Bx.other ?_ (by first | (simp; done) | (simp; omega)) _))⟩ ?_
          rintro w5 ⟨hb5, x⟩
          have hp5 := hp4.out.grow hb5
          have hbw5 := G.trans hbw4 hb5
          replace hi4 := Lib.hid (hi4.grow hb5)
          replace k1 := G.cell k1 hb5
          replace ltb := cell_lt k1
          obtain ⟨c0, c1, c2, c3, c4, c5, c6, c7, c8, c9, c10⟩ := x.c11
          have ltx := x.lt
          obtain ⟨g, off, y0, A15, n15, c15', y1, A16, n16, c16', y2, y3, y4, y5, A17, n17, c17', A18, n18, c18', A19, n19, c19', rfl, hgl, hiv, hch⟩ := hp5.mod.item hit0.out
          replace hiv := Lib.hid hiv
          have f0 := hch 0 _ rfl
          have f1 := hch 1 _ rfl
          have f2 := hch 2 _ rfl
          have f3 := hch 3 _ rfl
          have f4 := hch 4 _ rfl
          have f5 := hch 5 _ rfl
          have f6 := hch 6 _ rfl
          have f7 := hch 7 _ rfl
          have f8 := hch 8 _ rfl
          have f9 := hch 9 _ rfl
          have f10 := hch 10 _ rfl
          simp only [Nat.zero_mul, Nat.add_zero] at f0 f1 f2 f3 f4 f5 f6 f7 f8 f9 f10
          replace hp5 := Lib.hid hp5
          replace x := Lib.hid x
          clear hch hbx hp4 hb5
          refine wp_region_ord [(0, 1), (1, 1), (2, 1), (3, 1), (4, 1), (5, 1), (6, 1), (7, 1), (8, 1), (9, 1), (10, 2), (11, 1), (12, 1)] [] 5 (by kernel_rfl) (by decide +kernel) ?_
          simp only [pickO, List.append_eq, List.cons_append, List.nil_append, List.getElem?_cons_succ, List.getElem?_cons_zero]
          intro w0 hG
          (repeat ((first | (with_reducible refine ord_q1 ?_) | (with_reducible refine ord_q0 ?_)); intro K hK; first | (refine Or.inr ⟨?_, ?_⟩; (focus (go_simp; first | done | (simp [undef]; done))); go_simp; (with_reducible refine hK _ ?_); clear hK K) | (refine Or.inl ⟨?_, ?_⟩; (focus (go_simp; done)); apply Exists.intro; refine And.intro ?_ ?_; (focus (first | (intro wq hq; obtain ⟨hcq, hfq⟩ := G.old hq; go_simp; (first | done | exact rfl); done) | (intro wq; go_simp; (first | done | exact rfl); done))); go_simp; (with_reducible refine hK _ ?_); clear hK K) | fail))
          (with_reducible refine ord_run ?_ hG)
          intro K hK
          go_simp
          go_at_call 53; (with_reducible refine (same_any (hi4.out.grow hG.b) (hiv.out.grow hG.b)).mono ?_); rintro e6 w6 ⟨rfl, hb6⟩; rw [sameI_self]
          replace hG := Grew.trans hG hb6
          (try dsimp only)
          (with_reducible refine hK _ _ hG ?_)
          clear hK K
          (repeat ((first | (with_reducible refine ord_q1 ?_) | (with_reducible refine ord_q0 ?_)); intro K hK; first | (refine Or.inr ⟨?_, ?_⟩; (focus (go_simp; first | done | (simp [undef]; done))); go_simp; (with_reducible refine hK _ ?_); clear hK K) | (refine Or.inl ⟨?_, ?_⟩; (focus (go_simp; done)); apply Exists.intro; refine And.intro ?_ ?_; (focus (first | (intro wq hq; obtain ⟨hcq, hfq⟩ := G.old hq; go_simp; (first | done | exact rfl); done) | (intro wq; go_simp; (first | done | exact rfl); done))); go_simp; (with_reducible refine hK _ ?_); clear hK K) | fail))
          (with_reducible refine ord_nil ?_)
          have hbw6 := G.trans hbw5 hG.b
          have hp6 := hp5.out.grow hG.b
          obtain ⟨g', off', q', P1', n1', s1', P2', n2', s2', hAA, hbx', hlq, hqm, hp7⟩ := hp6.cut hcit.out
          cases hAA
          have hmbl := fun wx (hc : MChg mb (some ⟨g, off, none⟩) w6 wx) => hbw6.trans (hp6.mbelow hc hwb.out.2.2.2 hwb.out.2.2.1)
          clear f0 f1 f2 f3 f4 f5 f6 f7 f8 f9 f10 c0 c1 c2 c3 c4 c5 c6 c7 c8 c9 c10 hiv hi4 k1 ltb ltx x hG hp5 hp6 hit0
          obtain ⟨k1, g1⟩ := hbx'.2 1 _ rfl
          have ltb := hbx'.lt
          unfold maxLen at hqm
          replace hp7 := Lib.hid hp7
          replace hmbl := Lib.hid hmbl
          by_cases hq0 : q' = 0
          · subst hq0
            have hp8 := hp7.out off (.inl rfl)
            rw [show l0.length = 0 by omega] at hp8
            have FIN := Lib.hid (And.intro (hp8.1) (hmbl.out _ hp8.2))
            clear hp8
            go_wp2_with fail
            refine (isP FIN.out.1).mono ?_
            rintro e9 w9 ⟨rfl, hb9⟩
            go_wp2_with fail
            go_roundw
            case rel => exact ⟨k + 1, _, _, by omega, by go_num, rfl, rfl, FIN.out.1.grow hb9, HMN, G.trans FIN.out.2 hb9⟩
            case measure => simp [intOf]; omega

          · have hp8 := hp7.out (off + 11) (.inr rfl)
            have hq1 : 0 < q' := by omega
            have FIN := Lib.hid (And.intro (hp8.1) (hmbl.out _ hp8.2))
            clear hp8
            go_wp2_with fail
            refine (isP FIN.out.1).mono ?_
            rintro e9 w9 ⟨rfl, hb9⟩
            go_wp2_with fail
            go_roundw
            case rel => exact ⟨k + 1, _, _, by omega, by go_num, rfl, rfl, FIN.out.1.grow hb9, HMN, G.trans FIN.out.2 hb9⟩
            case measure => simp [intOf]; omega
    · go_wp2_with fail
      exact bodyPost_ret (v := .tuple #[.pointer (some ⟨b, 0, none⟩), .pointer (some ⟨mb, 0, none⟩), .bool true]) (by simp only [results, Try.results26]; go_simp) rfl ⟨b, r, mb, ch, A, w1.heap.size, rfl, hP, hM, hwb.out, hbr⟩
end Go.Proofs.Ytjldpodehffbnaa
