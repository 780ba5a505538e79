/- device laws: the model does what the device does (XRnS to XRnV). -/
import Derived.Test.YtphjgembpcikdaaRn9
import Derived.Test.YtphjgembpcikdaaVLim0
import Derived.Test.YtphjgembpcikdaaVEq
namespace Go.Proofs.Ytphjgembpcikdaa
set_option linter.unusedVariables false
set_option linter.unnecessarySimpa false
set_option linter.unusedSimpArgs false
open Go.RowKit

theorem bef_total {a b : List UInt8} (h : a ≠ b) : bytesBefore a b = true ∨ bytesBefore b a = true :=
  Go.ChangeMaps.before_total (a := .string a) (b := .string b) ⟨a, rfl⟩ ⟨b, rfl⟩ fun e => h (by injection e)
theorem bef_trans {a b c : List UInt8} (h : bytesBefore a b = true) (h2 : bytesBefore b c = true) : bytesBefore a c = true := Go.WideShapes.before_trans (a := .string a) (b := .string b) (c := .string c) h h2
theorem srt_uq : ∀ {l : List Fl}, Srt l → Uq l := fun h => h.imp fun {a b} hab e => by rw [e, before_irr] at hab; cases hab
/-- find and the lookup. -/
theorem find_lk : ∀ {l : List Fl} (n : List UInt8), Srt l → (lkC l n = none → (findL l n).2 = false) ∧ ∀ f, lkC l n = some f → (findL l n).2 = true ∧ l[(findL l n).1]? = some f
  | [], n, _ => ⟨fun _ => rfl, fun f h => by cases h⟩
  | y :: r, n, h => by
    obtain ⟨h1, h2⟩ := List.pairwise_cons.1 h
    have ih := find_lk n h2
    rcases hb : bytesBefore y.name n with _ | _
    · unfold findL
      rw [hb]
      simp only [Bool.false_eq_true, if_false]
      rcases hy : (y.name == n) with _ | _
      · have hne : y.name ≠ n := by simpa using hy
        have hny : bytesBefore n y.name = true := by
          rcases bef_total hne with h3 | h3
          · rw [hb] at h3; cases h3
          · exact h3
        have hno : lkC (y :: r) n = none := by
          unfold lkC
          rw [List.find?_eq_none]
          intro z hz e
          have ez := eq_of_beq e
          rcases List.mem_cons.1 hz with rfl | hz
          · exact hne ez
          · have := bef_trans hny (h1 z hz)
            rw [ez, before_irr] at this
            cases this
        refine ⟨fun _ => rfl, fun f hf => ?_⟩
        rw [hno] at hf
        cases hf
      · have hl : lkC (y :: r) n = some y := by
          unfold lkC
          rw [List.find?_cons]
          simp only [hy]
        refine ⟨fun hn => ?_, fun f hf => ?_⟩
        · rw [hl] at hn; cases hn
        · rw [hl] at hf; cases hf; exact ⟨rfl, rfl⟩
    · have hy : (y.name == n) = false := by
        rcases hy : (y.name == n) with _ | _
        · rfl
        · rw [eq_of_beq hy, before_irr] at hb; cases hb
      have hl : lkC (y :: r) n = lkC r n := by
        unfold lkC
        rw [List.find?_cons]
        simp only [hy]
      unfold findL
      rw [hb, hl]
      simp only [if_true]
      exact ⟨ih.1, fun f hf => ⟨(ih.2 f hf).1, by rw [List.getElem?_cons_succ]; exact (ih.2 f hf).2⟩⟩
theorem ins_eq {x : Fl} : ∀ {l : List Fl}, (∀ z ∈ l, z.name ≠ x.name) → insM l x = insC x l
  | [], _ => rfl
  | y :: r, h => by
    have ih := ins_eq (x := x) (l := r) fun z hz => h z (List.mem_cons_of_mem _ hz)
    have hne := h y (List.mem_cons_self ..)
    rcases hb : bytesBefore y.name x.name with _ | _
    · have hxy : bytesBefore x.name y.name = true := by
        rcases bef_total hne with h3 | h3
        · rw [hb] at h3; cases h3
        · exact h3
      unfold insM findL insC
      rw [hb, hxy]
      simp
    · unfold insC
      rw [bef_asym hb]
      simp only [Bool.false_eq_true, if_false]
      rw [← ih]
      unfold insM
      have e : findL (y :: r) x.name = ((findL r x.name).1 + 1, (findL r x.name).2) := by
        show (if bytesBefore y.name x.name then _ else _) = _
        rw [hb]
        rfl
      rw [e]
      rfl
theorem rm_eq {n : List UInt8} {f : Fl} : ∀ {l : List Fl} {i : Nat}, Uq l → l[i]? = some f → f.name = n → rmL l i = delC l n
  | [], i, _, h, _ => by simp at h
  | y :: r, 0, hu, h, hn => by
    obtain rfl : y = f := by simpa using h
    obtain ⟨h1, h2⟩ := List.pairwise_cons.1 hu
    have e : (y.name == n) = true := by simp [hn]
    unfold rmL delC
    rw [List.filter_cons, e]
    simp only [Bool.not_true, Bool.false_eq_true, if_false]
    rw [show (y :: r).take 0 ++ (y :: r).drop (0 + 1) = r from rfl]
    refine (List.filter_eq_self.2 fun z hz => ?_).symm
    have := h1 z hz
    rw [hn] at this
    have e2 : (z.name == n) = false := by simpa using fun h => this h.symm
    simp [e2]
  | y :: r, i + 1, hu, h, hn => by
    obtain ⟨h1, h2⟩ := List.pairwise_cons.1 hu
    have h' : r[i]? = some f := by simpa using h
    have ih := rm_eq h2 h' hn
    have hne := h1 f (List.mem_of_getElem? h')
    have e : (y.name == n) = false := by rw [hn] at hne; simpa using hne
    have e2 : delC (y :: r) n = y :: delC r n := by unfold delC; rw [List.filter_cons, e]; rfl
    rw [e2, ← ih]
    rfl
theorem set_eq {n : List UInt8} {f x : Fl} : ∀ {l : List Fl} {i : Nat}, Uq l → l[i]? = some f → f.name = n → l.set i x = updC l n x
  | [], i, _, h, _ => by simp at h
  | y :: r, 0, hu, h, hn => by
    obtain rfl : y = f := by simpa using h
    obtain ⟨h1, h2⟩ := List.pairwise_cons.1 hu
    have e : (y.name == n) = true := by simp [hn]
    have e2 : updC (y :: r) n x = x :: updC r n x := by unfold updC; rw [List.map_cons, e]; rfl
    rw [e2, upd_none fun z hz => by have := h1 z hz; rw [hn] at this; exact fun h => this h.symm]
    rfl
  | y :: r, i + 1, hu, h, hn => by
    obtain ⟨h1, h2⟩ := List.pairwise_cons.1 hu
    have h' : r[i]? = some f := by simpa using h
    have ih := set_eq (x := x) h2 h' hn
    have hne := h1 f (List.mem_of_getElem? h')
    have e : (y.name == n) = false := by rw [hn] at hne; simpa using hne
    have e2 : updC (y :: r) n x = y :: updC r n x := by unfold updC; rw [List.map_cons, e]; rfl
    rw [e2, ← ih]
    rfl
theorem del_none {n : List UInt8} {l : List Fl} (h : lkC l n = none) : delC l n = l := by
  unfold delC
  refine List.filter_eq_self.2 fun z hz => ?_
  have e : (z.name == n) = false := by simpa using lkC_none h z hz
  simp [e]
theorem srt_del {l : List Fl} (h : Srt l) (n : List UInt8) : Srt (delC l n) := List.Pairwise.filter _ h
/-- What the model's insert of a file gives whatever it replaces. -/
theorem put_eq {l : List Fl} (h : Srt l) (x : Fl) : insM (if (findL l x.name).2 = true then rmL l (findL l x.name).1 else l) x = putFl l x := by
  unfold putFl
  rcases hl : lkC l x.name with _ | f
  · rw [(find_lk x.name h).1 hl, if_neg (by simp), del_none hl]
    exact ins_eq (lkC_none hl)
  · obtain ⟨h1, h2⟩ := (find_lk x.name h).2 f hl
    rw [h1, if_pos rfl, rm_eq (srt_uq h) h2 (lkC_some hl).2]
    exact ins_eq del_ne
end Go.Proofs.Ytphjgembpcikdaa

namespace Go.Proofs.Ytphjgembpcikdaa
open Go.RowKit

/-- The model is the device. -/
structure Sim (s : Ds) (m : Md) : Prop where
  room : m.room = s.room
  down : m.down = s.down
  fs : m.fs = s.fs
  lim : (s.lim = false ∧ m.limit = -1) ∨ (s.lim = true ∧ m.limit = s.left ∧ 0 ≤ s.left ∧ s.left ≤ 9223372036854775807)
/-- Behind k operations the files are few and short. -/
structure Small (s : Ds) (k : Nat) : Prop where
  len : s.fs.length ≤ k
  data : ∀ f ∈ s.fs, f.data.length ≤ 63 * k
section
variable {s : Ds} {m : Md}
theorem Sim.zero (h : Sim s m) : m.limit = 0 ↔ s.lim = true ∧ s.left ≤ 0 := by
  rcases h.lim with ⟨h1, h2⟩ | ⟨h1, h2, h3, _⟩
  · rw [h1, h2]; simp
  · rw [h1, h2]; constructor
    · intro h; exact ⟨rfl, by omega⟩
    · intro h; omega
theorem Sim.wrap (h : Sim s m) (h0 : m.limit ≠ 0) : (s.lim = false ∧ (limM m).limit = -1) ∨ (s.lim = true ∧ (limM m).limit = IntKind.i64.wrap (s.left - 1) ∧ 0 ≤ IntKind.i64.wrap (s.left - 1) ∧ IntKind.i64.wrap (s.left - 1) ≤ 9223372036854775807) := by
  unfold limM
  rcases h.lim with ⟨h1, h2⟩ | ⟨h1, h2, h3, h4⟩
  · refine .inl ⟨h1, ?_⟩
    rw [if_neg (by omega)]
    exact h2
  · refine .inr ⟨h1, ?_⟩
    rw [if_pos (by omega)]
    have e : IntKind.i64.wrap (s.left - 1) = s.left - 1 := by rw [IntWalk.i64_in _ (by omega)]
    rw [e]
    refine ⟨?_, by omega, by omega⟩
    show m.limit - 1 = _
    rw [h2]
theorem lim_parts (m : Md) : (limM m).room = m.room ∧ (limM m).down = m.down ∧ (limM m).fs = m.fs := by unfold limM; split <;> exact ⟨rfl, rfl, rfl⟩
/-- What both leave. -/
def Both (s : Ds) (m : Md) (a : Int × Ds) (b : Int × Md) : Prop := b.1 = a.1 ∧ Sim a.2 b.2
theorem Both.err (h : Sim s m) (e : Int) : Both s m (e, s) (e, m) := ⟨rfl, h⟩
theorem simA (h : Sim s m) (hd : s.down = false) (G : List Fl → List Fl) (F1 : Bool → Md) (hk : F1 false = { limM m with fs := G m.fs }) (hk2 : F1 true = ⟨m.room, m.limit, true, m.fs⟩) :
    Both s m (perfD s id fun s => { s with fs := G s.fs }) (if m.limit = 0 then (31, F1 true) else (0, F1 false)) := by
  unfold perfD
  by_cases h0 : m.limit = 0
  · rw [if_pos h0, if_pos (h.zero.1 h0), hk2]
    exact ⟨rfl, ⟨h.room, rfl, h.fs, h.lim⟩⟩
  · rw [if_neg h0, if_neg (fun hh => h0 (h.zero.2 hh)), hk]
    obtain ⟨p1, p2, p3⟩ := lim_parts m
    exact ⟨rfl, ⟨p1.trans h.room, p2.trans h.down, by show G m.fs = G s.fs; rw [h.fs], h.wrap h0⟩⟩
theorem simB (h : Sim s m) (hd : s.down = false) (G : List Fl → List Fl) (F1 : Bool → Md) (hk : F1 false = { limM m with fs := G m.fs }) (hk2 : F1 true = ⟨m.room, m.limit, true, G m.fs⟩) :
    Both s m (perfD s (fun s => { s with fs := G s.fs }) id) (if m.limit = 0 then (31, F1 true) else (0, F1 false)) := by
  unfold perfD
  by_cases h0 : m.limit = 0
  · rw [if_pos h0, if_pos (h.zero.1 h0), hk2]
    exact ⟨rfl, ⟨h.room, rfl, by show G m.fs = G s.fs; rw [h.fs], h.lim⟩⟩
  · rw [if_neg h0, if_neg (fun hh => h0 (h.zero.2 hh)), hk]
    obtain ⟨p1, p2, p3⟩ := lim_parts m
    exact ⟨rfl, ⟨p1.trans h.room, p2.trans h.down, by show G m.fs = G s.fs; rw [h.fs], h.wrap h0⟩⟩
theorem sim_oper (h : Sim s m) (hs : Srt s.fs) {n : Nat} (hsm : Small s n) (hn : n ≤ 100) (o : LOp) (hj : o.kind % 12 ≤ 5) (k : Nat) : Both s m (operD s o k) (operM m o (dataL k (o.data % 64))) := by
  have hu := srt_uq hs
  rcases hd : s.down with _ | _
  rotate_left
  · rw [oper_down hd]
    have hf : faultM m o (dataL k (o.data % 64)) = 31 := by unfold faultM; rw [h.down, hd, if_pos rfl]
    unfold operM
    rw [hf, if_pos (by decide)]
    exact Both.err h 31
  have hmd : m.down = false := h.down.trans hd
  have hfs := h.fs
  have hfree : freeD s = m.room - usedC m.fs := by unfold freeD; rw [hd, h.room, hfs]; rfl
  obtain ⟨j, hjj⟩ : ∃ j, o.kind % 12 = j := ⟨_, rfl⟩
  have hj6 : o.kind % 6 = j := by omega
  rw [hjj] at hj
  obtain ⟨hf1, hf2⟩ := find_lk (nameL o.name) hs
  have hlen := hsm.len
  have hdl : (dataL k (o.data % 64)).length ≤ 63 := by rw [dataL_len]; omega
  have herr : ∀ e, e ≠ 0 → faultM m o (dataL k (o.data % 64)) = e → operD s o k = (e, s) → Both s m (operD s o k) (operM m o (dataL k (o.data % 64))) := fun e he hF hD => by
    rw [hD]
    unfold operM
    rw [hF, if_pos he]
    exact Both.err h e
  have hgo : faultM m o (dataL k (o.data % 64)) = 0 → operM m o (dataL k (o.data % 64)) = if m.limit = 0 then (31, if o.kind % 12 = 1 then ⟨m.room, m.limit, true, appL m.fs (findL m.fs (nameL o.name)).1 (dataL k (o.data % 64))⟩ else ⟨m.room, m.limit, true, m.fs⟩) else (0, kindM (limM m) o (dataL k (o.data % 64)) (findL m.fs (nameL o.name)).1) := fun hF => by
    unfold operM
    rw [hF, if_neg (by simp)]
  have hno0 : ∀ (hj0 : j ≠ 0), lkC s.fs (nameL o.name) = none → faultM m o (dataL k (o.data % 64)) = 8 := fun hj0 hl => by
    unfold faultM
    rw [hmd, if_neg (by simp), hjj, if_neg hj0, hfs, hf1 hl, if_pos rfl]
  have hyes : ∀ (hj0 : j ≠ 0) f, lkC s.fs (nameL o.name) = some f → faultM m o (dataL k (o.data % 64)) = if j = 1 then (if m.room - usedC m.fs < ((dataL k (o.data % 64)).length : Int) then 32 else 0)
      else if j = 2 then (if o.num < 0 ∨ (f.data.length : Int) < o.num then 2 else 0) else if j = 4 then (if okName (nameL o.other) = false then 12 else 0) else 0 := fun hj0 f hl => by
    obtain ⟨h1, h2⟩ := hf2 f hl
    unfold faultM
    rw [hmd, if_neg (by simp), hjj, if_neg hj0, hfs, h1, if_neg (by simp)]
    have hdl2 : dlen m (findL s.fs (nameL o.name)).1 = f.data.length := by unfold dlen; rw [hfs, h2]; rfl
    rw [hdl2]
  obtain ⟨pr, pd, pf⟩ := lim_parts m
  have hkk : j = 0 ∨ j = 1 ∨ j = 2 ∨ j = 3 ∨ j = 4 ∨ j = 5 := by omega
  rcases hkk with rfl | rfl | rfl | rfl | rfl | rfl
  · have hD : operD s o k = createD s (nameL o.name) := by unfold operD; rw [hj6]; rfl
    have hD2 : createD s (nameL o.name) = if okName (nameL o.name) = false then (12, s) else if (lkC s.fs (nameL o.name)).isSome = true then (7, s) else perfD s id fun s => { s with fs := putFl s.fs ⟨nameL o.name, [], 0⟩ } := by
      unfold createD
      rw [hd, if_neg (by simp), if_neg (show ¬ 4096 ≤ s.fs.length by omega)]
    have hF0 : faultM m o (dataL k (o.data % 64)) = if okName (nameL o.name) = false then 12 else if (findL s.fs (nameL o.name)).2 = true then 7 else 0 := by
      unfold faultM
      rw [hmd, if_neg (by simp), hjj, if_pos rfl, hfs]
    by_cases hok : okName (nameL o.name) = false
    · exact herr 12 (by decide) (by rw [hF0, if_pos hok]) (by rw [hD, hD2, if_pos hok])
    · rcases hl : lkC s.fs (nameL o.name) with _ | f
      · rw [hgo (by rw [hF0, if_neg hok, hf1 hl, if_neg (by simp)]), hD, hD2, if_neg hok, hl, if_neg (by simp)]
        rw [if_neg (show ¬ o.kind % 12 = 1 by rw [hjj]; decide)]
        refine simA h hd (fun l => putFl l ⟨nameL o.name, [], 0⟩) (fun b => if b = true then ⟨m.room, m.limit, true, m.fs⟩ else kindM (limM m) o (dataL k (o.data % 64)) (findL m.fs (nameL o.name)).1) ?_ rfl
        show kindM (limM m) o _ _ = _
        unfold kindM
        rw [hjj, if_pos rfl, pf, hfs]
        unfold putFl
        rw [del_none hl, ins_eq (lkC_none hl)]
      · exact herr 7 (by decide) (by rw [hF0, if_neg hok, (hf2 f hl).1, if_pos rfl]) (by rw [hD, hD2, if_neg hok, hl, Option.isSome_some, if_pos rfl])
  · have hD : operD s o k = appendD s (nameL o.name) (dataL k (o.data % 64)) := by unfold operD; rw [hj6]; rfl
    rcases hl : lkC s.fs (nameL o.name) with _ | f
    · exact herr 8 (by decide) (hno0 (by decide) hl) (by rw [hD]; unfold appendD; rw [hd, if_neg (by simp), hl])
    · obtain ⟨h1, h2⟩ := hf2 f hl
      have hfd := hsm.data f (lkC_some hl).1
      have hD2 : appendD s (nameL o.name) (dataL k (o.data % 64)) = if m.room - usedC m.fs < ((dataL k (o.data % 64)).length : Int) then (32, s) else perfD s (fun s => appendC s (nameL o.name) f (dataL k (o.data % 64))) id := by
        unfold appendD
        rw [hd, if_neg (by simp), hl, hfree]
        dsimp only
        rw [if_neg (by omega)]
      have hF1 := hyes (by decide) f hl
      rw [if_pos rfl] at hF1
      by_cases hsp : m.room - usedC m.fs < ((dataL k (o.data % 64)).length : Int)
      · rw [if_pos hsp] at hF1 hD2
        exact herr 32 (by decide) hF1 (by rw [hD, hD2])
      · rw [if_neg hsp] at hF1 hD2
        rw [hgo hF1, hD, hD2, if_pos hjj]
        have happ : appL m.fs (findL m.fs (nameL o.name)).1 (dataL k (o.data % 64)) = updC m.fs (nameL o.name) ⟨f.name, f.data ++ dataL k (o.data % 64), f.dur⟩ := by
          unfold appL
          have e : flAt m.fs (findL m.fs (nameL o.name)).1 = f := by unfold flAt; rw [hfs, h2]; rfl
          rw [e, hfs]
          exact set_eq hu h2 (lkC_some hl).2
        refine simB h hd (fun l => updC l (nameL o.name) ⟨f.name, f.data ++ dataL k (o.data % 64), f.dur⟩) (fun b => if b = true then ⟨m.room, m.limit, true, appL m.fs (findL m.fs (nameL o.name)).1 (dataL k (o.data % 64))⟩ else kindM (limM m) o (dataL k (o.data % 64)) (findL m.fs (nameL o.name)).1) ?_ (by show (⟨_, _, _, _⟩ : Md) = _; rw [happ])
        show kindM (limM m) o _ _ = _
        unfold kindM
        rw [hjj, if_neg (by decide), if_pos rfl, pf, happ]
  · have hD : operD s o k = truncD s (nameL o.name) o.num := by unfold operD; rw [hj6]; rfl
    rcases hl : lkC s.fs (nameL o.name) with _ | f
    · exact herr 8 (by decide) (hno0 (by decide) hl) (by rw [hD]; unfold truncD; rw [hd, if_neg (by simp), hl])
    · obtain ⟨h1, h2⟩ := hf2 f hl
      have hF1 := hyes (by decide) f hl
      rw [if_neg (by decide), if_pos rfl] at hF1
      have hD2 : truncD s (nameL o.name) o.num = if o.num < 0 ∨ (f.data.length : Int) < o.num then (2, s) else perfD s id fun s => { s with fs := updC s.fs (nameL o.name) ⟨f.name, f.data.take o.num.toNat, min f.dur o.num.toNat⟩ } := by
        unfold truncD
        rw [hd, if_neg (by simp), hl]
      by_cases hsp : o.num < 0 ∨ (f.data.length : Int) < o.num
      · rw [if_pos hsp] at hF1 hD2
        exact herr 2 (by decide) hF1 (by rw [hD, hD2])
      · rw [if_neg hsp] at hF1 hD2
        rw [hgo hF1, hD, hD2, if_neg (show ¬ o.kind % 12 = 1 by rw [hjj]; decide)]
        refine simA h hd (fun l => updC l (nameL o.name) ⟨f.name, f.data.take o.num.toNat, min f.dur o.num.toNat⟩) (fun b => if b = true then ⟨m.room, m.limit, true, m.fs⟩ else kindM (limM m) o (dataL k (o.data % 64)) (findL m.fs (nameL o.name)).1) ?_ rfl
        show kindM (limM m) o _ _ = _
        unfold kindM
        have e : flAt m.fs (findL m.fs (nameL o.name)).1 = f := by unfold flAt; rw [hfs, h2]; rfl
        rw [hjj, if_neg (by decide), if_neg (by decide), if_pos rfl, pf, e, hfs, set_eq hu h2 (lkC_some hl).2]
  · have hD : operD s o k = removeD s (nameL o.name) := by unfold operD; rw [hj6]; rfl
    rcases hl : lkC s.fs (nameL o.name) with _ | f
    · exact herr 8 (by decide) (hno0 (by decide) hl) (by rw [hD]; unfold removeD; rw [hd, if_neg (by simp), hl])
    · obtain ⟨h1, h2⟩ := hf2 f hl
      have hF1 := hyes (by decide) f hl
      rw [if_neg (by decide), if_neg (by decide), if_neg (by decide)] at hF1
      have hD2 : removeD s (nameL o.name) = perfD s id fun s => { s with fs := delC s.fs (nameL o.name) } := by
        unfold removeD
        rw [hd, if_neg (by simp), hl]
      rw [hgo hF1, hD, hD2, if_neg (show ¬ o.kind % 12 = 1 by rw [hjj]; decide)]
      refine simA h hd (fun l => delC l (nameL o.name)) (fun b => if b = true then ⟨m.room, m.limit, true, m.fs⟩ else kindM (limM m) o (dataL k (o.data % 64)) (findL m.fs (nameL o.name)).1) ?_ rfl
      show kindM (limM m) o _ _ = _
      unfold kindM
      rw [hjj, if_neg (by decide), if_neg (by decide), if_neg (by decide), if_pos rfl, pf, hfs, rm_eq hu h2 (lkC_some hl).2]
  · have hD : operD s o k = renameD s (nameL o.name) (nameL o.other) := by unfold operD; rw [hj6]; rfl
    rcases hl : lkC s.fs (nameL o.name) with _ | f
    · exact herr 8 (by decide) (hno0 (by decide) hl) (by rw [hD]; unfold renameD; rw [hd, if_neg (by simp), hl])
    · obtain ⟨h1, h2⟩ := hf2 f hl
      have hF1 := hyes (by decide) f hl
      rw [if_neg (by decide), if_neg (by decide), if_pos rfl] at hF1
      have hD2 : renameD s (nameL o.name) (nameL o.other) = if okName (nameL o.other) = false then (12, s) else perfD s id fun s => { s with fs := putFl (delC s.fs (nameL o.name)) ⟨nameL o.other, f.data, f.dur⟩ } := by
        unfold renameD
        rw [hd, if_neg (by simp), hl]
      by_cases hok : okName (nameL o.other) = false
      · rw [if_pos hok] at hF1 hD2
        exact herr 12 (by decide) hF1 (by rw [hD, hD2])
      · rw [if_neg hok] at hF1 hD2
        rw [hgo hF1, hD, hD2, if_neg (show ¬ o.kind % 12 = 1 by rw [hjj]; decide)]
        refine simA h hd (fun l => putFl (delC l (nameL o.name)) ⟨nameL o.other, f.data, f.dur⟩) (fun b => if b = true then ⟨m.room, m.limit, true, m.fs⟩ else kindM (limM m) o (dataL k (o.data % 64)) (findL m.fs (nameL o.name)).1) ?_ rfl
        show kindM (limM m) o _ _ = _
        unfold kindM renL
        have e : flAt m.fs (findL m.fs (nameL o.name)).1 = f := by unfold flAt; rw [hfs, h2]; rfl
        rw [hjj, if_neg (by decide), if_neg (by decide), if_neg (by decide), if_neg (by decide), if_pos rfl, pf, e, hfs, rm_eq hu h2 (lkC_some hl).2]
        rw [show insM (if (findL (delC s.fs (nameL o.name)) (nameL o.other)).2 = true then rmL (delC s.fs (nameL o.name)) (findL (delC s.fs (nameL o.name)) (nameL o.other)).1 else delC s.fs (nameL o.name)) ⟨nameL o.other, f.data, f.dur⟩ = putFl (delC s.fs (nameL o.name)) ⟨nameL o.other, f.data, f.dur⟩ from put_eq (srt_del hs _) ⟨nameL o.other, f.data, f.dur⟩]
  · have hD : operD s o k = syncD s (nameL o.name) := by unfold operD; rw [hj6]; rfl
    rcases hl : lkC s.fs (nameL o.name) with _ | f
    · exact herr 8 (by decide) (hno0 (by decide) hl) (by rw [hD]; unfold syncD; rw [hd, if_neg (by simp), hl])
    · obtain ⟨h1, h2⟩ := hf2 f hl
      have hF1 := hyes (by decide) f hl
      rw [if_neg (by decide), if_neg (by decide), if_neg (by decide)] at hF1
      have hD2 : syncD s (nameL o.name) = perfD s id fun s => { s with fs := updC s.fs (nameL o.name) { f with dur := f.data.length } } := by
        unfold syncD
        rw [hd, if_neg (by simp), hl]
      rw [hgo hF1, hD, hD2, if_neg (show ¬ o.kind % 12 = 1 by rw [hjj]; decide)]
      refine simA h hd (fun l => updC l (nameL o.name) { f with dur := f.data.length }) (fun b => if b = true then ⟨m.room, m.limit, true, m.fs⟩ else kindM (limM m) o (dataL k (o.data % 64)) (findL m.fs (nameL o.name)).1) ?_ rfl
      show kindM (limM m) o _ _ = _
      unfold kindM
      have e : flAt m.fs (findL m.fs (nameL o.name)).1 = f := by unfold flAt; rw [hfs, h2]; rfl
      rw [hjj, if_neg (by decide), if_neg (by decide), if_neg (by decide), if_neg (by decide), if_neg (by decide), pf, e, hfs]
      rw [show s.fs.set (findL s.fs (nameL o.name)).1 ⟨f.name, f.data, f.data.length⟩ = updC s.fs (nameL o.name) ⟨f.name, f.data, f.data.length⟩ from set_eq hu h2 (lkC_some hl).2]
end
end Go.Proofs.Ytphjgembpcikdaa

namespace Go.Proofs.Ytphjgembpcikdaa
open Go.RowKit

/-- The device at d and the model at M, made since w0. -/
structure Rn (w0 w : World) (d M : Nat) (s : Ds) (m : Md) : Prop where
  dev : ∃ S T, DevW w d S s ∧ MdW w M T m ∧ (∀ x, S x → ¬ T x) ∧ (∀ x, S x → w0.heap.size ≤ x) ∧ ∀ x, T x → w0.heap.size ≤ x
  below : Below w0.heap.size w0 w
section
variable {w0 w w' : World} {d M : Nat} {s s' : Ds} {m m' : Md}
theorem Rn.grow (h : Rn w0 w d M s m) (hb : Below w.heap.size w w') : Rn w0 w' d M s m := by
  obtain ⟨S, T, h1, h2, h3⟩ := h.dev
  exact ⟨⟨S, T, h1.grow hb, h2.grow hb, h3⟩, G.trans h.below hb⟩
theorem Rn.setD (h : Rn w0 w d M s m) : ∃ S, DevW w d S s ∧ (∀ x, S x → w0.heap.size ≤ x) ∧ ∀ w' s', RetD d S s' w w' → Rn w0 w' d M s' m := by
  obtain ⟨S, T, h1, h2, h3, h4, h5⟩ := h.dev
  refine ⟨S, h1, h4, fun w' s' hr => ?_⟩
  obtain ⟨S', g1, g2, g3⟩ := hr
  have hs := h.below.size
  refine ⟨⟨S', T, g1, h2.other g3 fun x hx hxs => h3 x hxs hx, fun x hx hxt => ?_, fun x hx => ?_, h5⟩, below_chg h.below h4 g3⟩
  · rcases g2 x hx with h6 | h6
    · exact h3 x h6 hxt
    · have := h2.lt hxt; omega
  · rcases g2 x hx with h6 | h6
    · exact h4 x h6
    · omega
theorem Rn.setM (h : Rn w0 w d M s m) : ∃ T, MdW w M T m ∧ (∀ x, T x → w0.heap.size ≤ x) ∧ ∀ w' m', RetM M T m' w w' → Rn w0 w' d M s m' := by
  obtain ⟨S, T, h1, h2, h3, h4, h5⟩ := h.dev
  refine ⟨T, h2, h5, fun w' m' hr => ?_⟩
  obtain ⟨T', g1, g2, g3⟩ := hr
  have hs := h.below.size
  refine ⟨⟨S, T', h1.other g3 h3, g1, fun x hx hxt => ?_, h4, fun x hx => ?_⟩, below_chg h.below h5 g3⟩
  · rcases g2 x hxt with h6 | h6
    · exact h3 x hx h6
    · have := h1.lt hx; omega
  · rcases g2 x hx with h6 | h6
    · exact h5 x h6
    · omega
theorem Rn.devE {n : Nat} {a : Array Value} {r : Int × Ds} (h : Rn w0 w d M s m) (hc : ∀ S, DevW w d S s → Calls Try.prog n a w (RetE d S r w)) : Calls Try.prog n a w fun e w' => e = .returned (.int .i64 r.1) ∧ Rn w0 w' d M r.2 m := by
  obtain ⟨S, h1, _, h3⟩ := h.setD
  exact (hc S h1).mono fun e w' hh => ⟨hh.1, h3 _ _ hh.2⟩
theorem Rn.devV {n : Nat} {a : Array Value} (h : Rn w0 w d M s m) (hc : ∀ S, DevW w d S s → Calls Try.prog n a w fun e w' => e = .returned (.tuple #[]) ∧ RetD d S s' w w') : Calls Try.prog n a w fun e w' => e = .returned (.tuple #[]) ∧ Rn w0 w' d M s' m := by
  obtain ⟨S, h1, _, h3⟩ := h.setD
  exact (hc S h1).mono fun e w' hh => ⟨hh.1, h3 _ _ hh.2⟩
theorem Rn.mod {n : Nat} {a : Array Value} {e0 : Ending} (h : Rn w0 w d M s m) (hc : ∀ T, MdW w M T m → Calls Try.prog n a w fun e w' => e = e0 ∧ RetM M T m' w w') : Calls Try.prog n a w fun e w' => e = e0 ∧ Rn w0 w' d M s m' := by
  obtain ⟨T, h1, _, h3⟩ := h.setM
  exact (hc T h1).mono fun e w' hh => ⟨hh.1, h3 _ _ hh.2⟩
/-- A cell of the model's struct is written. -/
theorem Rn.cell (h : Rn w0 w d M s m) {i : Nat} {v : Value} (he : ∀ A k, [.int .i64 m.room, .int .i64 m.limit, .bool m.down, .slice A m.fs.length k].set i v = [.int .i64 m'.room, .int .i64 m'.limit, .bool m'.down, .slice A m.fs.length k]) (hfs : m'.fs = m.fs) : Rn w0 (w.setCell ⟨M, i, none⟩ v) d M s m' := by
  obtain ⟨T, h1, _, h3⟩ := h.setM
  exact h3 _ _ ((RetM.refl h1).cell he hfs)
theorem Rn.fd (h : Rn w0 w d M s m) : FD w0 w d s := by
  obtain ⟨S, T, h1, _, _, h4, _⟩ := h.dev
  exact ⟨⟨S, h1, h4⟩, h.below⟩
theorem Rn.getM (h : Rn w0 w d M s m) : ∃ T A c, MdW w M T m ∧ MdR w M m A c ∧ ∀ x, T x → w0.heap.size ≤ x := by
  obtain ⟨S, T, _, h2, _, _, h5⟩ := h.dev
  obtain ⟨A, c, h6, h7⟩ := h2
  exact ⟨T, A, c, ⟨A, c, h6, h7⟩, h6, h5⟩
end
/-! ### small states -/
section
variable {s t : Ds} {k : Nat}
theorem Small.mono (h : Small s k) (hf : t.fs = s.fs) : Small t (k + 1) := ⟨by rw [hf]; have := h.len; omega, fun f hm => by rw [hf] at hm; have := h.data f hm; omega⟩
theorem small_upd {n : List UInt8} {x : Fl} (h : Small s k) (hx : x.data.length ≤ 63 * (k + 1)) (hf : t.fs = updC s.fs n x) : Small t (k + 1) := by
  refine ⟨by rw [hf]; unfold updC; rw [List.length_map]; have := h.len; omega, fun f hm => ?_⟩
  rw [hf] at hm
  rcases updC_mem hm with rfl | hm
  · exact hx
  · have := h.data f hm; omega
theorem small_del {n : List UInt8} (h : Small s k) (hf : t.fs = delC s.fs n) : Small t (k + 1) := by
  have h1 : (delC s.fs n).length ≤ s.fs.length := List.length_filter_le _ _
  refine ⟨by rw [hf]; have := h.len; omega, fun f hm => ?_⟩
  rw [hf] at hm
  have := h.data f (List.mem_filter.1 hm).1
  omega
theorem small_put {x : Fl} {l : List Fl} (h : l.length ≤ k) (h2 : ∀ f ∈ l, f.data.length ≤ 63 * k) (hx : x.data.length ≤ 63 * (k + 1)) (hf : t.fs = putFl l x) : Small t (k + 1) := by
  have hp := ins_perm x (delC l x.name)
  have h1 : (delC l x.name).length ≤ l.length := List.length_filter_le _ _
  refine ⟨?_, fun f hm => ?_⟩
  · rw [hf]
    have := hp.length_eq
    rw [List.length_cons] at this
    unfold putFl
    omega
  · rw [hf] at hm
    rcases List.mem_cons.1 (hp.mem_iff.1 hm) with rfl | hm
    · exact hx
    · have := h2 f (List.mem_filter.1 hm).1
      omega
theorem perf_small {f g : Ds → Ds} (h : Small (f s) (k + 1)) (hg : ∀ t, t.fs = (f s).fs → Small (g t) (k + 1)) : Small (perfD s f g).2 (k + 1) := by
  unfold perfD
  split
  · exact ⟨h.len, h.data⟩
  · exact hg _ rfl
theorem small_oper (h : Small s k) (o : LOp) (i : Nat) : Small (operD s o i).2 (k + 1) := by
  have h1 : Small s (k + 1) := h.mono rfl
  have hdl : (dataL i (o.data % 64)).length ≤ 63 := by rw [dataL_len]; omega
  unfold operD
  split
  · unfold createD
    split; exact h1
    split; exact h1
    split; exact h1
    split; exact h1
    exact perf_small h1 fun t ht => small_put (l := s.fs) h.len h.data (Nat.zero_le _) (by show putFl t.fs _ = _; rw [show t.fs = s.fs from ht])
  · unfold appendD
    split; exact h1
    split; exact h1
    next f hl =>
      have := h.data f (lkC_some hl).1
      split; exact h1
      split; exact h1
      have h2 : Small (appendC s (nameL o.name) f (dataL i (o.data % 64))) (k + 1) := small_upd (x := ⟨f.name, f.data ++ dataL i (o.data % 64), f.dur⟩) h (by show (f.data ++ _).length ≤ _; rw [List.length_append]; omega) rfl
      exact perf_small h2 fun t ht => ⟨by show t.fs.length ≤ _; rw [ht]; exact h2.len, fun f hf => h2.data f (by rw [← ht]; exact hf)⟩
  · unfold truncD
    split; exact h1
    split; exact h1
    next f hl =>
      have := h.data f (lkC_some hl).1
      split; exact h1
      exact perf_small h1 fun t ht => small_upd (x := ⟨f.name, f.data.take o.num.toNat, min f.dur o.num.toNat⟩) h (by show (f.data.take _).length ≤ _; rw [List.length_take]; omega) (by show updC t.fs _ _ = _; rw [show t.fs = s.fs from ht])
  · unfold removeD
    split; exact h1
    split; exact h1
    exact perf_small h1 fun t ht => small_del (n := nameL o.name) h (by show delC t.fs _ = _; rw [show t.fs = s.fs from ht])
  · unfold renameD
    split; exact h1
    split; exact h1
    next f hl =>
      have := h.data f (lkC_some hl).1
      split; exact h1
      have hd : (delC s.fs (nameL o.name)).length ≤ k := Nat.le_trans (List.length_filter_le _ _) h.len
      exact perf_small h1 fun t ht => small_put (l := delC s.fs (nameL o.name)) hd (fun f hf => h.data f (List.mem_filter.1 hf).1) (x := ⟨nameL o.other, f.data, f.dur⟩) (by show f.data.length ≤ _; omega) (by show putFl (delC t.fs _) _ = _; rw [show t.fs = s.fs from ht])
  · unfold syncD
    split; exact h1
    split; exact h1
    next f hl =>
      have := h.data f (lkC_some hl).1
      exact perf_small h1 fun t ht => small_upd (x := ⟨f.name, f.data, f.data.length⟩) h (by show f.data.length ≤ _; omega) (by show updC t.fs _ _ = _; rw [show t.fs = s.fs from ht])
theorem start_small (h : Small s k) (hg : s.Good) (ch : List UInt8) : Small (startD s ch) (k + 1) := by
  unfold startD
  split
  · refine ⟨?_, fun g hm => ?_⟩
    · have h3 := congrArg List.length (start_names s.fs ch)
      rw [List.length_map, List.length_map] at h3
      show (startL s.fs ch).length ≤ _
      have := h.len
      omega
    · obtain ⟨i, hi⟩ := List.getElem?_of_mem hm
      have hl : i < s.fs.length := by
        have h3 := congrArg List.length (start_names s.fs ch)
        rw [List.length_map, List.length_map] at h3
        have := (List.getElem?_eq_some_iff.1 hi).1
        have e : (startL s.fs ch).length = s.fs.length := h3
        have h4 : i < (startL s.fs ch).length := this
        omega
      obtain ⟨g', z, hg', hL⟩ := start_left s.fs ch hg.ok.du i _ (List.getElem?_eq_getElem hl)
      have : g = g' := Option.some.inj (hi.symm.trans hg')
      subst this
      have h5 := hL.hi
      have h6 := h.data _ (List.getElem_mem hl)
      omega
  · exact h.mono rfl
theorem sim_fine {m : Md} (h : Sim s m) (hg : s.Good) (hs : Small s k) (hk : k ≤ 100) : m.Fine := by
  have h1 := hs.len
  have h2 := hg.ok.r0
  have h3 := hg.ok.r1
  have h4 := hg.ok.us
  exact ⟨by rw [h.fs]; omega, by rw [h.room]; exact ⟨h2, h3⟩, by rw [h.fs]; omega⟩
theorem sim_start {m : Md} (h : Sim s m) (ch : List UInt8) : Sim (startD s ch) (startM m ch) := by
  unfold startD startM
  rw [h.down]
  split
  · exact ⟨h.room, rfl, by show startL m.fs ch = startL s.fs ch; rw [h.fs], .inl ⟨rfl, rfl⟩⟩
  · exact h
end
end Go.Proofs.Ytphjgembpcikdaa

namespace Go.Proofs.Ytphjgembpcikdaa
open Go.RowKit

structure RnB (w0 w : World) (d M : Nat) (s : Ds) (m : Md) (B : Nat) (l : List Value) : Prop where
  dev : ∃ S T, DevW w d S s ∧ MdW w M T m ∧ (∀ x, S x → ¬ T x) ∧ (∀ x, S x → w0.heap.size ≤ x) ∧ (∀ x, T x → w0.heap.size ≤ x) ∧ ¬ S B ∧ ¬ T B
  box : Bx w B l
  below : Below w0.heap.size w0 w
section
variable {w0 w w' : World} {d M B : Nat} {s s' : Ds} {m m' : Md} {l l' : List Value}
theorem RnB.rn (h : RnB w0 w d M s m B l) : Rn w0 w d M s m := by
  obtain ⟨S, T, h1, h2, h3, h4, h5, _⟩ := h.dev
  exact ⟨⟨S, T, h1, h2, h3, h4, h5⟩, h.below⟩
theorem RnB.grow (h : RnB w0 w d M s m B l) (hb : Below w.heap.size w w') : RnB w0 w' d M s m B l := by
  obtain ⟨S, T, h1, h2, h3⟩ := h.dev
  exact ⟨⟨S, T, h1.grow hb, h2.grow hb, h3⟩, h.box.grow hb, G.trans h.below hb⟩
/-- A box that lies beside both. -/
theorem Rn.boxed (h : Rn w0 w d M s m) (hb : Below w.heap.size w w') (hB : w.heap.size ≤ B) (hx : Bx w' B l) : RnB w0 w' d M s m B l := by
  obtain ⟨S, T, h1, h2, h3, h4, h5⟩ := h.dev
  exact ⟨⟨S, T, h1.grow hb, h2.grow hb, h3, h4, h5, fun hx => by have := h1.lt hx; omega, fun hx => by have := h2.lt hx; omega⟩, hx, G.trans h.below hb⟩
theorem RnB.setD (h : RnB w0 w d M s m B l) : ∃ S, DevW w d S s ∧ (∀ x, S x → w0.heap.size ≤ x) ∧ ¬ S B ∧ ∀ w' s', RetD d S s' w w' → RnB w0 w' d M s' m B l := by
  obtain ⟨S, T, h1, h2, h3, h4, h5, h8, h9⟩ := h.dev
  refine ⟨S, h1, h4, h8, fun w' s' hr => ?_⟩
  obtain ⟨S', g1, g2, g3⟩ := hr
  have hs := h.below.size
  have hl := h.box.lt
  refine ⟨⟨S', T, g1, h2.other g3 fun x hx hxs => h3 x hxs hx, fun x hx hxt => ?_, fun x hx => ?_, h5, fun hx => ?_, h9⟩, h.box.block g3.size (g3.2.2 B h8 hl), below_chg h.below h4 g3⟩
  · rcases g2 x hx with h6 | h6
    · exact h3 x h6 hxt
    · have := h2.lt hxt; omega
  · rcases g2 x hx with h6 | h6
    · exact h4 x h6
    · omega
  · rcases g2 B hx with h6 | h6
    · exact h8 h6
    · omega
theorem RnB.setM (h : RnB w0 w d M s m B l) : ∃ T, MdW w M T m ∧ (∀ x, T x → w0.heap.size ≤ x) ∧ ¬ T B ∧ ∀ w' m', RetM M T m' w w' → RnB w0 w' d M s m' B l := by
  obtain ⟨S, T, h1, h2, h3, h4, h5, h8, h9⟩ := h.dev
  refine ⟨T, h2, h5, h9, fun w' m' hr => ?_⟩
  obtain ⟨T', g1, g2, g3⟩ := hr
  have hs := h.below.size
  have hl := h.box.lt
  refine ⟨⟨S, T', h1.other g3 h3, g1, fun x hx hxt => ?_, h4, fun x hx => ?_, h8, fun hx => ?_⟩, h.box.block g3.size (g3.2.2 B h9 hl), below_chg h.below h5 g3⟩
  · rcases g2 x hxt with h6 | h6
    · exact h3 x hx h6
    · have := h1.lt hx; omega
  · rcases g2 x hx with h6 | h6
    · exact h5 x h6
    · omega
  · rcases g2 B hx with h6 | h6
    · exact h9 h6
    · omega
theorem RnB.put (h : RnB w0 w d M s m B l) (hB : w0.heap.size ≤ B) {i : Nat} {v : Value} (e : l.set i v = l') : RnB w0 (w.setCell ⟨B, i, none⟩ v) d M s m B l' := by
  obtain ⟨S, T, h1, h2, h3, h4, h5, h8, h9⟩ := h.dev
  have hk : ∀ x, x ≠ B → (w.setCell ⟨B, i, none⟩ v).heap[x]? = w.heap[x]? := fun x hx => Below.heap_setCell _ _ _ x hx
  have hs : w.heap.size ≤ (w.setCell ⟨B, i, none⟩ v).heap.size := ((Below.refl 0 w).setCell (p := ⟨B, i, none⟩) (Nat.zero_le _) v).size
  exact ⟨⟨S, T, h1.keep hs fun x hx => hk x fun e => h8 (e ▸ hx), h2.keep hs fun x hx => hk x fun e => h9 (e ▸ hx), h3, h4, h5, h8, h9⟩, h.box.put e, h.below.setCell (by show w0.heap.size ≤ B; exact hB) _⟩
theorem RnB.devE {n : Nat} {a : Array Value} {r : Int × Ds} (h : RnB w0 w d M s m B l) (hc : ∀ S, DevW w d S s → Calls Try.prog n a w (RetE d S r w)) : Calls Try.prog n a w fun e w' => e = .returned (.int .i64 r.1) ∧ RnB w0 w' d M r.2 m B l := by
  obtain ⟨S, h1, _, _, h3⟩ := h.setD
  exact (hc S h1).mono fun e w' hh => ⟨hh.1, h3 _ _ hh.2⟩
theorem RnB.devV {n : Nat} {a : Array Value} (h : RnB w0 w d M s m B l) (hc : ∀ S, DevW w d S s → ¬ S B → Calls Try.prog n a w fun e w' => e = .returned (.tuple #[]) ∧ RetD d S s' w w') : Calls Try.prog n a w fun e w' => e = .returned (.tuple #[]) ∧ RnB w0 w' d M s' m B l := by
  obtain ⟨S, h1, _, h2, h3⟩ := h.setD
  exact (hc S h1 h2).mono fun e w' hh => ⟨hh.1, h3 _ _ hh.2⟩
theorem RnB.mod {n : Nat} {a : Array Value} {e0 : Ending} (h : RnB w0 w d M s m B l) (hc : ∀ T, MdW w M T m → ¬ T B → Calls Try.prog n a w fun e w' => e = e0 ∧ RetM M T m' w w') : Calls Try.prog n a w fun e w' => e = e0 ∧ RnB w0 w' d M s m' B l := by
  obtain ⟨T, h1, _, h2, h3⟩ := h.setM
  exact (hc T h1 h2).mono fun e w' hh => ⟨hh.1, h3 _ _ hh.2⟩
theorem RnB.cell (h : RnB w0 w d M s m B l) {i : Nat} {v : Value} (he : ∀ A k, [.int .i64 m.room, .int .i64 m.limit, .bool m.down, .slice A m.fs.length k].set i v = [.int .i64 m'.room, .int .i64 m'.limit, .bool m'.down, .slice A m.fs.length k]) (hfs : m'.fs = m.fs) : RnB w0 (w.setCell ⟨M, i, none⟩ v) d M s m' B l := by
  obtain ⟨T, h1, _, _, h3⟩ := h.setM
  exact h3 _ _ ((RetM.refl h1).cell he hfs)
theorem RnB.mbox (h : RnB w0 w d M s m B l) : ∃ A c, MdR w M m A c ∧ M ≠ B := by
  obtain ⟨T, ⟨A, c, h1, hT⟩, _, h2, _⟩ := h.setM
  exact ⟨A, c, h1, fun e => h2 (e ▸ (hT M).2 (.inl rfl))⟩
end
end Go.Proofs.Ytphjgembpcikdaa
