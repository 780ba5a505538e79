/- segment.Log: Read. -/
import Derived.Test.YtbafnlccpbonmaaGreatDoorRd2
namespace Go.Proofs.YtbafnlccpbonmaaGreatDoor
set_option linter.unusedVariables false
set_option linter.unnecessarySimpa false
set_option linter.unusedSimpArgs false
open Go.RowKit

section
variable {w w' w0 : World} {L d : Nat} {l : Lg} {s : Ds} {P : Option Addr} {c : Nat} {rs : List PR} {S : Nat → Prop} {R : List (List UInt8)} {n : Nat} {g a b : List (List (List UInt8))} {r : List (List UInt8)}
theorem pts_nums : ∀ (g : List (List (List UInt8))) (n : Nat), (ptsG n g).map Pt.first = nums n g
  | [], n => rfl
  | r :: g, n => by rw [ptsG, nums, List.map_cons, pts_nums g]
theorem LogR.firsts (h : LogR w L d l P c rs) (hp : l.parts = ptsG n g) : rs.map PR.first = nums n g := by
  rw [← pts_nums, ← hp, h.eq, List.map_map]
  rfl
theorem nums_at (a : List (List (List UInt8))) (n : Nat) : (nums n (a ++ r :: b))[a.length]? = some (n + a.flatten.length) := by
  have hl : ∀ (a : List (List (List UInt8))) n, (nums n a).length = a.length := fun a => by
    induction a with
    | nil => intro n; rfl
    | cons x a ih => intro n; rw [nums, List.length_cons, ih, List.length_cons]
  rw [nums_app, List.getElem?_append_right (by rw [hl]; exact Nat.le_refl _), hl, Nat.sub_self]
  rfl
theorem nums_len : ∀ (a : List (List (List UInt8))) (n : Nat), (nums n a).length = a.length
  | [], n => rfl
  | x :: a, n => by rw [nums, List.length_cons, nums_len a, List.length_cons]
/-- Where a search for a record's segment ends. -/
theorem search_at (hS : Shp R n (a ++ r :: b)) {K : Nat} (h1 : n + a.flatten.length ≤ K) (h2 : K < n + a.flatten.length + r.length) {F : List Nat} (hF : F = nums n (a ++ r :: b)) {i : Nat}
    (k1 : ∀ j f, j + 1 = i → F[j]? = some f → f < K) (k2 : ∀ f, F[i]? = some f → K ≤ f) (hi : i ≤ F.length) :
    (i = a.length ∧ n + a.flatten.length = K) ∨ (i = a.length + 1 ∧ n + a.flatten.length < K ∧ ∀ f, F[i]? = some f → f ≠ K) := by
  have hlt := nums_lt (a ++ r :: b) n hS.mid
  have hat := nums_at (r := r) (b := b) a n
  have hlen : F.length = (a ++ r :: b).length := by rw [hF, nums_len]
  rw [List.length_append, List.length_cons] at hlen
  rw [← hF] at hlt hat
  have hbe : ∀ j f, j < a.length → F[j]? = some f → f < n + a.flatten.length := fun j f hj hf => by
    obtain ⟨hj1, e1⟩ := List.getElem?_eq_some_iff.1 hf
    obtain ⟨hj2, e2⟩ := List.getElem?_eq_some_iff.1 hat
    have := List.pairwise_iff_getElem.1 hlt j a.length hj1 hj2 hj
    omega
  have haf : ∀ j f, a.length < j → F[j]? = some f → K < f := fun j f hj hf => by
    have hb : b ≠ [] := fun e => by
      have := (List.getElem?_eq_some_iff.1 hf).1
      rw [e] at hlen
      simp at hlen
      omega
    obtain ⟨r2, b2, rfl⟩ : ∃ r2 b2, b = r2 :: b2 := by
      rcases b with _ | ⟨r2, b2⟩
      · exact absurd rfl hb
      · exact ⟨r2, b2, rfl⟩
    have hat2 := nums_at (r := r2) (b := b2) (a ++ [r]) n
    rw [show a ++ [r] ++ r2 :: b2 = a ++ r :: r2 :: b2 by simp, ← hF] at hat2
    rw [show (a ++ [r]).length = a.length + 1 by simp, show n + (a ++ [r]).flatten.length = n + a.flatten.length + r.length by simp; omega] at hat2
    obtain ⟨hj1, e1⟩ := List.getElem?_eq_some_iff.1 hf
    obtain ⟨hj2, e2⟩ := List.getElem?_eq_some_iff.1 hat2
    by_cases he : j = a.length + 1
    · subst he
      omega
    · have := List.pairwise_iff_getElem.1 hlt (a.length + 1) j hj2 hj1 (by omega)
      omega
  have hge : a.length ≤ i := by
    by_cases h : i < a.length
    · have hf : ∃ f, F[i]? = some f := ⟨_, List.getElem?_eq_getElem (by omega)⟩
      obtain ⟨f, hf⟩ := hf
      have := hbe i f h hf
      have := k2 f hf
      omega
    · omega
  have hle : i ≤ a.length + 1 := by
    by_cases h : a.length + 1 < i
    · have hf : ∃ f, F[i - 1]? = some f := ⟨_, List.getElem?_eq_getElem (by omega)⟩
      obtain ⟨f, hf⟩ := hf
      have := haf (i - 1) f (by omega) hf
      have := k1 (i - 1) f (by omega) hf
      omega
    · omega
  rcases Nat.lt_or_ge a.length i with h | h
  · obtain rfl : i = a.length + 1 := by omega
    refine .inr ⟨rfl, k1 a.length _ rfl hat, fun f hf => ?_⟩
    have := haf _ f (by omega) hf
    omega
  · obtain rfl : i = a.length := by omega
    have := k2 _ hat
    exact .inl ⟨rfl, by omega⟩
theorem LogR.grow (h : LogR w L d l P c rs) (hb : Below w.heap.size w w') : LogR w' L d l P c rs := h.keep hb.size fun x hx => hb.block x (h.lt hx)
/-- The search, once the segment is known. -/
theorem bsearch_at (h : LogR w L d l P c rs) (hF : rs.map PR.first = nums n (a ++ r :: b)) (hS : Shp R n (a ++ r :: b)) (hcnt : rs.length ≤ 1000000) (hoks : ∀ p ∈ rs, p.first ≤ 1000000000) {K : Nat} (hK : K ≤ 1000000000) (h1 : n + a.flatten.length ≤ K) (h2 : K < n + a.flatten.length + r.length) :
    Calls Tryz.prog 73 #[.slice P rs.length c, .int .i64 (K : Int), .func (.func 74) #[] #[]] w fun e w' =>
      e = .returned (.tuple #[.int .i64 ((if n + a.flatten.length = K then a.length else a.length + 1 : Nat) : Int), .bool (decide (n + a.flatten.length = K))]) ∧ Below w.heap.size w w' := by
  refine (bsearch_any (k := (K : Int)) (N := rs.length) h.row rfl hcnt hoks (by omega)).mono fun e w' hh => ?_
  obtain ⟨hb, i, hi, k1, k2, he⟩ := hh
  have hg : ∀ j f, (rs.map PR.first)[j]? = some f → ∃ q : PR, rs[j]? = some q ∧ q.first = f := fun j f hf => by
    rw [List.getElem?_map] at hf
    rcases hq : rs[j]? with _ | q
    · rw [hq] at hf; cases hf
    · rw [hq] at hf
      exact ⟨q, hq, Option.some.inj hf⟩
  have hs := search_at hS h1 h2 hF (i := i) (fun j f e hf => by
    obtain ⟨q, hq, rfl⟩ := hg j f hf
    have := k1 j q e hq
    omega) (fun f hf => by
    obtain ⟨q, hq, rfl⟩ := hg i f hf
    have := k2 q hq
    omega) (by rw [List.length_map]; exact hi)
  refine ⟨?_, hb⟩
  rw [he]
  rcases hs with ⟨e1, e2⟩ | ⟨e1, e2, e3⟩
  · have hat := nums_at (r := r) (b := b) a n
    rw [← hF, ← e1] at hat
    obtain ⟨q, hq, hqf⟩ := hg i _ hat
    rw [if_pos e2, e1, decide_eq_true e2, ← e1, hq]
    have : decide ((q.first : Int) = (K : Int)) = true := decide_eq_true (by rw [hqf, e2])
    simp only [this]
  · rw [if_neg (by omega), decide_eq_false (by omega), e1]
    rcases hq : rs[a.length + 1]? with _ | q
    · rfl
    · have := e3 q.first (by rw [e1, List.getElem?_map, hq]; rfl)
      have h9 : decide ((q.first : Int) = (K : Int)) = false := decide_eq_false (by omega)
      simp only [h9]
theorem readD_len (ho : s.Ok) (nm : List UInt8) (x y : Int) : (readD s nm x y).1.length ≤ 16777216 := by
  unfold readD
  split
  · simp
  · split
    · simp
    · rename_i f hl
      split
      · simp
      · have := ho.sz f (lkC_some hl).1
        rw [List.length_take, List.length_drop]
        omega
set_option maxRecDepth 20000 in set_option maxHeartbeats 4000000 in
theorem LogR.Read (h : LogR w L d l P c rs) (hD : DevW w d S s) (hso : s.Ok) (hp : l.parts = ptsG n g) (hS : Shp R n g) (hlok : l.Ok) (hpow : Pow10 w) (hfr : l.frst = n) (hla : l.last = R.length) (k : Int) :
    Calls Tryz.prog 32 #[.pointer (some ⟨L, 0, none⟩), .int .i64 k] w (RetR (lread s l k) w) := by
  have FI := Lib.hid (fun (wx : World) (hb : Below w.heap.size w wx) => (h.grow hb).First)
  have LA := Lib.hid (fun (wx : World) (hb : Below w.heap.size w wx) => (h.grow hb).Last hlok)
  rw [hfr] at FI
  rw [hla] at LA
  obtain ⟨c0, c1, c2, c3, c4⟩ := h.box.c5
  have lt := h.box.lt
  clear c1 c2 c4
  obtain ⟨RN, hRN⟩ : ∃ m, R.length = m := ⟨_, rfl⟩
  have hRs : RN ≤ 1000 := by rw [← hRN]; exact hS.small.1
  have hn1 := hS.n1
  have hrd : ∀ x, lread s l k = x → Hid (x = lread s l k) := fun x e => e.symm
  by_cases hk1 : k < (n : Int)
  · have hr := hrd ([], 8) (by unfold lread; rw [hfr, hla, if_pos (.inl hk1)])
    clear hrd h hD hla hfr hp hS hlok
    go_enter Tryz.func32, Tryz.ntmps32
    go_wp2_with fail
    go_at_call 40
    (with_reducible refine (FI.out _ (G.refl w)).mono ?_)
    rintro e w1 ⟨rfl, hb1⟩
    go_wp2_with fail
    refine bodyPost_ret (v := .tuple #[.string ⟨#[]⟩, .int .i64 8]) (by simp only [results, Tryz.results32]; go_simp) rfl ?_
    exact RetR.mk hr.out.symm rfl hb1
  · by_cases hk2 : (R.length : Int) < k
    · have hr := hrd ([], 8) (by unfold lread; rw [hfr, hla, if_pos (.inr hk2)])
      rw [hRN] at hk2 LA
      clear hrd h hD hla hfr hp hS hlok hRN
      go_enter Tryz.func32, Tryz.ntmps32
      go_wp2_with fail
      go_at_call 40
      (with_reducible refine (FI.out _ (G.refl w)).mono ?_)
      rintro e w1 ⟨rfl, hb1⟩
      go_wp2_with fail
      go_at_call 33
      (with_reducible refine (LA.out _ hb1).mono ?_)
      rintro e w2 ⟨rfl, hb2⟩
      replace hb2 := G.trans hb1 hb2
      go_wp2_with fail
      refine bodyPost_ret (v := .tuple #[.string ⟨#[]⟩, .int .i64 8]) (by simp only [results, Tryz.results32]; go_simp) rfl ?_
      exact RetR.mk hr.out.symm rfl hb2
    · obtain ⟨K, rfl⟩ : ∃ K : Nat, k = (K : Int) := ⟨k.toNat, by omega⟩
      have hlen := hS.len
      obtain ⟨a, r, b, rfl, h3, h4⟩ := split_at g n K (by omega) (by omega)
      have hpr : l.part (K : Int) = some ⟨n + a.flatten.length, offsF 0 r⟩ := by
        unfold Lg.part
        rw [hp, ptsG_app, ptsG, List.filter_append, List.filter_cons, if_pos (decide_eq_true (show ((n + a.flatten.length : Nat) : Int) ≤ (K : Int) by omega)), pts_none b _ _ (by omega)]
        exact List.getLast?_concat ..
      have hF := h.firsts hp
      have hoks : ∀ p ∈ rs, p.first ≤ 1000000000 := fun p hpm => by
        have := (hlok.1 p.pt (by rw [h.eq]; exact List.mem_map.2 ⟨p, hpm, rfl⟩)).1
        unfold PR.pt at this
        dsimp only at this
        omega
      have hcnt : rs.length ≤ 1000000 := by
        have h5 := hS.cnt
        have h6 := congrArg List.length h.eq
        rw [hp, ptsG_len, List.length_map] at h6
        omega
      obtain ⟨q, hq⟩ : ∃ q, rs[a.length]? = some q := by
        have h6 := congrArg List.length hF
        rw [List.length_map, nums_len, List.length_append, List.length_cons] at h6
        exact ⟨_, List.getElem?_eq_getElem (by omega)⟩
      have hqp : q.pt = ⟨n + a.flatten.length, offsF 0 r⟩ := by
        have h6 : l.parts[a.length]? = some q.pt := by rw [h.eq, List.getElem?_map, hq]; rfl
        rw [hp, ptsG_app, List.getElem?_append_right (by rw [ptsG_len]; exact Nat.le_refl _), ptsG_len, Nat.sub_self] at h6
        exact (Option.some.inj h6).symm
      have hqf : q.first = n + a.flatten.length := congrArg Pt.first hqp
      have hqo : q.offs = offsF 0 r := congrArg Pt.offs hqp
      obtain ⟨j, hj⟩ : ∃ j, K - (n + a.flatten.length) = j := ⟨_, rfl⟩
      have hjr : j < r.length := by omega
      have o1 : (offsF 0 r)[j]? = some (bytesF (r.take j)) := by rw [offsF_get r 0 j (by omega)]; simp
      have o2 : (offsF 0 r)[j + 1]? = some (bytesF (r.take (j + 1))) := by rw [offsF_get r 0 (j + 1) (by omega)]; simp
      have hby := hS.bytes
      have hb1' := bytes_take_le (r := r) j
      have hb2' := bytes_take_le (r := r) (j + 1)
      have hmono := bytes_mono (r := r) (show j ≤ j + 1 by omega)
      have hg1 : (offsF 0 r).getD j 0 = bytesF (r.take j) := by rw [List.getD_eq_getElem?_getD, o1]; rfl
      have hg2 : (offsF 0 r).getD (j + 1) 0 = bytesF (r.take (j + 1)) := by rw [List.getD_eq_getElem?_getD, o2]; rfl
      obtain ⟨u, hu⟩ : ∃ u, bytesF (r.take j) = u := ⟨_, rfl⟩
      obtain ⟨v, hv⟩ : ∃ u, bytesF (r.take (j + 1)) = u := ⟨_, rfl⟩
      rw [hu] at o1 hg1 hb1' hmono
      rw [hv] at o2 hg2 hb2' hmono
      obtain ⟨m, hm⟩ : ∃ m, n + a.flatten.length = m := ⟨_, rfl⟩
      have hBS := Lib.hid (fun (wx : World) (hb : Below w.heap.size w wx) => bsearch_at (h.grow hb) hF hS hcnt hoks (show K ≤ 1000000000 by omega) h3 h4)
      have LF := Lib.hid (fun (wx : World) (hb : Below w.heap.size w wx) => (h.grow hb).file (hpow.grow hb) ((n + a.flatten.length : Nat) : Int))
      have hff := lfile_len l ((n + a.flatten.length : Nat) : Int)
      obtain ⟨f, hf⟩ : ∃ f, l.file ((n + a.flatten.length : Nat) : Int) = f := ⟨_, rfl⟩
      rw [hf] at LF hff
      have RD := Lib.hid (fun (wx : World) (hb : Below w.heap.size w wx) => read_any (hD.grow hb) hso (B f) (by rw [B_size]; unfold maxLen; omega) (u : Int) ((v - u : Nat) : Int) (by omega))
      rw [B_list] at RD
      have hLr : lread s l (K : Int) = if (readD s f (u : Int) ((v - u : Nat) : Int)).2 ≠ 0 then ([], (readD s f (u : Int) ((v - u : Nat) : Int)).2) else match parseP (readD s f (u : Int) ((v - u : Nat) : Int)).1 0 (K : Int) with | .ok d => (d, 0) | .bad e => ([], e) := by
        unfold lread
        rw [hfr, hla, if_neg (by omega), hpr]
        dsimp only
        rw [hf, show ((K : Int) - ((n + a.flatten.length : Nat) : Int)).toNat = j by omega, hg1, hg2, show ((v : Int) - (u : Int)) = ((v - u : Nat) : Int) by omega]
        rfl
      have hrl := readD_len hso f (u : Int) ((v - u : Nat) : Int)
      obtain ⟨G0, off, hPe, hgl, k0, k1⟩ := h.cells hq
      subst hPe
      obtain ⟨G1, off1, hAe, hgl1, hgc1⟩ := (h.each q (List.mem_of_getElem? hq)).ptr (by rw [hqo, offsF_len]; omega)
      rw [hqo] at hgc1
      have u0 := hgc1 j _ (natsC_get o1)
      have u1 := hgc1 (j + 1) _ (natsC_get o2)
      rw [show q.val = .slice q.A q.offs.length q.cap from rfl, hAe, hqo, offsF_len] at k1
      rw [hqf] at k0
      rw [hm] at k0 hBS LF hj h3
      obtain ⟨I, hI⟩ : ∃ I, a.length = I := ⟨_, rfl⟩
      rw [hI] at k0 k1 hBS
      obtain ⟨I1, hI1⟩ : ∃ x, I + 1 = x := ⟨_, rfl⟩
      rw [hI1] at hBS
      obtain ⟨NN, hNN⟩ : ∃ I, rs.length = I := ⟨_, rfl⟩
      rw [hNN] at c3 hBS
      obtain ⟨qc, hqc⟩ : ∃ I, q.cap = I := ⟨_, rfl⟩
      rw [hqc] at k1
      obtain ⟨on, hon⟩ : ∃ I, r.length + 1 = I := ⟨_, rfl⟩
      rw [hon] at k1
      have hIN : I < NN := by
        have := (List.getElem?_eq_some_iff.1 hq).1
        omega
      have hIN' : (I : Int) < (NN : Int) := by omega
      have b1 : j < on := by omega
      have b2 : j + 1 < on := by omega
      have b1' : (j : Int) < (on : Int) := by omega
      have b2' : ((j + 1 : Nat) : Int) < (on : Int) := by omega
      obtain ⟨j1, hj1⟩ : ∃ x, j + 1 = x := ⟨_, rfl⟩
      rw [hj1] at u1 b2 b2'
      obtain ⟨z, hz⟩ : ∃ z, v - u = z := ⟨_, rfl⟩
      rw [hz] at RD hLr hrl
      have w1' : IntKind.i64.wrap ((K : Int) - (m : Int)) = (j : Int) := by rw [IntWalk.i64_in _ (by omega)]; omega
      have w2' : IntKind.i64.wrap ((j : Int) + 1) = (j1 : Int) := by rw [IntWalk.i64_in _ (by omega)]; omega
      have w3' : IntKind.i64.wrap ((v : Int) - (u : Int)) = (z : Int) := by rw [IntWalk.i64_in _ (by omega)]; omega
      have w4' : IntKind.i64.wrap ((I1 : Int) - 1) = (I : Int) := by rw [IntWalk.i64_in _ (by omega)]; omega
      have hk1' : (n : Int) ≤ (K : Int) := by omega
      have hk2' : (K : Int) ≤ (R.length : Int) := by omega
      rw [hRN] at hk2 LA hk2'
      clear hrd h hD hla hfr hp hS hlok hRN hcnt hoks hF hpr hq hqp hqf hqo o1 o2 hg1 hg2 hu hv hAe hgc1 hI hI1 hNN hqc hon hj hm hf hff hby hb1' hb2' hmono hj1 hz hlen
      obtain ⟨X, hX⟩ : ∃ X, readD s f (u : Int) (z : Int) = X := ⟨_, rfl⟩
      rw [hX] at RD hLr hrl
      obtain ⟨tx, x⟩ := X
      unfold RetR at RD
      dsimp only at RD hLr hrl
      rw [show BA tx = B tx from rfl] at RD
      clear hX
      by_cases hx : x = 0
      · subst hx
        rw [if_neg (by simp)] at hLr
        have PA := Lib.hid (fun (wx : World) => parse_any tx (by omega) 0 (K : Int) (wf_of (by omega) (by omega)) wx)
        obtain ⟨pd, pb, pe, hpv, hpl⟩ : ∃ pd pb pe, parseV tx 0 (K : Int) = (pd, pb, pe) ∧ lread s l (K : Int) = (pd, pe) := by
          rw [hLr]
          unfold parseV
          rcases parseP tx 0 (K : Int) with dd | ee
          · exact ⟨_, _, _, rfl, rfl⟩
          · exact ⟨_, _, _, rfl, rfl⟩
        rw [hpv] at PA
        have hr := Lib.hid hpl.symm
        clear hLr hpl hpv
        by_cases hmK : m = K
        · rw [if_pos hmK, decide_eq_true hmK] at hBS
          clear hmK
          go_enter Tryz.func32, Tryz.ntmps32
          go_wp2_with fail
          go_at_call 40
          (with_reducible refine (FI.out _ (G.refl w)).mono ?_)
          rintro e w1 ⟨rfl, hb1⟩
          clear FI
          go_wp2_with fail
          go_at_call 33
          (with_reducible refine (LA.out _ hb1).mono ?_)
          rintro e w2 ⟨rfl, hb2⟩
          replace hb2 := G.trans hb1 hb2
          replace c0 := G.cell c0 hb2
          replace c3 := G.cell c3 hb2
          replace lt := cell_lt c0
          clear LA hb1
          go_wp2_with fail
          go_at_call 73
          (with_reducible refine (hBS.out _ hb2).mono ?_)
          rintro e w3 ⟨rfl, hb3⟩
          replace c0 := G.cell c0 hb3
          replace c3 := G.cell c3 hb3
          replace hb3 := G.trans hb2 hb3
          replace lt := cell_lt c0
          replace k0 := G.cell k0 hb3
          replace k1 := G.cell k1 hb3
          replace u0 := G.cell u0 hb3
          replace u1 := G.cell u1 hb3
          have ltk := cell_lt k0
          have ltu := cell_lt u0
          dsimp only at ltk ltu
          clear hBS hb2
          have hba := G.alloc hb3 (.cells #[.int .i64 (m : Int), .slice (some ⟨G1, off1, none⟩) on qc] 105)
          go_wp2_with fail
          refine wp_region_ord [(0, 1), (1, 1), (2, 1), (3, 1), (4, 1), (5, 1), (6, 1), (8, 1), (9, 1), (10, 1), (11, 1), (12, 1), (13, 1), (14, 1), (15, 1), (16, 1), (17, 1), (18, 1), (19, 1), (20, 1), (21, 1), (22, 1), (23, 1), (24, 1), (7, 2), (25, 2), (26, 1), (27, 1), (28, 1), (29, 1), (30, 1)] [] 5 (by kernel_rfl) (by decide +kernel) ?_
          simp only [pickO, List.append_eq, List.cons_append, List.nil_append, List.getElem?_cons_succ, List.getElem?_cons_zero]
          intro w0 hG
          (repeat ((first | (with_reducible refine ord_q1 ?_) | (with_reducible refine ord_q0 ?_)); intro K hK; first | (refine Or.inr ⟨?_, ?_⟩; (focus (go_simp; first | done | (simp [undef]; done))); go_simp; (with_reducible refine hK _ ?_); clear hK K) | (refine Or.inl ⟨?_, ?_⟩; (focus (go_simp; done)); apply Exists.intro; refine And.intro ?_ ?_; (focus (first | (intro wq hq; obtain ⟨hcq, hfq⟩ := G.old hq; go_simp; (first | done | exact rfl); done) | (intro wq; go_simp; (first | done | exact rfl); done))); go_simp; (with_reducible refine hK _ ?_); clear hK K) | fail))
          (with_reducible refine ord_run ?_ hG)
          intro K hK
          go_simp
          go_at_call 62; (with_reducible refine (LF.out _ (G.trans hba hG.b)).mono ?_); rintro e w4 ⟨rfl, hb4⟩
          replace hG := Grew.trans hG hb4
          (try dsimp only)
          (with_reducible refine hK _ _ hG ?_)
          clear hK K
          (repeat ((first | (with_reducible refine ord_q1 ?_) | (with_reducible refine ord_q0 ?_)); intro K hK; first | (refine Or.inr ⟨?_, ?_⟩; (focus (go_simp; first | done | (simp [undef]; done))); go_simp; (with_reducible refine hK _ ?_); clear hK K) | (refine Or.inl ⟨?_, ?_⟩; (focus (go_simp; done)); apply Exists.intro; refine And.intro ?_ ?_; (focus (first | (intro wq hq; obtain ⟨hcq, hfq⟩ := G.old hq; go_simp; (first | done | exact rfl); done) | (intro wq; go_simp; (first | done | exact rfl); done))); go_simp; (with_reducible refine hK _ ?_); clear hK K) | fail))
          (with_reducible refine ord_run ?_ hG)
          intro K hK
          go_simp
          go_at_call 66; (with_reducible refine (RD.out _ (G.trans hba hG.b)).mono ?_); rintro e w4 ⟨rfl, hb4⟩
          replace hG := Grew.trans hG hb4
          (try dsimp only)
          (with_reducible refine hK _ _ hG ?_)
          clear hK K
          (repeat ((first | (with_reducible refine ord_q1 ?_) | (with_reducible refine ord_q0 ?_)); intro K hK; first | (refine Or.inr ⟨?_, ?_⟩; (focus (go_simp; first | done | (simp [undef]; done))); go_simp; (with_reducible refine hK _ ?_); clear hK K) | (refine Or.inl ⟨?_, ?_⟩; (focus (go_simp; done)); apply Exists.intro; refine And.intro ?_ ?_; (focus (first | (intro wq hq; obtain ⟨hcq, hfq⟩ := G.old hq; go_simp; (first | done | exact rfl); done) | (intro wq; go_simp; (first | done | exact rfl); done))); go_simp; (with_reducible refine hK _ ?_); clear hK K) | fail))
          (with_reducible refine ord_nil ?_)
          have hb4 := G.trans hba hG.b
          clear hG c0 c3 lt k0 k1 u0 u1 ltk ltu LF RD
          go_wp2_with fail
          go_at_call 16
          (with_reducible refine (PA.out _).mono ?_)
          unfold RetP
          rintro e w5 ⟨rfl, hb5⟩
          replace hb5 := G.trans hb4 hb5
          go_wp2_with fail
          refine bodyPost_ret (v := .tuple #[.string (B pd), .int .i64 pe]) (by simp only [results, Tryz.results32]; go_simp) rfl ?_
          exact RetR.mk hr.out.symm rfl hb5
        · rw [if_neg hmK, decide_eq_false hmK] at hBS
          clear hmK
          go_enter Tryz.func32, Tryz.ntmps32
          go_wp2_with fail
          go_at_call 40
          (with_reducible refine (FI.out _ (G.refl w)).mono ?_)
          rintro e w1 ⟨rfl, hb1⟩
          clear FI
          go_wp2_with fail
          go_at_call 33
          (with_reducible refine (LA.out _ hb1).mono ?_)
          rintro e w2 ⟨rfl, hb2⟩
          replace hb2 := G.trans hb1 hb2
          replace c0 := G.cell c0 hb2
          replace c3 := G.cell c3 hb2
          replace lt := cell_lt c0
          clear LA hb1
          go_wp2_with fail
          go_at_call 73
          (with_reducible refine (hBS.out _ hb2).mono ?_)
          rintro e w3 ⟨rfl, hb3⟩
          replace c0 := G.cell c0 hb3
          replace c3 := G.cell c3 hb3
          replace hb3 := G.trans hb2 hb3
          replace lt := cell_lt c0
          replace k0 := G.cell k0 hb3
          replace k1 := G.cell k1 hb3
          replace u0 := G.cell u0 hb3
          replace u1 := G.cell u1 hb3
          have ltk := cell_lt k0
          have ltu := cell_lt u0
          dsimp only at ltk ltu
          clear hBS hb2
          have hba := G.alloc hb3 (.cells #[.int .i64 (m : Int), .slice (some ⟨G1, off1, none⟩) on qc] 105)
          go_wp2_with fail
          refine wp_region_ord [(0, 1), (1, 1), (2, 1), (3, 1), (4, 1), (5, 1), (6, 1), (8, 1), (9, 1), (10, 1), (11, 1), (12, 1), (13, 1), (14, 1), (15, 1), (16, 1), (17, 1), (18, 1), (19, 1), (20, 1), (21, 1), (22, 1), (23, 1), (24, 1), (7, 2), (25, 2), (26, 1), (27, 1), (28, 1), (29, 1), (30, 1)] [] 5 (by kernel_rfl) (by decide +kernel) ?_
          simp only [pickO, List.append_eq, List.cons_append, List.nil_append, List.getElem?_cons_succ, List.getElem?_cons_zero]
          intro w0 hG
          (repeat ((first | (with_reducible refine ord_q1 ?_) | (with_reducible refine ord_q0 ?_)); intro K hK; first | (refine Or.inr ⟨?_, ?_⟩; (focus (go_simp; first | done | (simp [undef]; done))); go_simp; (with_reducible refine hK _ ?_); clear hK K) | (refine Or.inl ⟨?_, ?_⟩; (focus (go_simp; done)); apply Exists.intro; refine And.intro ?_ ?_; (focus (first | (intro wq hq; obtain ⟨hcq, hfq⟩ := G.old hq; go_simp; (first | done | exact rfl); done) | (intro wq; go_simp; (first | done | exact rfl); done))); go_simp; (with_reducible refine hK _ ?_); clear hK K) | fail))
          (with_reducible refine ord_run ?_ hG)
          intro K hK
          go_simp
          go_at_call 62; (with_reducible refine (LF.out _ (G.trans hba hG.b)).mono ?_); rintro e w4 ⟨rfl, hb4⟩
          replace hG := Grew.trans hG hb4
          (try dsimp only)
          (with_reducible refine hK _ _ hG ?_)
          clear hK K
          (repeat ((first | (with_reducible refine ord_q1 ?_) | (with_reducible refine ord_q0 ?_)); intro K hK; first | (refine Or.inr ⟨?_, ?_⟩; (focus (go_simp; first | done | (simp [undef]; done))); go_simp; (with_reducible refine hK _ ?_); clear hK K) | (refine Or.inl ⟨?_, ?_⟩; (focus (go_simp; done)); apply Exists.intro; refine And.intro ?_ ?_; (focus (first | (intro wq hq; obtain ⟨hcq, hfq⟩ := G.old hq; go_simp; (first | done | exact rfl); done) | (intro wq; go_simp; (first | done | exact rfl); done))); go_simp; (with_reducible refine hK _ ?_); clear hK K) | fail))
          (with_reducible refine ord_run ?_ hG)
          intro K hK
          go_simp
          go_at_call 66; (with_reducible refine (RD.out _ (G.trans hba hG.b)).mono ?_); rintro e w4 ⟨rfl, hb4⟩
          replace hG := Grew.trans hG hb4
          (try dsimp only)
          (with_reducible refine hK _ _ hG ?_)
          clear hK K
          (repeat ((first | (with_reducible refine ord_q1 ?_) | (with_reducible refine ord_q0 ?_)); intro K hK; first | (refine Or.inr ⟨?_, ?_⟩; (focus (go_simp; first | done | (simp [undef]; done))); go_simp; (with_reducible refine hK _ ?_); clear hK K) | (refine Or.inl ⟨?_, ?_⟩; (focus (go_simp; done)); apply Exists.intro; refine And.intro ?_ ?_; (focus (first | (intro wq hq; obtain ⟨hcq, hfq⟩ := G.old hq; go_simp; (first | done | exact rfl); done) | (intro wq; go_simp; (first | done | exact rfl); done))); go_simp; (with_reducible refine hK _ ?_); clear hK K) | fail))
          (with_reducible refine ord_nil ?_)
          have hb4 := G.trans hba hG.b
          clear hG c0 c3 lt k0 k1 u0 u1 ltk ltu LF RD
          go_wp2_with fail
          go_at_call 16
          (with_reducible refine (PA.out _).mono ?_)
          unfold RetP
          rintro e w5 ⟨rfl, hb5⟩
          replace hb5 := G.trans hb4 hb5
          go_wp2_with fail
          refine bodyPost_ret (v := .tuple #[.string (B pd), .int .i64 pe]) (by simp only [results, Tryz.results32]; go_simp) rfl ?_
          exact RetR.mk hr.out.symm rfl hb5
      · rw [if_pos hx] at hLr
        have hx2 : (x != 0) = true := by rw [bne_iff_ne]; exact hx
        have hr := Lib.hid hLr.symm
        clear hLr
        by_cases hmK : m = K
        · rw [if_pos hmK, decide_eq_true hmK] at hBS
          clear hmK
          go_enter Tryz.func32, Tryz.ntmps32
          go_wp2_with fail
          go_at_call 40
          (with_reducible refine (FI.out _ (G.refl w)).mono ?_)
          rintro e w1 ⟨rfl, hb1⟩
          clear FI
          go_wp2_with fail
          go_at_call 33
          (with_reducible refine (LA.out _ hb1).mono ?_)
          rintro e w2 ⟨rfl, hb2⟩
          replace hb2 := G.trans hb1 hb2
          replace c0 := G.cell c0 hb2
          replace c3 := G.cell c3 hb2
          replace lt := cell_lt c0
          clear LA hb1
          go_wp2_with fail
          go_at_call 73
          (with_reducible refine (hBS.out _ hb2).mono ?_)
          rintro e w3 ⟨rfl, hb3⟩
          replace c0 := G.cell c0 hb3
          replace c3 := G.cell c3 hb3
          replace hb3 := G.trans hb2 hb3
          replace lt := cell_lt c0
          replace k0 := G.cell k0 hb3
          replace k1 := G.cell k1 hb3
          replace u0 := G.cell u0 hb3
          replace u1 := G.cell u1 hb3
          have ltk := cell_lt k0
          have ltu := cell_lt u0
          dsimp only at ltk ltu
          clear hBS hb2
          have hba := G.alloc hb3 (.cells #[.int .i64 (m : Int), .slice (some ⟨G1, off1, none⟩) on qc] 105)
          go_wp2_with fail
          refine wp_region_ord [(0, 1), (1, 1), (2, 1), (3, 1), (4, 1), (5, 1), (6, 1), (8, 1), (9, 1), (10, 1), (11, 1), (12, 1), (13, 1), (14, 1), (15, 1), (16, 1), (17, 1), (18, 1), (19, 1), (20, 1), (21, 1), (22, 1), (23, 1), (24, 1), (7, 2), (25, 2), (26, 1), (27, 1), (28, 1), (29, 1), (30, 1)] [] 5 (by kernel_rfl) (by decide +kernel) ?_
          simp only [pickO, List.append_eq, List.cons_append, List.nil_append, List.getElem?_cons_succ, List.getElem?_cons_zero]
          intro w0 hG
          (repeat ((first | (with_reducible refine ord_q1 ?_) | (with_reducible refine ord_q0 ?_)); intro K hK; first | (refine Or.inr ⟨?_, ?_⟩; (focus (go_simp; first | done | (simp [undef]; done))); go_simp; (with_reducible refine hK _ ?_); clear hK K) | (refine Or.inl ⟨?_, ?_⟩; (focus (go_simp; done)); apply Exists.intro; refine And.intro ?_ ?_; (focus (first | (intro wq hq; obtain ⟨hcq, hfq⟩ := G.old hq; go_simp; (first | done | exact rfl); done) | (intro wq; go_simp; (first | done | exact rfl); done))); go_simp; (with_reducible refine hK _ ?_); clear hK K) | fail))
          (with_reducible refine ord_run ?_ hG)
          intro K hK
          go_simp
          go_at_call 62; (with_reducible refine (LF.out _ (G.trans hba hG.b)).mono ?_); rintro e w4 ⟨rfl, hb4⟩
          replace hG := Grew.trans hG hb4
          (try dsimp only)
          (with_reducible refine hK _ _ hG ?_)
          clear hK K
          (repeat ((first | (with_reducible refine ord_q1 ?_) | (with_reducible refine ord_q0 ?_)); intro K hK; first | (refine Or.inr ⟨?_, ?_⟩; (focus (go_simp; first | done | (simp [undef]; done))); go_simp; (with_reducible refine hK _ ?_); clear hK K) | (refine Or.inl ⟨?_, ?_⟩; (focus (go_simp; done)); apply Exists.intro; refine And.intro ?_ ?_; (focus (first | (intro wq hq; obtain ⟨hcq, hfq⟩ := G.old hq; go_simp; (first | done | exact rfl); done) | (intro wq; go_simp; (first | done | exact rfl); done))); go_simp; (with_reducible refine hK _ ?_); clear hK K) | fail))
          (with_reducible refine ord_run ?_ hG)
          intro K hK
          go_simp
          go_at_call 66; (with_reducible refine (RD.out _ (G.trans hba hG.b)).mono ?_); rintro e w4 ⟨rfl, hb4⟩
          replace hG := Grew.trans hG hb4
          (try dsimp only)
          (with_reducible refine hK _ _ hG ?_)
          clear hK K
          (repeat ((first | (with_reducible refine ord_q1 ?_) | (with_reducible refine ord_q0 ?_)); intro K hK; first | (refine Or.inr ⟨?_, ?_⟩; (focus (go_simp; first | done | (simp [undef]; done))); go_simp; (with_reducible refine hK _ ?_); clear hK K) | (refine Or.inl ⟨?_, ?_⟩; (focus (go_simp; done)); apply Exists.intro; refine And.intro ?_ ?_; (focus (first | (intro wq hq; obtain ⟨hcq, hfq⟩ := G.old hq; go_simp; (first | done | exact rfl); done) | (intro wq; go_simp; (first | done | exact rfl); done))); go_simp; (with_reducible refine hK _ ?_); clear hK K) | fail))
          (with_reducible refine ord_nil ?_)
          have hb4 := G.trans hba hG.b
          clear hG c0 c3 lt k0 k1 u0 u1 ltk ltu LF RD
          go_wp2_with fail
          refine bodyPost_ret (v := .tuple #[.string ⟨#[]⟩, .int .i64 x]) (by simp only [results, Tryz.results32]; go_simp) rfl ?_
          exact RetR.mk hr.out.symm rfl hb4
        · rw [if_neg hmK, decide_eq_false hmK] at hBS
          clear hmK
          go_enter Tryz.func32, Tryz.ntmps32
          go_wp2_with fail
          go_at_call 40
          (with_reducible refine (FI.out _ (G.refl w)).mono ?_)
          rintro e w1 ⟨rfl, hb1⟩
          clear FI
          go_wp2_with fail
          go_at_call 33
          (with_reducible refine (LA.out _ hb1).mono ?_)
          rintro e w2 ⟨rfl, hb2⟩
          replace hb2 := G.trans hb1 hb2
          replace c0 := G.cell c0 hb2
          replace c3 := G.cell c3 hb2
          replace lt := cell_lt c0
          clear LA hb1
          go_wp2_with fail
          go_at_call 73
          (with_reducible refine (hBS.out _ hb2).mono ?_)
          rintro e w3 ⟨rfl, hb3⟩
          replace c0 := G.cell c0 hb3
          replace c3 := G.cell c3 hb3
          replace hb3 := G.trans hb2 hb3
          replace lt := cell_lt c0
          replace k0 := G.cell k0 hb3
          replace k1 := G.cell k1 hb3
          replace u0 := G.cell u0 hb3
          replace u1 := G.cell u1 hb3
          have ltk := cell_lt k0
          have ltu := cell_lt u0
          dsimp only at ltk ltu
          clear hBS hb2
          have hba := G.alloc hb3 (.cells #[.int .i64 (m : Int), .slice (some ⟨G1, off1, none⟩) on qc] 105)
          go_wp2_with fail
          refine wp_region_ord [(0, 1), (1, 1), (2, 1), (3, 1), (4, 1), (5, 1), (6, 1), (8, 1), (9, 1), (10, 1), (11, 1), (12, 1), (13, 1), (14, 1), (15, 1), (16, 1), (17, 1), (18, 1), (19, 1), (20, 1), (21, 1), (22, 1), (23, 1), (24, 1), (7, 2), (25, 2), (26, 1), (27, 1), (28, 1), (29, 1), (30, 1)] [] 5 (by kernel_rfl) (by decide +kernel) ?_
          simp only [pickO, List.append_eq, List.cons_append, List.nil_append, List.getElem?_cons_succ, List.getElem?_cons_zero]
          intro w0 hG
          (repeat ((first | (with_reducible refine ord_q1 ?_) | (with_reducible refine ord_q0 ?_)); intro K hK; first | (refine Or.inr ⟨?_, ?_⟩; (focus (go_simp; first | done | (simp [undef]; done))); go_simp; (with_reducible refine hK _ ?_); clear hK K) | (refine Or.inl ⟨?_, ?_⟩; (focus (go_simp; done)); apply Exists.intro; refine And.intro ?_ ?_; (focus (first | (intro wq hq; obtain ⟨hcq, hfq⟩ := G.old hq; go_simp; (first | done | exact rfl); done) | (intro wq; go_simp; (first | done | exact rfl); done))); go_simp; (with_reducible refine hK _ ?_); clear hK K) | fail))
          (with_reducible refine ord_run ?_ hG)
          intro K hK
          go_simp
          go_at_call 62; (with_reducible refine (LF.out _ (G.trans hba hG.b)).mono ?_); rintro e w4 ⟨rfl, hb4⟩
          replace hG := Grew.trans hG hb4
          (try dsimp only)
          (with_reducible refine hK _ _ hG ?_)
          clear hK K
          (repeat ((first | (with_reducible refine ord_q1 ?_) | (with_reducible refine ord_q0 ?_)); intro K hK; first | (refine Or.inr ⟨?_, ?_⟩; (focus (go_simp; first | done | (simp [undef]; done))); go_simp; (with_reducible refine hK _ ?_); clear hK K) | (refine Or.inl ⟨?_, ?_⟩; (focus (go_simp; done)); apply Exists.intro; refine And.intro ?_ ?_; (focus (first | (intro wq hq; obtain ⟨hcq, hfq⟩ := G.old hq; go_simp; (first | done | exact rfl); done) | (intro wq; go_simp; (first | done | exact rfl); done))); go_simp; (with_reducible refine hK _ ?_); clear hK K) | fail))
          (with_reducible refine ord_run ?_ hG)
          intro K hK
          go_simp
          go_at_call 66; (with_reducible refine (RD.out _ (G.trans hba hG.b)).mono ?_); rintro e w4 ⟨rfl, hb4⟩
          replace hG := Grew.trans hG hb4
          (try dsimp only)
          (with_reducible refine hK _ _ hG ?_)
          clear hK K
          (repeat ((first | (with_reducible refine ord_q1 ?_) | (with_reducible refine ord_q0 ?_)); intro K hK; first | (refine Or.inr ⟨?_, ?_⟩; (focus (go_simp; first | done | (simp [undef]; done))); go_simp; (with_reducible refine hK _ ?_); clear hK K) | (refine Or.inl ⟨?_, ?_⟩; (focus (go_simp; done)); apply Exists.intro; refine And.intro ?_ ?_; (focus (first | (intro wq hq; obtain ⟨hcq, hfq⟩ := G.old hq; go_simp; (first | done | exact rfl); done) | (intro wq; go_simp; (first | done | exact rfl); done))); go_simp; (with_reducible refine hK _ ?_); clear hK K) | fail))
          (with_reducible refine ord_nil ?_)
          have hb4 := G.trans hba hG.b
          clear hG c0 c3 lt k0 k1 u0 u1 ltk ltu LF RD
          go_wp2_with fail
          refine bodyPost_ret (v := .tuple #[.string ⟨#[]⟩, .int .i64 x]) (by simp only [results, Tryz.results32]; go_simp) rfl ?_
          exact RetR.mk hr.out.symm rfl hb4
end
end Go.Proofs.YtbafnlccpbonmaaGreatDoor
