/- The program's Apply and the reference's agree: plain law. -/
import Derived.Test.YtonkgjengplppaaRefApM
namespace Go.Proofs.Ytonkgjengplppaa
def dP (ds : List Dl) (j : Nat) : Int := (ds.getD j ⟨0, 0⟩).p
def dM (ds : List Dl) (j : Nat) : Int := (ds.getD j ⟨0, 0⟩).m
theorem pL_sum {us : List Int} (h : Lk us) (ds : List Dl) (i : Nat) : ∀ n, n ≤ us.length → (pL ds (descN us i n)).sum = own us (i + 1) (dP ds) i n
  | 0, _ => rfl
  | n + 1, hn => by
    have ih := pL_sum h ds i n (by omega)
    have e := isAnc_eq h (a := i) (b := n) (by omega)
    unfold anc at e
    rw [own]
    by_cases ha : hat us (i + 1) n n = i
    · rw [decide_eq_true ha] at e
      rw [descN_yes e, if_pos ha, ← ih]
      unfold pL; rw [List.map_append, List.sum_append_int]; simp [dP]
    · rw [decide_eq_false ha] at e
      rw [descN_no e, if_neg ha, ← ih]; omega
theorem mL_sum {us : List Int} (h : Lk us) (ds : List Dl) (i : Nat) : ∀ n, n ≤ us.length → (mL ds (descN us i n)).sum = own us (i + 1) (dM ds) i n
  | 0, _ => rfl
  | n + 1, hn => by
    have ih := mL_sum h ds i n (by omega)
    have e := isAnc_eq h (a := i) (b := n) (by omega)
    unfold anc at e
    rw [own]
    by_cases ha : hat us (i + 1) n n = i
    · rw [decide_eq_true ha] at e
      rw [descN_yes e, if_pos ha, ← ih]
      unfold mL; rw [List.map_append, List.sum_append_int]; simp [dM]
    · rw [decide_eq_false ha] at e
      rw [descN_no e, if_neg ha, ← ih]; omega
theorem addDE_zero {a b : Dl} (h : addDE a b = 0) : a.p + b.p < 18446744073709551616 ∧ a.m + b.m < 18446744073709551616 ∧ addDV a b = ⟨a.p + b.p, a.m + b.m⟩ := by
  unfold addDE at h
  by_cases h1 : a.p + b.p < 18446744073709551616
  · rw [if_pos h1] at h
    unfold addE at h
    by_cases h2 : a.m + b.m < 18446744073709551616
    · refine ⟨h1, h2, ?_⟩
      unfold addDV addV; rw [if_pos h1, if_pos h2]
    · rw [if_neg h2] at h; cases h
  · rw [if_neg h1] at h; cases h
theorem addDE_not {a b : Dl} (h : addDE a b ≠ 0) : ¬ a.p + b.p < 18446744073709551616 ∨ ¬ a.m + b.m < 18446744073709551616 := by
  by_cases h1 : a.p + b.p < 18446744073709551616
  · right; intro h2
    apply h; unfold addDE addE; rw [if_pos h1, if_pos h2]
  · exact .inl h1
theorem getD_set_eq {α : Type} {l : List α} {i : Nat} {v d : α} (h : i < l.length) : (l.set i v).getD i d = v := by simp [List.getD, List.getElem?_set, h]
theorem getD_set_far {α : Type} {l : List α} {i j : Nat} {v d : α} (h : i ≠ j) : (l.set i v).getD j d = l.getD j d := by simp [List.getD, List.getElem?_set, h]
/-- the state behind the nodes from k on -/
structure AInv (us : List Int) (n : Nat) (ds : List Dl) (ws : List Int) (k : Nat) (x : St) : Prop where
  ok : SOk n x
  s : ∀ u, u < k → x.s.getD u ⟨0, 0⟩ = ⟨own us k (dP ds) u n, own us k (dM ds) u n⟩
  o : ∀ u, u < k → x.o.getD u 0 = ws.getD u 0
  r : ∀ i, k ≤ i → i < n → nodeR us n ds ws i = some (x.o.getD i 0)
theorem app_law {us : List Int} (h : Lk us) {n : Nat} (hn : n = us.length) {ds : List Dl} {ws : List Int} (hd : D64 ds) (hl : ds.length = n) : ∀ (k : Nat) (x : St), k ≤ n → AInv us n ds ws k x →
    (runA us k x = none ∧ ∃ i, i < k ∧ nodeR us n ds ws i = none) ∨ ∃ y, runA us k x = some y ∧ AInv us n ds ws 0 y
  | 0, x, _, hx => .inr ⟨x, rfl, hx⟩
  | k + 1, x, hk, hx => by
    have hs := hx.s k (by omega)
    have hkn : k < n := by omega
    have h64 := hx.ok.s.at (k := k) (by rw [hx.ok.ls]; exact hkn)
    have hp0 : ∀ j, j < n → 0 ≤ dP ds j := fun j hj => (hd.at (by rw [hl]; exact hj)).1.1
    have hm0 : ∀ j, j < n → 0 ≤ dM ds j := fun j hj => (hd.at (by rw [hl]; exact hj)).2.1
    have e1 := pL_sum h ds k n (by omega)
    have e2 := mL_sum h ds k n (by omega)
    have hN := nodeR_ok (us := us) (n := n) (ds := ds) (ws := ws) (i := k) (by rw [e1]; have := h64.1.2; rw [hs] at this; exact this) (by rw [e2]; have := h64.2.2; rw [hs] at this; exact this)
    rw [e1, e2, ← hs, ← hx.o k (by omega)] at hN
    have hrun : runA us (k + 1) x = (stepA (us.getD k 0) k x).bind (runA us k) := rfl
    by_cases hc : chgE (x.o.getD k 0) (x.s.getD k ⟨0, 0⟩) = 0
    · rw [if_neg (not_not_intro hc)] at hN
      have hset : ∀ i, k ≤ i → i < n → nodeR us n ds ws i = some ((x.o.set k (chgV (x.o.getD k 0) (x.s.getD k ⟨0, 0⟩))).getD i 0) := fun i hi hin => by
        by_cases hik : i = k
        · subst hik; rw [getD_set_eq (by rw [hx.ok.lo]; exact hin)]; exact hN
        · rw [getD_set_far (by omega)]; exact hx.r i (by omega) hin
      have hold : ∀ u, u < k → (x.o.set k (chgV (x.o.getD k 0) (x.s.getD k ⟨0, 0⟩))).getD u 0 = ws.getD u 0 := fun u hu => by
        rw [getD_set_far (by omega)]; exact hx.o u (by omega)
      rcases Nat.eq_zero_or_pos k with hk0 | hk0
      · subst hk0
        have hup : us.getD 0 0 = -1 := by
          rcases h 0 (by omega) with ⟨_, h1⟩ | ⟨u, hu, _⟩
          · exact h1
          · omega
        rw [hrun, hup, stepA_root hc (by decide)]
        exact .inr ⟨_, rfl, ⟨hx.ok.root hkn, fun u hu => absurd hu (Nat.not_lt_zero _), hold, hset⟩⟩
      · obtain ⟨u, hu, hue⟩ := h.up (i := k) (by omega) hk0
        have hsu := hx.s u (by omega)
        have o1 := own_step h (i := k) (u := u) (dP ds) hk0 (by omega) hu n (by omega)
        have o2 := own_step h (i := k) (u := u) (dM ds) hk0 (by omega) hu n (by omega)
        rw [if_pos hue] at o1 o2
        rw [hrun, hue]
        by_cases ha : addDE (x.s.getD u ⟨0, 0⟩) (x.s.getD k ⟨0, 0⟩) = 0
        · rw [stepA_up hc ha]
          obtain ⟨a1, a2, a3⟩ := addDE_zero ha
          have hinv : AInv us n ds ws k ⟨x.s.set u (addDV (x.s.getD u ⟨0, 0⟩) (x.s.getD k ⟨0, 0⟩)), x.o.set k (chgV (x.o.getD k 0) (x.s.getD k ⟨0, 0⟩))⟩ := by
            refine ⟨hx.ok.up hkn (by omega), fun v hv => ?_, hold, hset⟩
            by_cases hvu : v = u
            · subst hvu
              show (x.s.set v _).getD v _ = _
              rw [getD_set_eq (by rw [hx.ok.ls]; omega), a3, hsu, hs, o1, o2]
            · show (x.s.set u _).getD v _ = _
              rw [getD_set_far (by omega), hx.s v (by omega)]
              have p1 := own_step h (i := k) (u := v) (dP ds) hk0 (by omega) hv n (by omega)
              have p2 := own_step h (i := k) (u := v) (dM ds) hk0 (by omega) hv n (by omega)
              rw [if_neg (by rw [hue]; omega), Int.add_zero] at p1 p2
              rw [p1, p2]
          rcases app_law h hn hd hl k _ (by omega) hinv with ⟨r1, i, hi, r2⟩ | ⟨y, r1, r2⟩
          · exact .inl ⟨r1, i, by omega, r2⟩
          · exact .inr ⟨y, r1, r2⟩
        · rw [stepA_fail2 hc ha]
          refine .inl ⟨rfl, u, by omega, nodeR_bad ?_⟩
          rw [pL_sum h ds u n (by omega), mL_sum h ds u n (by omega)]
          have t1 := own_tot h hn hp0 (u := u) (k - u - 1) k (by omega) (by omega)
          have t2 := own_tot h hn hm0 (u := u) (k - u - 1) k (by omega) (by omega)
          unfold tot at t1 t2
          have hb := addDE_not ha
          rw [hsu, hs] at hb
          simp only at hb
          rcases hb with hb | hb
          · left; omega
          · right; omega
    · rw [if_pos hc] at hN
      rw [hrun, stepA_fail hc]
      exact .inl ⟨rfl, k, by omega, hN⟩
theorem app_start {us : List Int} {n : Nat} {ds : List Dl} {ws : List Int} (hd : D64 ds) (hw : U64 ws) (hl : ds.length = n) (hwl : ws.length = n) : AInv us n ds ws n ⟨ds, ws⟩ where
  ok := ⟨hl, hwl, hd, hw⟩
  s := fun u hu => by
    rw [own_all _ _ _ _ (Nat.le_refl _), own_all _ _ _ _ (Nat.le_refl _), if_pos hu, if_pos hu]; rfl
  o := fun u _ => rfl
  r := fun i h1 h2 => by omega
end Go.Proofs.Ytonkgjengplppaa
