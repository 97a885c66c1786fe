/- Roots compared by the reference; checkpoints compared. -/
import Derived.Test.YtekikfdlnkcenaaLaysR
import Derived.Test.YtekikfdlnkcenaaTyA
import Derived.Test.YtekikfdlnkcenaaMmP
namespace Go.Proofs.Ytekikfdlnkcenaa
open Go.RowKit
theorem getD_get (l : List Int) (k : Nat) (h : k < l.length) : l.getD k 0 = l[k] := by simp [List.getD_eq_getElem?_getD, List.getElem?_eq_getElem h]

theorem cmpI_lt : ∀ (k : Nat) (a b : List Int), k < a.length → a.length = b.length → a.take k = b.take k → a.getD k 0 < b.getD k 0 → cmpI a b = -1
  | 0, [], _, h, _, _, _ => by simp at h
  | 0, a :: xs, b :: ys, _, _, _, h => by simp at h; simp [cmpI, h]
  | 0, _ :: _, [], _, h, _, _ => by simp at h
  | k + 1, [], _, h, _, _, _ => by simp at h
  | k + 1, _ :: _, [], _, h, _, _ => by simp at h
  | k + 1, a :: xs, b :: ys, h1, h2, h3, h4 => by
    simp only [List.take_succ_cons, List.cons.injEq] at h3
    obtain ⟨rfl, h3⟩ := h3
    have := cmpI_lt k xs ys (by simpa using h1) (by simpa using h2) h3 (by simpa using h4)
    simp [cmpI, this]
theorem cmpI_gt : ∀ (k : Nat) (a b : List Int), k < a.length → a.length = b.length → a.take k = b.take k → b.getD k 0 < a.getD k 0 → cmpI a b = 1
  | 0, [], _, h, _, _, _ => by simp at h
  | 0, a :: xs, b :: ys, _, _, _, h => by simp at h; simp [cmpI, h]; omega
  | 0, _ :: _, [], _, h, _, _ => by simp at h
  | k + 1, [], _, h, _, _, _ => by simp at h
  | k + 1, _ :: _, [], _, h, _, _ => by simp at h
  | k + 1, a :: xs, b :: ys, h1, h2, h3, h4 => by
    simp only [List.take_succ_cons, List.cons.injEq] at h3
    obtain ⟨rfl, h3⟩ := h3
    have := cmpI_gt k xs ys (by simpa using h1) (by simpa using h2) h3 (by simpa using h4)
    simp [cmpI, this]
theorem cmpI_selfR : ∀ (a : List Int), cmpI a a = 0
  | [] => rfl
  | a :: xs => by simp [cmpI, cmpI_selfR xs]
theorem cmpI_zeroR : ∀ (a b : List Int), a.length = b.length → (cmpI a b = 0 ↔ a = b)
  | [], [], _ => by simp [cmpI]
  | [], _ :: _, h => by simp at h
  | _ :: _, [], h => by simp at h
  | a :: xs, b :: ys, h => by
    have ih := cmpI_zeroR xs ys (by simpa using h)
    unfold cmpI
    by_cases h1 : a < b
    · simp [h1]; intro e; omega
    · by_cases h2 : b < a
      · simp [h1, h2]; intro e; omega
      · have : a = b := by omega
        subst this
        simp [h1, ih]
theorem ref_compareRoots {a b : List Int} (ha : Fit .u8 a) (hb : Fit .u8 b) (la : a.length = 32) (lb : b.length = 32) (w : World) :
    Calls Try.prog 54 #[.agg (ints .u8 a).toArray, .agg (ints .u8 b).toArray] w fun e w' => e = .returned (.int .i64 (cmpI a b)) ∧ Below w.heap.size w w' := by
  obtain ⟨W, hW⟩ : ∃ W, W = (w.alloc (.cells (ints .u8 a).toArray 33)).alloc (.cells (ints .u8 b).toArray 33) := ⟨_, rfl⟩
  have hx : ∀ n k : Nat, ∀ hk : k < a.length, (W.drewN n).cell? ⟨w.heap.size, k, none⟩ = some (.int .u8 a[k]) := by
    intro n k hk
    subst hW
    have h1 := new_cells w (ints .u8 a) 33 k (.int .u8 a[k]) (by rw [ints, List.getElem?_map, List.getElem?_eq_getElem hk]; rfl)
    have hadd : (⟨w.heap.size, 0, none⟩ : Addr).add k = ⟨w.heap.size, k, none⟩ := by unfold Addr.add; split <;> simp_all
    rw [hadd] at h1
    exact (World.cell?_alloc_lt _ _ _ (by simp)).trans h1
  have hy : ∀ n k : Nat, ∀ hk : k < b.length, (W.drewN n).cell? ⟨w.heap.size + 1, k, none⟩ = some (.int .u8 b[k]) := by
    intro n k hk
    subst hW
    have h1 := new_cells (w.alloc (.cells (ints .u8 a).toArray 33)) (ints .u8 b) 33 k (.int .u8 b[k]) (by rw [ints, List.getElem?_map, List.getElem?_eq_getElem hk]; rfl)
    have hadd : (⟨w.heap.size + 1, 0, none⟩ : Addr).add k = ⟨w.heap.size + 1, k, none⟩ := by unfold Addr.add; split <;> simp_all
    simp only [World.size_alloc, hadd] at h1
    exact h1
  have HX := Lib.hid hx
  have HY := Lib.hid hy
  have HW := Lib.hid hW
  have hbel : Hid (∀ n, Below w.heap.size w (W.drewN n)) := fun n => below_dN (by subst hW; exact ((Below.refl _ _).alloc (Nat.le_refl _) _).alloc (by simp) _) n
  clear hx hy
  go_enter Try.func54, Try.ntmps54
  go_wp2
  go_loopw [5] (fun i wr => ∃ k m : Nat, k ≤ 32 ∧ i = .int .i64 k ∧ wr = W.drewN m ∧ a.take k = b.take k) (fun i _ => 32 - (intOf i).toNat)
  case atStart => exact ⟨0, 0, by omega, rfl, by rw [HW.out]; rfl, rfl⟩
  case round =>
    obtain ⟨k, m, hk, rfl, rfl, hkk⟩ := hrel
    have HK := Lib.hid hkk
    clear hkk
    by_cases hlt : k < 32
    · have h1 : ∀ n, (W.drewN n).cell? ⟨w.heap.size, k, none⟩ = some (.int .u8 (a.getD k 0)) := fun n => by rw [getD_get a k (by omega)]; exact HX.out n k (by omega)
      have h2 : ∀ n, (W.drewN n).cell? ⟨w.heap.size + 1, k, none⟩ = some (.int .u8 (b.getD k 0)) := fun n => by rw [getD_get b k (by omega)]; exact HY.out n k (by omega)
      have g1 : Hid (a.getD k 0 < b.getD k 0 → cmpI a b = -1) := fun h => cmpI_lt k a b (by omega) (by omega) HK.out h
      have g2 : Hid (b.getD k 0 < a.getD k 0 → cmpI a b = 1) := fun h => cmpI_gt k a b (by omega) (by omega) HK.out h
      have g3 : Hid (a.getD k 0 = b.getD k 0 → a.take (k + 1) = b.take (k + 1)) := fun h => by
        rw [List.take_succ_eq_append_getElem (by omega), List.take_succ_eq_append_getElem (by omega), HK.out, ← getD_get a k (by omega), ← getD_get b k (by omega), h]
      clear hW la lb
      generalize a.getD k 0 = x at *
      generalize b.getD k 0 = y at *
      by_cases c1 : x < y
      · go_wp2
        go_quiet (fail)
        go_wp2
        go_ret
        exact ⟨by rw [g1.out c1]; rfl, by repeat (first | exact hbel.out _ | apply below_dN)⟩
      · by_cases c2 : y < x
        · go_wp2
          go_quiet (fail)
          go_wp2
          go_quiet (fail)
          go_wp2
          go_ret
          exact ⟨by rw [g2.out c2]; rfl, by repeat (first | exact hbel.out _ | apply below_dN)⟩
        · have c3 := g3.out (by omega)
          have H3 := Lib.hid c3
          clear c3
          go_wp2
          go_quiet (fail)
          go_wp2
          go_quiet (fail)
          go_wp2
          go_roundw
          case rel => exact ⟨k + 1, _, by omega, by go_num, by first | rfl | (simp only [World.drewN_drewN]; rfl), H3.out⟩
          case measure => simp [intOf]; omega
    · have hkk : k = 32 := by omega
      subst hkk
      have e : a = b := by have := HK.out; rwa [List.take_of_length_le (by omega), List.take_of_length_le (by omega)] at this
      have h0 := Lib.hid ((cmpI_zeroR a b (by omega)).2 e)
      clear e hW la lb
      go_wp2
      go_ret
      exact ⟨by rw [h0.out]; rfl, hbel.out _⟩

theorem rt_fit (r : Rt) : Fit .u8 r.l := fun x hx => by
  have h := r.bt x hx
  simp only [Lit.wf, Bool.and_eq_true, decide_eq_true_eq]
  exact ⟨h.1, Int.le_of_lt_add_one h.2⟩
def cmpRt (a b : Rt) : Int := cmpI a.l b.l
theorem refCmpRt_any (a b : Rt) (w : World) : Calls Try.prog 54 #[.agg (rc a).toArray, .agg (rc b).toArray] w fun e w' => e = .returned (.int .i64 (cmpRt a b)) ∧ Below w.heap.size w w' := ref_compareRoots (rt_fit a) (rt_fit b) a.len b.len w
/-- checkpoints: by epoch, then by root -/
def cmpCp (a b : Cp) : Int := if a.e.n < b.e.n then -1 else if b.e.n < a.e.n then 1 else cmpRt a.r b.r
set_option maxRecDepth 20000 in
set_option maxHeartbeats 1000000 in
theorem refCmpCp_any (a b : Cp) (w : World) : Calls Try.prog 75 #[.agg (fl (cpP a)).toArray, .agg (fl (cpP b)).toArray] w fun e w' => e = .returned (.int .i64 (cmpCp a b)) ∧ Below w.heap.size w w' := by
  have M := bx (MM.start (ok_g0 w))
  have C1 := bx (fun h : a.e.n < b.e.n => show cmpCp a b = -1 by unfold cmpCp; rw [if_pos h])
  have C2 := bx (fun (h : ¬ a.e.n < b.e.n) (h' : b.e.n < a.e.n) => show cmpCp a b = 1 by unfold cmpCp; rw [if_neg h, if_pos h'])
  have C3 := bx (fun (h : ¬ a.e.n < b.e.n) (h' : ¬ b.e.n < a.e.n) => show cmpCp a b = cmpRt a.r b.r by unfold cmpCp; rw [if_neg h, if_neg h'])
  by_cases h1 : a.e.n < b.e.n
  · have D1 := bx (C1.out h1)
    have hi : (a.e.n : Int) < (b.e.n : Int) := by omega
    clear C1 C2 C3 h1
    go_enter Try.func75, Try.ntmps75
    go_wp2_with (first | ((with_reducible apply wpList_box M.out); rfl; rfl; rfl; exact cpP_len _; intro w' g M' hb'; (clear M; have M := bx M'; clear M'); clear hb') | ((with_reducible apply wpList_ldp M.out.at0); rfl; rfl; rfl; (first | exact rtRoot | exact rtCk | exact rtTb); rfl; rfl) | ((with_reducible apply wpList_ld1 M.out.at0); rfl; rfl; rfl; (first | exact otInt | exact otU64 | exact otU64s); rfl; rfl) | ((with_reducible apply wpList_lds M.out.at0); rfl; rfl; rfl; (first | exact rtRoot | exact rtCk | exact rtTb); rfl; (try simp only [Nat.reduceAdd, List.drop_zero, cut_cp, cut_tb, cut_tb_c])) | ((with_reducible apply wpList_ldp M.out.at1); rfl; rfl; rfl; (first | exact rtRoot | exact rtCk | exact rtTb); rfl; rfl) | ((with_reducible apply wpList_ld1 M.out.at1); rfl; rfl; rfl; (first | exact otInt | exact otU64 | exact otU64s); rfl; rfl) | ((with_reducible apply wpList_lds M.out.at1); rfl; rfl; rfl; (first | exact rtRoot | exact rtCk | exact rtTb); rfl; (try simp only [Nat.reduceAdd, List.drop_zero, cut_cp, cut_tb, cut_tb_c])))
    all_goals
      go_ret
      exact ⟨by rw [D1.out]; rfl, M.out.ext.bel⟩
  · by_cases h2 : b.e.n < a.e.n
    · have D1 := bx (C2.out h1 h2)
      have hi : ¬ (a.e.n : Int) < (b.e.n : Int) := by omega
      have hne : ((a.e.n : Int) != (b.e.n : Int)) = true := by rw [bne_iff_ne]; omega
      clear C1 C2 C3 h1 h2
      go_enter Try.func75, Try.ntmps75
      go_wp2_with (first | ((with_reducible apply wpList_box M.out); rfl; rfl; rfl; exact cpP_len _; intro w' g M' hb'; (clear M; have M := bx M'; clear M'); clear hb') | ((with_reducible apply wpList_ldp M.out.at0); rfl; rfl; rfl; (first | exact rtRoot | exact rtCk | exact rtTb); rfl; rfl) | ((with_reducible apply wpList_ld1 M.out.at0); rfl; rfl; rfl; (first | exact otInt | exact otU64 | exact otU64s); rfl; rfl) | ((with_reducible apply wpList_lds M.out.at0); rfl; rfl; rfl; (first | exact rtRoot | exact rtCk | exact rtTb); rfl; (try simp only [Nat.reduceAdd, List.drop_zero, cut_cp, cut_tb, cut_tb_c])) | ((with_reducible apply wpList_ldp M.out.at1); rfl; rfl; rfl; (first | exact rtRoot | exact rtCk | exact rtTb); rfl; rfl) | ((with_reducible apply wpList_ld1 M.out.at1); rfl; rfl; rfl; (first | exact otInt | exact otU64 | exact otU64s); rfl; rfl) | ((with_reducible apply wpList_lds M.out.at1); rfl; rfl; rfl; (first | exact rtRoot | exact rtCk | exact rtTb); rfl; (try simp only [Nat.reduceAdd, List.drop_zero, cut_cp, cut_tb, cut_tb_c])))
      go_ret
      exact ⟨by rw [D1.out]; rfl, M.out.ext.bel⟩
    · have D1 := bx (C3.out h1 h2)
      have hne : ((a.e.n : Int) != (b.e.n : Int)) = false := by rw [bne_eq_false_iff_eq]; omega
      clear C1 C2 C3 h1 h2
      go_enter Try.func75, Try.ntmps75
      go_wp2_with (first | ((with_reducible apply wpList_box M.out); rfl; rfl; rfl; exact cpP_len _; intro w' g M' hb'; (clear M; have M := bx M'; clear M'); clear hb') | ((with_reducible apply wpList_ldp M.out.at0); rfl; rfl; rfl; (first | exact rtRoot | exact rtCk | exact rtTb); rfl; rfl) | ((with_reducible apply wpList_ld1 M.out.at0); rfl; rfl; rfl; (first | exact otInt | exact otU64 | exact otU64s); rfl; rfl) | ((with_reducible apply wpList_lds M.out.at0); rfl; rfl; rfl; (first | exact rtRoot | exact rtCk | exact rtTb); rfl; (try simp only [Nat.reduceAdd, List.drop_zero, cut_cp, cut_tb, cut_tb_c])) | ((with_reducible apply wpList_ldp M.out.at1); rfl; rfl; rfl; (first | exact rtRoot | exact rtCk | exact rtTb); rfl; rfl) | ((with_reducible apply wpList_ld1 M.out.at1); rfl; rfl; rfl; (first | exact otInt | exact otU64 | exact otU64s); rfl; rfl) | ((with_reducible apply wpList_lds M.out.at1); rfl; rfl; rfl; (first | exact rtRoot | exact rtCk | exact rtTb); rfl; (try simp only [Nat.reduceAdd, List.drop_zero, cut_cp, cut_tb, cut_tb_c])))
      refine (refCmpRt_any a.r b.r _).mono ?_; rintro e w1 ⟨rfl, hb⟩
      have M' := M.out.below hb
      (clear M; have M := bx M'; clear M')
      clear hb
      go_wp2_with fail
      go_ret
      exact ⟨by rw [D1.out]; rfl, M.out.ext.bel⟩
end Go.Proofs.Ytekikfdlnkcenaa
