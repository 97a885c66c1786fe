/- Roots: Sort of the reference. -/
import Derived.Test.YtekikfdlnkcenaaRsE
namespace Go.Proofs.Ytekikfdlnkcenaa
open Go.RowKit Go.Sort
theorem insR_asc {Y : List Rt} {x : Rt} {q : Nat} (h : AscR Y) (hq : q ≤ Y.length) (h1 : ∀ j (hj : j < Y.length), q ≤ j → cmpRt x Y[j] < 0) (h2 : ∀ (h0 : 0 < q), cmpRt Y[q - 1] x < 0) : AscR (Y.take q ++ x :: Y.drop q) := by
  have hs := h
  unfold AscR at hs
  rw [← List.take_append_drop q Y, List.pairwise_append] at hs
  obtain ⟨a1, a2, a3⟩ := hs
  unfold AscR
  rw [List.pairwise_append]
  refine ⟨a1, List.pairwise_cons.2 ⟨fun y hy => ?_, a2⟩, fun y hy z hz => ?_⟩
  · obtain ⟨j, hj, rfl⟩ := List.getElem_of_mem hy
    rw [List.getElem_drop]
    exact h1 _ _ (Nat.le_add_right _ _)
  · rcases List.mem_cons.1 hz with rfl | hz
    · obtain ⟨j, hj, rfl⟩ := List.mem_take_iff_getElem.1 hy
      have h0 : 0 < q := by omega
      have h3 := h2 h0
      rcases Nat.lt_or_eq_of_le (show j ≤ q - 1 by omega) with hlt | heq
      · exact cmpRt_trans (List.pairwise_iff_getElem.1 h j (q - 1) (by omega) (by omega) hlt) h3
      · subst heq; exact h3
    · exact a3 y hy z hz
theorem insR_mem {Y : List Rt} {x : Rt} (q : Nat) (z : Rt) : z ∈ Y.take q ++ x :: Y.drop q ↔ z ∈ Y ∨ z = x := by
  rw [List.mem_append, List.mem_cons]
  have : z ∈ Y ↔ z ∈ Y.take q ∨ z ∈ Y.drop q := by rw [← List.mem_append, List.take_append_drop]
  rw [this]
  constructor
  · rintro (h | h | h)
    · exact .inl (.inl h)
    · exact .inr h
    · exact .inl (.inr h)
  · rintro ((h | h) | h)
    · exact .inl h
    · exact .inr (.inr h)
    · exact .inr (.inl h)
/-- the exchange of x with the one before it -/
theorem swp_list {Y : List Rt} {x : Rt} {q : Nat} (hq : q + 1 ≤ Y.length) : ((Y.take (q + 1) ++ x :: Y.drop (q + 1)).set (q + 1) (Y[q])).set q x = Y.take q ++ x :: Y.drop q := by
  have e1 : Y.take (q + 1) = Y.take q ++ [Y[q]] := List.take_succ_eq_append_getElem (by omega)
  have e2 : Y.drop q = Y[q] :: Y.drop (q + 1) := List.drop_eq_getElem_cons (by omega)
  have l1 : (Y.take (q + 1)).length = q + 1 := by rw [List.length_take]; omega
  have l0 : (Y.take q).length = q := by rw [List.length_take]; omega
  rw [List.set_append_right _ _ (by omega), l1, Nat.sub_self, List.set_cons_zero, e2, e1, List.append_assoc, List.set_append_right _ _ (by omega), l0, Nat.sub_self]
  rfl
theorem ins_get {Y : List Rt} {x : Rt} {q : Nat} (hq : q + 1 ≤ Y.length) : ∃ (h1 : q + 1 < (Y.take (q + 1) ++ x :: Y.drop (q + 1)).length) (h0 : q < (Y.take (q + 1) ++ x :: Y.drop (q + 1)).length), (Y.take (q + 1) ++ x :: Y.drop (q + 1))[q + 1] = x ∧ (Y.take (q + 1) ++ x :: Y.drop (q + 1))[q] = Y[q] := by
  have l1 : (Y.take (q + 1)).length = q + 1 := by rw [List.length_take]; omega
  refine ⟨by simp; omega, by simp; omega, ?_, ?_⟩
  · rw [List.getElem_append_right (by omega)]; simp [l1]
  · rw [List.getElem_append_left (by omega), List.getElem_take]
theorem rsU_yes {X : List Rt} {k : Nat} (hk : k < X.length) (h : X[k] ∈ rsU (X.take k)) : rsU (X.take (k + 1)) = rsU (X.take k) := by
  refine (rsU_uniq (rsU_law _).1 fun z => ?_).symm
  rw [(rsU_law _).2, List.take_succ_eq_append_getElem hk, List.mem_append]
  constructor
  · exact .inl
  · rintro (h1 | h1)
    · exact h1
    · have : z = X[k] := by simpa using h1
      rw [this]; exact ((rsU_law _).2 _).1 h
theorem rsU_no {X : List Rt} {k q : Nat} (hk : k < X.length) (hq : q ≤ (rsU (X.take k)).length) (h1 : ∀ j (hj : j < (rsU (X.take k)).length), q ≤ j → cmpRt X[k] (rsU (X.take k))[j] < 0) (h2 : ∀ (h0 : 0 < q), cmpRt ((rsU (X.take k))[q - 1]) X[k] < 0) :
    (rsU (X.take k)).take q ++ X[k] :: (rsU (X.take k)).drop q = rsU (X.take (k + 1)) := by
  refine rsU_uniq (insR_asc (rsU_law _).1 hq h1 h2) fun z => ?_
  rw [insR_mem, (rsU_law _).2, List.take_succ_eq_append_getElem hk, List.mem_append]
  simp
set_option maxRecDepth 20000 in
set_option maxHeartbeats 1000000 in
theorem refSortR_any (Γ : Gam) (A : Option Addr) (n c : Nat) (X : List Rt) (hn5 : n ≤ 65535) (w : World) (ok : Ok Γ w) (h : RtRow w A n X) :
    Calls Try.prog 20 #[.slice A n c] w (RtsP Γ w (rsU X)) := by
  have M := bx (MM.start ok)
  have HR := bx h
  have LN := bx h.1
  clear h ok
  go_enter Try.func20, Try.ntmps20
  go_wp2_with fail
  go_loopw [3, 4] (fun s i wr => ∃ (k : Nat) (A1 : Option Addr) (c1 : Nat), k ≤ n ∧ i = .int .i64 k ∧ s = .slice A1 (rsU (X.take k)).length c1 ∧ MM Γ w Γ wr [] [⟨.slice A1 (rsU (X.take k)).length c1, 33, 32, (rsU (X.take k)).length, rts (rsU (X.take k))⟩]) (fun _ i _ => n - (intOf i).toNat)
  case atStart => exact ⟨0, none, 0, Nat.zero_le _, rfl, rfl, M.out.row0 _ _⟩
  case round =>
    obtain ⟨k, A1, c1, hk, rfl, rfl, hM⟩ := hrel
    clear M
    have M := bx hM
    clear hM
    by_cases hkn : k < n
    · have hkl : k < X.length := by rw [LN.out]; exact hkn
      obtain ⟨ad, rfl, hc⟩ := (HR.out.below M.out.ext.bel).at k hkl
      have HC := bx hc
      have hki : (k : Int) < (n : Int) := by omega
      have hk0 : 0 ≤ (k : Int) := by omega
      obtain ⟨Y, hY⟩ : ∃ Y, rsU (X.take k) = Y := ⟨_, rfl⟩
      obtain ⟨x, hx⟩ : ∃ x, X[k] = x := ⟨_, rfl⟩
      have YES : Bx (x ∈ Y → rsU (X.take (k + 1)) = Y) := ⟨fun h => by rw [← hY]; exact rsU_yes hkl (by rw [hx, hY]; exact h)⟩
      have NO : Bx (∀ q, q ≤ Y.length → (∀ j (hj : j < Y.length), q ≤ j → cmpRt x Y[j] < 0) → (∀ (h : q - 1 < Y.length) (h0 : 0 < q), cmpRt Y[q - 1] x < 0) → Y.take q ++ x :: Y.drop q = rsU (X.take (k + 1))) := ⟨fun q hq h1 h2 => by
        subst hY hx
        exact rsU_no hkl hq h1 (fun h0 => h2 (by omega) h0)⟩
      have LEN : Bx (Y.length ≤ k) := ⟨by have := rsU_len (X.take k); rw [List.length_take, hY] at this; omega⟩
      have LX : Bx (∀ j u, (rc x)[j]? = some u → wr.cell? ((ad.add (k * 32)).add j) = some u) := ⟨by have := hc wr (Below.refl _ _); rw [hx] at this; exact this⟩
      have ASC : Bx (AscR Y) := ⟨by rw [← hY]; exact (rsU_law _).1⟩
      have HX := bx hx
      rw [hY] at M ⊢
      clear hc hx hY
      have hYl := LEN.out
      go_wp2_with (first | ((with_reducible apply wpList_ldAr LX.out); rfl; rfl; rfl))
      refine (refContainsR_any A1 Y.length c1 Y x (by omega) _ ⟨rfl, Row.own (M.out.rows _ (List.mem_cons_self ..))⟩).mono ?_; rintro e w2 ⟨rfl, hb⟩
      have M' := M.out.below hb
      (clear M; have M := bx M'; clear M')
      have LX2 : Bx (∀ j u, (rc x)[j]? = some u → w2.cell? ((ad.add (k * 32)).add j) = some u) := ⟨fun j u hu => by
        have h1 := LX.out j u hu
        have h2 : ((ad.add (k * 32)).add j).block < wr.heap.size := cell_block_lt h1
        exact (hb.cell h2).trans h1⟩
      clear hb LX
      by_cases hmem : x ∈ Y
      · have Y1 := bx (YES.out hmem)
        rw [decide_eq_true hmem]
        clear hmem YES NO
        go_wp2_with fail
        go_roundw
        case rel => exact ⟨k + 1, A1, c1, by omega, by go_num, by rw [Y1.out], by rw [Y1.out]; exact M.out⟩
        case measure => simp [intOf]; omega
      · rw [decide_eq_false hmem]
        have HMEM := bx hmem
        clear hmem YES
        go_wp2_with (first | ((with_reducible apply wpList_ldAr LX2.out); rfl; rfl; rfl) | ((with_reducible apply wpList_bs M.out elRt' (P := [rc x]) (ls := [32])); rfl; rfl; rfl; rfl; exact lenR _; rfl; intro w' g M' hb'; (clear M; have M := bx M'; clear M'); clear hb') | (at_builtin; (with_reducible apply wpList_pushE M.out elRt'); rfl; exact rc_one _; (unfold maxLen; omega); omega; rfl; rfl; rfl; rfl; intro A' c' w' M'; (clear M; have M := bx M'; clear M')))
        have M0 : Bx (MM Γ w Γ w' [] [⟨.slice A' (Y.length + 1) c', 33, 32, Y.length + 1, rts (Y.take Y.length ++ x :: Y.drop Y.length)⟩]) := ⟨by
          have := M.out
          rw [show rts (Y.take Y.length ++ x :: Y.drop Y.length) = rts Y ++ fl [rc x] by simp [rts, fl]]
          exact this⟩
        clear M
        have M := M0
        clear M0 LX2
        obtain ⟨g, rfl, _, _⟩ := M.out.rowHd (Nat.succ_pos _)
        go_wp2_with fail
        go_loopw [5] (fun i wr => ∃ (q : Nat), q ≤ Y.length ∧ i = .int .i64 q ∧ (∀ j (hj : j < Y.length), q ≤ j → cmpRt x Y[j] < 0) ∧ MM Γ w Γ wr [] [⟨.slice (some ⟨g, 0, none⟩) (Y.length + 1) c', 33, 32, Y.length + 1, rts (Y.take q ++ x :: Y.drop q)⟩]) (fun i _ => (intOf i).toNat)
        case atStart => exact ⟨Y.length, Nat.le_refl _, by go_num, fun j hj h => by omega, M.out⟩
        case round =>
          obtain ⟨q, hq, rfl, hlt, hM⟩ := hrel
          clear M
          have M := bx hM
          have HLT := bx hlt
          clear hM hlt
          cases q with
          | zero =>
            have HU := bx (NO.out 0 hq HLT.out (fun _ h0 => absurd h0 (Nat.lt_irrefl _)))
            have HLN : Bx (Y.length + 1 = (rsU (X.take (k + 1))).length) := ⟨by rw [← HU.out]; simp⟩
            go_wp2_with fail
            refine region_cls wr.heap.size (by kernel_rfl) (by kernel_rfl) ?_
            repeat (first | go_big_quiet_skip | (go_big_quiet_want; first | fail | (go_big_quiet_op; first | go_big_quiet_on | ((with_reducible refine ⟨_, fun _ _ => rfl, ?_⟩); go_big_quiet_on))))
            refine wpQuiet_nil ?_; intro w4 hw4; have M' := M.out.below hw4.out; (clear M; have M := bx M'; clear M'); clear hw4
            go_wp2_with fail
            go_roundw
            case rel => exact ⟨k + 1, some ⟨g, 0, none⟩, c', by omega, by go_num, by rw [← HLN.out], by rw [← HLN.out, ← HU.out]; exact M.out⟩
            case measure => simp [intOf]; omega
          | succ q =>
            have hq0 : (0 : Int) < (q : Int) + 1 := by omega
            have hqq0 : (0 : Int) ≤ (q : Int) := by omega
            have hql : (q : Int) + 1 < (Y.length : Int) + 1 := by omega
            have hYk : (Y.length : Int) ≤ 65535 := by omega
            obtain ⟨h1, h0, e1, e0⟩ := ins_get (x := x) hq
            have R1 := bx (M.out.rootAt (q + 1) h1)
            have R0 := bx (M.out.rootAt q h0)
            rw [e1] at R1
            rw [e0] at R0
            have HSW := bx (swp_list (x := x) hq)
            have IG := bx (ins_get (x := x) hq)
            have HUN := bx (fun h2 => NO.out (q + 1) hq HLT.out h2)
            have hqY : q < Y.length := by omega
            have HLT2 : Bx (cmpRt x Y[q] < 0 → ∀ j (hj : j < Y.length), q ≤ j → cmpRt x Y[j] < 0) := ⟨fun h j hj hqj => by
              rcases Nat.lt_or_eq_of_le hqj with h3 | h3
              · exact HLT.out j hj h3
              · subst h3; exact h⟩
            have HNE : Bx (¬ cmpRt x Y[q] < 0 → Y.take (q + 1) ++ x :: Y.drop (q + 1) = rsU (X.take (k + 1)) ∨ x = Y[q]) := ⟨fun h => by
              by_cases hz : cmpRt x Y[q] = 0
              · exact .inr (cmpRt_zero hz)
              · refine .inl (HUN.out fun _ _ => ?_)
                have h4 := cmpRt_flip x Y[q]
                simp only [Nat.add_sub_cancel]
                omega⟩
            have CC := bx (fun w1 (_ : Cls wr.heap.size wr w1) => refCmpRt_any x Y[q] w1)
            have NM : Bx (x ≠ Y[q]) := ⟨fun e => HMEM.out (e ▸ List.getElem_mem hqY)⟩
            clear h1 h0 e1 e0
            generalize Y[q] = y at *
            generalize hv : cmpRt x y = v at *
            clear hv
            by_cases hv0 : v < 0
            · have HLT3 := bx (HLT2.out hv0)
              go_wp2_with fail
              refine region_cls wr.heap.size (by kernel_rfl) (by kernel_rfl) ?_
              repeat (first | go_big_quiet_skip | (go_big_quiet_want; first | (first | ((with_reducible apply quiet_ranged); rfl; rfl; exact rtRoot; exact R1.out; exact rc_len _; go_big_quiet_on; (simp only [Act.put, List.setIfInBounds_toArray, List.set_cons_succ, List.set_cons_zero])) | ((with_reducible apply quiet_ranged); rfl; rfl; exact rtRoot; exact R0.out; exact rc_len _; go_big_quiet_on; (simp only [Act.put, List.setIfInBounds_toArray, List.set_cons_succ, List.set_cons_zero])) | ((refine quiet_call (quietB CC.out) Try.func54 rfl rfl rfl ?_ ?_); rfl; go_big_quiet_on; (simp only [Act.put, List.setIfInBounds_toArray, List.set_cons_succ, List.set_cons_zero]))) | (go_big_quiet_op; first | go_big_quiet_on | ((with_reducible refine ⟨_, fun _ _ => rfl, ?_⟩); go_big_quiet_on))))
              refine wpQuiet_nil ?_
              intro w4 hw4
              have M' := M.out.below hw4.out
              (clear M; have M := bx M'; clear M')
              clear hw4 R1 R0 CC
              go_wp2_with fail
              refine wp_region_mix6 [15, 17] (.steps [(1, 0), (1, 1), (1, 2), (1, 3), (1, 4), (1, 5), (1, 6), (1, 7), (1, 8), (0, 9), (1, 10), (1, 11), (1, 12), (0, 13), (1, 14), (3, 15), (1, 16), (3, 17)] .leaf) (by kernel_rfl) (by kernel_rfl) ?_
              simp only [MixT6, MT.steps, stepAt, List.getD_cons_zero, List.getD_cons_succ]
              have M' := M.out.drew
              (clear M; have M := bx M'; clear M')
              obtain ⟨h1, h0, e1, e0⟩ := IG.out
              have R1 := bx (M.out.rootAt (q + 1) h1)
              have R0 := bx (M.out.rootAt q h0)
              rw [e1] at R1
              rw [e0] at R0
              have H1 := bx h1
              have H0 := bx h0
              clear h1 h0 e1 e0
              repeat (first | (with_reducible refine wpQuiet_nil ?_) | (first | go_big_quiet_skip | (go_big_quiet_want; first | (first | ((with_reducible apply quiet_ranged); rfl; rfl; exact rtRoot; exact R1.out; exact rc_len _; go_big_quiet_on; (simp only [Act.put, List.setIfInBounds_toArray, List.set_cons_succ, List.set_cons_zero])) | ((with_reducible apply quiet_ranged); rfl; rfl; exact rtRoot; exact R0.out; exact rc_len _; go_big_quiet_on; (simp only [Act.put, List.setIfInBounds_toArray, List.set_cons_succ, List.set_cons_zero]))) | (go_big_quiet_op; first | go_big_quiet_on | ((with_reducible refine ⟨_, fun _ _ => rfl, ?_⟩); go_big_quiet_on)))))
              clear R1 R0
              refine mix_stE (f := rc) (X := Y.take (q + 1) ++ x :: Y.drop (q + 1)) M.out (fun x _ => rc_len x) (q + 1) H1.out y (rc_len y) (rc_one y) rfl rfl rfl rtRoot rfl ?_
              intro w5 M'
              (clear M; have M := bx M'; clear M')
              simp only [Act.put, List.setIfInBounds_toArray, List.set_cons_succ, List.set_cons_zero]
              repeat (first | (with_reducible refine wpQuiet_nil ?_) | (first | go_big_quiet_skip | (go_big_quiet_want; first | fail | (go_big_quiet_op; first | go_big_quiet_on | ((with_reducible refine ⟨_, fun _ _ => rfl, ?_⟩); go_big_quiet_on)))))
              refine mix_stE (f := rc) (X := (Y.take (q + 1) ++ x :: Y.drop (q + 1)).set (q + 1) y) M.out (fun x _ => rc_len x) q (by rw [List.length_set]; exact H0.out) x (rc_len x) (rc_one x) rfl rfl rfl rtRoot rfl ?_
              intro w6 M'
              rw [HSW.out] at M'
              (clear M; have M := bx M'; clear M')
              simp only [Act.put, List.setIfInBounds_toArray, List.set_cons_succ, List.set_cons_zero]
              refine NoPanic.normal ?_
              go_wp2_with fail
              go_roundw
              case rel => exact ⟨q, by omega, by go_num, HLT3.out, M.out⟩
              case measure => simp [intOf]
            · have HU : Bx (Y.take (q + 1) ++ x :: Y.drop (q + 1) = rsU (X.take (k + 1))) := ⟨(HNE.out hv0).resolve_right NM.out⟩
              have HLN : Bx (Y.length + 1 = (rsU (X.take (k + 1))).length) := ⟨by rw [← HU.out]; simp; omega⟩
              go_wp2_with fail
              refine region_cls wr.heap.size (by kernel_rfl) (by kernel_rfl) ?_
              repeat (first | go_big_quiet_skip | (go_big_quiet_want; first | (first | ((with_reducible apply quiet_ranged); rfl; rfl; exact rtRoot; exact R1.out; exact rc_len _; go_big_quiet_on; (simp only [Act.put, List.setIfInBounds_toArray, List.set_cons_succ, List.set_cons_zero])) | ((with_reducible apply quiet_ranged); rfl; rfl; exact rtRoot; exact R0.out; exact rc_len _; go_big_quiet_on; (simp only [Act.put, List.setIfInBounds_toArray, List.set_cons_succ, List.set_cons_zero])) | ((refine quiet_call (quietB CC.out) Try.func54 rfl rfl rfl ?_ ?_); rfl; go_big_quiet_on; (simp only [Act.put, List.setIfInBounds_toArray, List.set_cons_succ, List.set_cons_zero]))) | (go_big_quiet_op; first | go_big_quiet_on | ((with_reducible refine ⟨_, fun _ _ => rfl, ?_⟩); go_big_quiet_on))))
              refine wpQuiet_nil ?_; intro w4 hw4; have M' := M.out.below hw4.out; (clear M; have M := bx M'; clear M'); clear hw4
              go_wp2_with fail
              go_roundw
              case rel => exact ⟨k + 1, some ⟨g, 0, none⟩, c', by omega, by go_num, by rw [← HLN.out], by rw [← HLN.out, ← HU.out]; exact M.out⟩
              case measure => simp [intOf]; omega
    · obtain rfl : k = n := by omega
      rw [List.take_of_length_le (by rw [LN.out]; exact Nat.le_refl _)] at M ⊢
      go_wp2_with fail
      go_ret
      obtain ⟨Γ', h1, h2, h3, h4⟩ := M.out.frz
      exact ⟨A1, c1, Γ', rfl, h1, h2, h4.ext⟩
end Go.Proofs.Ytekikfdlnkcenaa
