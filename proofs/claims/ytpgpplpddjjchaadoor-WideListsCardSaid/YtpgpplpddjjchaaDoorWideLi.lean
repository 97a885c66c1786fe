/- Numbers of 256 bits: the law of Sum and Greatest. -/
import Derived.Test.YtpgpplpddjjchaaDoorWideX
import Derived.Test.YtpgpplpddjjchaaDoorWideN2
import Derived.Great.Walk
namespace Go.Proofs.YtpgpplpddjjchaaDoor
open Go.RowKit
theorem built1 (n : Nat) : Tryd.prog.builtSlice 24 1 [(0, .agg (ints .u64 (wl n)).toArray)] = some (ints .u64 (wl n)).toArray := by kernel_rfl
theorem info_wide : (Tryd.prog.info? 24).map (fun i => (i.zero, i.size, i.bytes)) = some (some (.agg #[.int .u64 0, .int .u64 0, .int .u64 0, .int .u64 0]), 4, 32) := by kernel_rfl
theorem topN_ge (xs : List Nat) : ∀ k j, j < k → xs.getD j 0 ≤ topN xs k
  | 0, j, h => absurd h (Nat.not_lt_zero _)
  | k + 1, j, h => by
    unfold topN
    rcases Nat.lt_or_eq_of_le (Nat.le_of_lt_succ h) with h1 | h1
    · have := topN_ge xs k j h1
      split <;> omega
    · subst h1
      split <;> omega
theorem topN_mem (xs : List Nat) : ∀ k, topN xs k = 0 ∨ ∃ j, j < k ∧ topN xs k = xs.getD j 0
  | 0 => .inl rfl
  | k + 1 => by
    unfold topN
    split
    · exact .inr ⟨k, Nat.lt_succ_self _, rfl⟩
    · rcases topN_mem xs k with h | ⟨j, hj, h⟩
      · exact .inl h
      · exact .inr ⟨j, Nat.lt_succ_of_lt hj, h⟩
theorem top_le {xs ys : List Nat} {n : Nat} (h : ∀ j, j < n → ∃ i, i < n ∧ xs.getD j 0 = ys.getD i 0) : topN xs n ≤ topN ys n := by
  rcases topN_mem xs n with h1 | ⟨j, hj, h1⟩
  · omega
  · obtain ⟨i, hi, e⟩ := h j hj
    rw [h1, e]; exact topN_ge ys n i hi
theorem getD_rev (xs : List Nat) (j : Nat) (h : j < xs.length) : xs.reverse.getD j 0 = xs.getD (xs.length - 1 - j) 0 := by
  rw [List.getD_eq_getElem?_getD, List.getD_eq_getElem?_getD, List.getElem?_reverse h]
theorem top_rev (xs : List Nat) : topN xs.reverse xs.length = topN xs xs.length := by
  apply Nat.le_antisymm
  · exact top_le fun j hj => ⟨xs.length - 1 - j, by omega, getD_rev xs j hj⟩
  · exact top_le fun j hj => ⟨xs.length - 1 - j, by omega, by rw [getD_rev xs _ (by omega)]; congr 1; omega⟩
theorem sum_rev (xs : List Nat) : xs.reverse.sum = xs.sum := by
  induction xs with
  | nil => rfl
  | cons x xs ih => rw [List.reverse_cons, List.sum_append, ih]; simp; omega
theorem rows_wide : ∀ {ls : List (List Int)}, (∀ l ∈ ls, l.length = 4 ∧ Fit .u64 l) → ∃ xs : List Nat, ls = xs.map wl ∧ ∀ x ∈ xs, x < 2 ^ 256
  | [], _ => ⟨[], rfl, fun _ h => absurd h List.not_mem_nil⟩
  | l :: ls, h => by
    obtain ⟨xs, h1, h2⟩ := rows_wide (fun y hy => h y (List.mem_cons_of_mem _ hy))
    obtain ⟨n, hn, rfl⟩ := wide_of (h l List.mem_cons_self).1 (h l List.mem_cons_self).2
    exact ⟨n :: xs, by rw [h1]; rfl, fun x hx => by
      rcases List.mem_cons.1 hx with rfl | hx
      · exact hn
      · exact h2 x hx⟩
theorem add_add (ad : Addr) (a b : Nat) : (ad.add a).add b = ad.add (a + b) := by
  unfold Addr.add
  by_cases ha : a = 0
  · simp [ha]
  · by_cases hb : b = 0
    · simp [hb]
    · rw [if_neg ha, if_neg hb, if_neg (by omega)]; simp [Nat.add_assoc]
theorem flat_at (xs : List Nat) (k : Nat) (hk : k < xs.length) (j : Nat) (u : Value) (hu : (wv xs[k])[j]? = some u) : (xs.flatMap wv)[k * 4 + j]? = some u := by
  have hj : j < (wv xs[k]).length := (List.getElem?_eq_some_iff.1 hu).1
  rw [flat_split xs k hk, List.append_assoc, List.getElem?_append_right (by rw [flat_pre xs k hk (fun x _ => wv_len x)]; omega), flat_pre xs k hk (fun x _ => wv_len x), Nat.add_sub_cancel_left, List.getElem?_append_left hj]
  exact hu
theorem grow_of_row {w : World} {A : Option Addr} {n : Nat} {xs : List Nat} (h : Row w w.heap.size 4 A n ((xs.map wl).flatMap (ints .u64))) (hl : xs.length = n) (hb : ∀ x ∈ xs, x < 2 ^ 256) : GRow w A n xs := by
  refine ⟨hl, hb, fun hn => ?_⟩
  have e : (xs.map wl).flatMap (ints .u64) = xs.flatMap wv := by rw [List.flatMap_map]; rfl
  rw [e] at h
  have h0 : (xs.flatMap wv)[0]? = some (.int .u64 (limb xs[0] 0)) := by
    have := flat_at xs 0 (by omega) 0 (.int .u64 (limb xs[0] 0)) rfl
    simpa using this
  obtain ⟨ad, h1, h2, _⟩ := h.2 0 _ h0
  refine ⟨ad, h1, h2, fun k hk j u hu => ?_⟩
  obtain ⟨ad', e', _, h4⟩ := h.2 (k * 4 + j) u (flat_at xs k hk j u hu)
  have : ad' = ad := Option.some.inj (e'.symm.trans h1)
  subst this
  rw [add_add]; exact h4
theorem grow_of_own {w : World} {base : Nat} {e : TypeId} {A : Option Addr} {n c : Nat} {xs : List Nat} (h : w.ownsRow base e 4 (.slice A n c) n (xs.flatMap wv)) (hl : xs.length = n) (hb : ∀ x ∈ xs, x < 2 ^ 256) : GRow w A n xs := by
  refine ⟨hl, hb, fun hn => ?_⟩
  obtain ⟨g, c', post, hv, _, hg⟩ := own_block h hn
  injection hv with h1 h2 h3
  refine ⟨⟨g, 0, none⟩, h1, hg.lt, fun k hk => ?_⟩
  have := hg.rangeP (k := 4) (fun x _ => wv_len x) k hk
  rw [Addr.add_mid, Nat.zero_add]
  intro j u hu
  rw [Addr.add_mid]
  exact this j u hu
theorem wideLists_long (A : Option Addr) (n c : Nat) (hl : 100 < n) (hm : n ≤ maxLen) (w : World) :
    Calls Tryd.prog 7 #[.slice A n c] w fun e w' => e = .returned (.bool true) ∧ Below w.heap.size w w' := by
  have AW := bx awake_any
  have hmm : n ≤ 9223372036854775807 := hm
  have h5 : (100 : Int) < (n : Int) := by omega
  go_enter Tryd.func7, Tryd.ntmps7
  go_wp2_with fail
  refine (AW.out _).mono ?_; rintro e w1 ⟨rfl, hb⟩
  have B1 := bx hb
  go_wp2_with fail
  go_ret
  exact ⟨rfl, B1.out⟩
set_option maxRecDepth 20000 in
set_option maxHeartbeats 2000000 in
theorem wideLists_go (A : Option Addr) (n c : Nat) (xs : List Nat) (w : World) (hr : GRow w A n xs) (hn : n ≤ 100) :
    Calls Tryd.prog 7 #[.slice A n c] w fun e w' => e = .returned (.bool true) ∧ Below w.heap.size w w' := by
  obtain ⟨i0, hi0, hz0, hz1, hz2⟩ := info_parts info_wide
  have HI := bx hi0
  have AW := bx awake_any
  have hz := wz_lit
  have HR := bx hr
  have HLEN := bx hr.1
  have HRB := bx hr.2.1
  have h5 : ¬ (100 : Int) < (n : Int) := by omega
  have X0 := bx (Has.new w (ints .u64 (wl 0)) 24)
  have B0 := bx (ext_alloc w (.cells (ints .u64 (wl 0)).toArray 24))
  clear hi0 hr
  go_enter Tryd.func7, Tryd.ntmps7
  go_wp2_with ((with_reducible refine wpList_storeB rfl 24 _ _ rfl _ (ints .u64 (wl 0)) _ ?_ ?_ X0.out (wl_len2 _ _) Tryd.underlying24 ?_ (wl_one _) ?_); rfl; rfl; exact cells_wide _; intro w1 hw hg hz0; have X1 := bx hw; have B1 := bx (B0.out.grown hg (by simp) (fun k hk => by cases hk; exact Nat.le_refl _)); clear hw hg hz0)
  go_loopw [3, 5] (fun s i wr => ∃ m j : Nat, m + j = n ∧ i = .int .i64 ((m : Int) - 1) ∧ (∃ A2 c2, s = .slice A2 j c2) ∧ wr.ownsRow (w.heap.size + 1) 24 4 s j ((xs.reverse.take j).flatMap wv) ∧ Has wr w.heap.size (ints .u64 (wl (topN xs.reverse j))) ∧ Below w.heap.size w wr) (fun _ i _ => (intOf i + 1).toNat)
  case atStart => exact ⟨n, 0, by omega, rfl, ⟨none, 0, rfl⟩, World.ownsRow_nil _ _ _ _, X1.out, B1.out⟩
  case round =>
    obtain ⟨m1, j, hmj, hi, ⟨A2, c2, rfl⟩, ho, hx0, hbel⟩ := hrel
    have Y0 := bx hx0
    have OW := bx ho
    have BY := bx hbel
    clear hx0 ho hbel
    rcases Nat.eq_zero_or_pos m1 with hm | hm
    · subst hm
      subst hi
      obtain rfl : j = n := by omega
      have e1 : xs.reverse.take j = xs.reverse := by rw [← HLEN.out, ← List.length_reverse, List.take_length]
      have HK_0 : Bx (GRow wr A2 j xs.reverse) := ⟨by
        have := OW.out
        rw [e1] at this
        exact grow_of_own this (by rw [List.length_reverse, HLEN.out]) (fun x hx => HRB.out x (List.mem_reverse.1 hx))⟩
      have HL_0 := bx (HR.out.below BY.out)
      have T_0 : Bx (Has wr w.heap.size (ints .u64 (wl (topN xs j)))) := ⟨by
        have := Y0.out
        rw [← HLEN.out, top_rev, HLEN.out] at this
        exact this⟩
      have B_0 := bx BY.out
      have hjm : j ≤ maxLen := by unfold maxLen; omega
      have CS : Bx (∀ w0 : World, GRow w0 A j xs → _) := ⟨fun w0 h => sumG_any A j c xs w0 h hjm⟩
      have CR : Bx (∀ w0 : World, GRow w0 A j xs → _) := ⟨fun w0 h => sumRG_any A j c xs w0 h hjm⟩
      have CB : Bx (∀ w0 : World, GRow w0 A2 j xs.reverse → _) := ⟨fun w0 h => sumG_any A2 j c2 xs.reverse w0 h hjm⟩
      have CG : Bx (∀ w0 : World, GRow w0 A j xs → _) := ⟨fun w0 h => greatestG_any A j c xs w0 h hjm⟩
      have CH : Bx (∀ w0 : World, GRow w0 A2 j xs.reverse → _) := ⟨fun w0 h => greatestG_any A2 j c2 xs.reverse w0 h hjm⟩
      rw [show topN xs.reverse j = topN xs j by rw [← HLEN.out, top_rev]] at CH
      rw [sum_rev] at CB
      have hq : ∀ (p : Nat) (w : World), (Op.equalIn 10000 24 (.agg (ints .u64 (wl p)).toArray) (.agg (ints .u64 (wl p)).toArray)).run Tryd.prog w = .ok true w := fun p w => by rw [wide_same, decide_eq_true rfl]
      clear e1 Y0 OW BY HR HRB
      generalize topN xs j = b at *
      generalize okW xs.sum = p at *
      generalize erW xs.sum = f at *
      go_wp2_with ((with_reducible refine wpList_loadG 24 _ rfl _ (ints .u64 (wl b)) ?_ ?_ T_0.out Tryd.underlying24 rfl ?_ ?_); rfl; rfl; exact cells_wide _)
      refine (CS.out _ HL_0.out).mono ?_; rintro e w1 ⟨rfl, hb⟩
      have HL_1 := bx (HL_0.out.below hb)
      have HK_1 := bx (HK_0.out.below hb)
      have T_1 := bx (T_0.out.below hb T_0.out.lt)
      have B_1 := bx (B_0.out.trans (hb.mono B_0.out.size))
      clear hb T_0 B_0
      clear HL_0 HK_0
      have YT_1 := bx (T_1.out.alloc (.cells (ints .u64 (wl 0)).toArray 24))
      have N_1 := bx (Has.new w1 (ints .u64 (wl 0)) 24)
      have C_1 := bx (B_1.out.alloc B_1.out.size (.cells (ints .u64 (wl 0)).toArray 24))
      go_wp2_with (first | ((with_reducible refine wpList_storeB rfl 24 _ _ rfl _ (ints .u64 (wl p)) _ ?_ ?_ N_1.out (wl_len2 _ _) Tryd.underlying24 ?_ (wl_one _) ?_); rfl; rfl; exact cells_wide _; intro w2 hw hg hz0; have P_2 := bx hw; have T_2 := bx (YT_1.out.grown hg (ne_som (Nat.ne_of_lt T_1.out.lt))); have B_2 := bx (C_1.out.grown hg C_1.out.size (fun k hk => by cases hk; exact B_1.out.size)); have HL_2 := bx (HL_1.out.below ((ext_alloc w1 _).grown hg (by simp) (fun k hk => by cases hk; exact Nat.le_refl _))); have HK_2 := bx (HK_1.out.below ((ext_alloc w1 _).grown hg (by simp) (fun k hk => by cases hk; exact Nat.le_refl _))); clear hw hg hz0) | ((with_reducible refine wpList_loadG 24 _ rfl _ (ints .u64 (wl b)) ?_ ?_ T_2.out Tryd.underlying24 rfl ?_ ?_); rfl; rfl; exact cells_wide _) | ((with_reducible refine wpList_loadG 24 _ rfl _ (ints .u64 (wl p)) ?_ ?_ P_2.out Tryd.underlying24 rfl ?_ ?_); rfl; rfl; exact cells_wide _))
      clear T_1 B_1 YT_1 N_1 C_1 HL_1 HK_1
      refine (CR.out _ HL_2.out).mono ?_; rintro e w3 ⟨rfl, hb⟩
      have HL_3 := bx (HL_2.out.below hb)
      have HK_3 := bx (HK_2.out.below hb)
      have T_3 := bx (T_2.out.below hb T_2.out.lt)
      have P_3 := bx (P_2.out.below hb P_2.out.lt)
      have B_3 := bx (B_2.out.trans (hb.mono B_2.out.size))
      clear hb T_2 P_2 B_2
      clear HL_2 HK_2
      have YT_3 := bx (T_3.out.alloc (.cells (ints .u64 (wl 0)).toArray 24))
      have YP_3 := bx (P_3.out.alloc (.cells (ints .u64 (wl 0)).toArray 24))
      have N_3 := bx (Has.new w3 (ints .u64 (wl 0)) 24)
      have C_3 := bx (B_3.out.alloc B_3.out.size (.cells (ints .u64 (wl 0)).toArray 24))
      go_wp2_with (first | ((with_reducible refine wpList_storeB rfl 24 _ _ rfl _ (ints .u64 (wl p)) _ ?_ ?_ N_3.out (wl_len2 _ _) Tryd.underlying24 ?_ (wl_one _) ?_); rfl; rfl; exact cells_wide _; intro w4 hw hg hz0; have Q_4 := bx hw; have T_4 := bx (YT_3.out.grown hg (ne_som (Nat.ne_of_lt T_3.out.lt))); have P_4 := bx (YP_3.out.grown hg (ne_som (Nat.ne_of_lt P_3.out.lt))); have B_4 := bx (C_3.out.grown hg C_3.out.size (fun k hk => by cases hk; exact B_3.out.size)); have HL_4 := bx (HL_3.out.below ((ext_alloc w3 _).grown hg (by simp) (fun k hk => by cases hk; exact Nat.le_refl _))); have HK_4 := bx (HK_3.out.below ((ext_alloc w3 _).grown hg (by simp) (fun k hk => by cases hk; exact Nat.le_refl _))); clear hw hg hz0) | ((with_reducible refine wpList_loadG 24 _ rfl _ (ints .u64 (wl b)) ?_ ?_ T_4.out Tryd.underlying24 rfl ?_ ?_); rfl; rfl; exact cells_wide _) | ((with_reducible refine wpList_loadG 24 _ rfl _ (ints .u64 (wl p)) ?_ ?_ P_4.out Tryd.underlying24 rfl ?_ ?_); rfl; rfl; exact cells_wide _) | ((with_reducible refine wpList_loadG 24 _ rfl _ (ints .u64 (wl p)) ?_ ?_ Q_4.out Tryd.underlying24 rfl ?_ ?_); rfl; rfl; exact cells_wide _))
      clear T_3 P_3 B_3 YT_3 YP_3 N_3 C_3 HL_3 HK_3
      refine (CB.out _ HK_4.out).mono ?_; rintro e w5 ⟨rfl, hb⟩
      have HL_5 := bx (HL_4.out.below hb)
      have HK_5 := bx (HK_4.out.below hb)
      have T_5 := bx (T_4.out.below hb T_4.out.lt)
      have P_5 := bx (P_4.out.below hb P_4.out.lt)
      have Q_5 := bx (Q_4.out.below hb Q_4.out.lt)
      have B_5 := bx (B_4.out.trans (hb.mono B_4.out.size))
      clear hb T_4 P_4 Q_4 B_4
      clear HL_4 HK_4
      have YT_5 := bx (T_5.out.alloc (.cells (ints .u64 (wl 0)).toArray 24))
      have YP_5 := bx (P_5.out.alloc (.cells (ints .u64 (wl 0)).toArray 24))
      have YQ_5 := bx (Q_5.out.alloc (.cells (ints .u64 (wl 0)).toArray 24))
      have N_5 := bx (Has.new w5 (ints .u64 (wl 0)) 24)
      have C_5 := bx (B_5.out.alloc B_5.out.size (.cells (ints .u64 (wl 0)).toArray 24))
      go_wp2_with (first | ((with_reducible refine wpList_storeB rfl 24 _ _ rfl _ (ints .u64 (wl p)) _ ?_ ?_ N_5.out (wl_len2 _ _) Tryd.underlying24 ?_ (wl_one _) ?_); rfl; rfl; exact cells_wide _; intro w6 hw hg hz0; have R_6 := bx hw; have T_6 := bx (YT_5.out.grown hg (ne_som (Nat.ne_of_lt T_5.out.lt))); have P_6 := bx (YP_5.out.grown hg (ne_som (Nat.ne_of_lt P_5.out.lt))); have Q_6 := bx (YQ_5.out.grown hg (ne_som (Nat.ne_of_lt Q_5.out.lt))); have B_6 := bx (C_5.out.grown hg C_5.out.size (fun k hk => by cases hk; exact B_5.out.size)); have HL_6 := bx (HL_5.out.below ((ext_alloc w5 _).grown hg (by simp) (fun k hk => by cases hk; exact Nat.le_refl _))); have HK_6 := bx (HK_5.out.below ((ext_alloc w5 _).grown hg (by simp) (fun k hk => by cases hk; exact Nat.le_refl _))); clear hw hg hz0) | ((with_reducible refine wpList_loadG 24 _ rfl _ (ints .u64 (wl b)) ?_ ?_ T_6.out Tryd.underlying24 rfl ?_ ?_); rfl; rfl; exact cells_wide _) | ((with_reducible refine wpList_loadG 24 _ rfl _ (ints .u64 (wl p)) ?_ ?_ P_6.out Tryd.underlying24 rfl ?_ ?_); rfl; rfl; exact cells_wide _) | ((with_reducible refine wpList_loadG 24 _ rfl _ (ints .u64 (wl p)) ?_ ?_ Q_6.out Tryd.underlying24 rfl ?_ ?_); rfl; rfl; exact cells_wide _) | ((with_reducible refine wpList_loadG 24 _ rfl _ (ints .u64 (wl p)) ?_ ?_ R_6.out Tryd.underlying24 rfl ?_ ?_); rfl; rfl; exact cells_wide _))
      clear T_5 P_5 Q_5 B_5 YT_5 YP_5 YQ_5 N_5 C_5 HL_5 HK_5
      have QT := bx (fun (w1 : World) (h : Cls w6.heap.size w6 w1) => T_6.out.below h.out T_6.out.lt)
      have QP := bx (fun (w1 : World) (h : Cls w6.heap.size w6 w1) => P_6.out.below h.out P_6.out.lt)
      have QQ := bx (fun (w1 : World) (h : Cls w6.heap.size w6 w1) => Q_6.out.below h.out Q_6.out.lt)
      have QR := bx (fun (w1 : World) (h : Cls w6.heap.size w6 w1) => R_6.out.below h.out R_6.out.lt)
      have K0 := bx (fun (w1 : World) (h : Cls w6.heap.size w6 w1) => h.calls (Nat.le_refl _) (CG.out w1 (HL_6.out.below h.out)))
      have K1 := bx (fun (w1 : World) (h : Cls w6.heap.size w6 w1) => h.calls (Nat.le_refl _) (CH.out w1 (HK_6.out.below h.out)))
      have K2 := bx (fun (w1 : World) (h : Cls w6.heap.size w6 w1) => h.calls (Nat.le_refl _) (AW.out w1))
      clear T_6 P_6 Q_6 R_6 HL_6 HK_6
      refine region_cls w6.heap.size (by kernel_rfl) (by kernel_rfl) ?_
      repeat (first | go_big_quiet_skip | (go_big_quiet_want; first | ((with_reducible refine quiet_loadC 24 _ rfl _ (ints .u64 (wl b)) ?_ QT.out Tryd.underlying24 ?_ ?_ ?_); rfl; rfl; exact cells_wide _; go_big_quiet_on; (simp only [Act.put, List.setIfInBounds_toArray, List.set_cons_succ, List.set_cons_zero])) | ((with_reducible refine quiet_loadC 24 _ rfl _ (ints .u64 (wl p)) ?_ QP.out Tryd.underlying24 ?_ ?_ ?_); rfl; rfl; exact cells_wide _; go_big_quiet_on; (simp only [Act.put, List.setIfInBounds_toArray, List.set_cons_succ, List.set_cons_zero])) | ((with_reducible refine quiet_loadC 24 _ rfl _ (ints .u64 (wl p)) ?_ QQ.out Tryd.underlying24 ?_ ?_ ?_); rfl; rfl; exact cells_wide _; go_big_quiet_on; (simp only [Act.put, List.setIfInBounds_toArray, List.set_cons_succ, List.set_cons_zero])) | ((with_reducible refine quiet_loadC 24 _ rfl _ (ints .u64 (wl p)) ?_ QR.out Tryd.underlying24 ?_ ?_ ?_); rfl; rfl; exact cells_wide _; go_big_quiet_on; (simp only [Act.put, List.setIfInBounds_toArray, List.set_cons_succ, List.set_cons_zero])) | (go_big_quiet_op; first | go_big_quiet_on | ((with_reducible refine ⟨_, fun _ _ => rfl, ?_⟩); go_big_quiet_on) | (apply Exists.intro; refine ⟨fun w1 hw1 => ?_, ?_⟩; (first | (go_at_call 28; (with_reducible exact K0.out w1 hw1)) | (go_at_call 28; (with_reducible exact K1.out w1 hw1)) | (go_at_call 17; (with_reducible exact K2.out w1 hw1))); go_big_quiet_on))))
      refine wpQuiet_nil ?_
      intro w99 hw99
      have HW99 := bx hw99
      clear hw99
      go_wp2
      go_ret
      exact ⟨rfl, B_6.out.trans (HW99.out.out.mono B_6.out.size)⟩
    · obtain ⟨m, rfl⟩ : ∃ m, m1 = m + 1 := ⟨m1 - 1, by omega⟩
      have ei : ((m + 1 : Nat) : Int) - 1 = (m : Int) := by omega
      rw [ei] at hi
      subst hi
      have hkl : m < xs.length := by rw [HLEN.out]; omega
      obtain ⟨ad, rfl, hgb, hg1⟩ := HR.out.2.2 (by omega)
      have GRG : Bx (∀ w2 : World, Below w.heap.size w w2 → rangeA w2 (ad.add (m * 4)) (ints .u64 (wl xs[m]))) := ⟨fun w2 h2 => (hg1 m hkl).below h2 (by rw [add_block']; exact hgb)⟩
      have RNG := bx (GRG.out wr BY.out)
      have hrj : xs.reverse[j]? = some xs[m] := by
        rw [List.getElem?_reverse (by rw [HLEN.out]; omega), show xs.length - 1 - j = m by rw [HLEN.out]; omega, List.getElem?_eq_getElem hkl]
      have HN : Bx (topN xs.reverse (j + 1) = if topN xs.reverse j < xs[m] then xs[m] else topN xs.reverse j) := ⟨by
        rw [topN, List.getD_eq_getElem?_getD, hrj]; rfl⟩
      have HTK : Bx ((xs.reverse.take (j + 1)).flatMap wv = (xs.reverse.take j).flatMap wv ++ ints .u64 (wl xs[m])) := ⟨by
        have hjl : j < xs.reverse.length := by rw [List.length_reverse, HLEN.out]; omega
        rw [List.take_succ_eq_append_getElem hjl, List.flatMap_append]
        have : xs.reverse[j] = xs[m] := by
          rw [List.getElem?_eq_getElem hjl] at hrj
          exact Option.some.inj hrj
        rw [this]; simp; rfl⟩
      have HV := bx (HRB.out _ (List.getElem_mem hkl))
      have HS := bx (topN_lt (xs := xs.reverse) (fun x hx => HRB.out x (List.mem_reverse.1 hx)) j)
      clear hg1 hgb hrj
      generalize xs[m] = v at *
      generalize hfl2 : (xs.reverse.take (j + 1)).flatMap wv = fl2 at *
      have EF2 := bx hfl2
      clear hfl2
      generalize (xs.reverse.take j).flatMap wv = fl at *
      generalize topN xs.reverse j = s at *
      generalize hs2 : topN xs.reverse (j + 1) = s2 at *
      have E2 := bx hs2
      clear hs2
      have hki : (m : Int) < (n : Int) := by omega
      have hk0 : 0 ≤ (m : Int) := by omega
      have HM1 : Bx (j + 1 ≤ maxLen) := ⟨by unfold maxLen; omega⟩
      have HM2 : Bx ((j + 1) * 32 ≤ 140737488355328) := ⟨by omega⟩
      have HSZ : Bx (w.heap.size + 1 ≤ wr.heap.size) := ⟨Y0.out.lt⟩
      go_wp2_with (first | ((with_reducible refine wpList_loadA 24 _ rfl ?_ (ad.add (m * 4)) (ints .u64 (wl v)) RNG.out ?_ Tryd.underlying24 ?_ ?_ ?_); rfl; rfl; rfl; exact cells_wide _) | ((with_reducible refine Great.wpList_buildSliceTo rfl 41 24 1 _ rfl _ rfl _ rfl Tryd.underlying41 (ints .u64 (wl v)).toArray ?_ ?_); rw [Array.toList_map]; exact built1 _) | (at_builtin; (with_reducible refine wpList_push rfl (.tmp 24) (.tmp 29) 41 rfl (w.heap.size + 1) 24 i0 _ 4 32 Tryd.underlying41 HI.out hz0 hz1 hz2 rfl (by omega) _ _ _ ?_ OW.out (ints .u64 (wl v)) ?_ (wl_len v) (wl_one v) HM1.out HM2.out HSZ.out ?_); rfl; rfl; intro v' w' hown' hg' hbel' _; rw [← HTK.out] at hown'; have OW3 := bx hown'; have BY3 := bx (BY.out.trans (hbel'.mono (Nat.le_succ _))); have Y3 := bx (Y0.out.below hbel' (Nat.lt_succ_self _)); clear hown' hg' hbel'))
      obtain ⟨A3, c3, hv3⟩ := own_slice OW3.out
      subst hv3
      have CRNG : Bx (∀ w1 : World, Cls w'.heap.size w' w1 → rangeA w1 (ad.add (m * 4)) (ints .u64 (wl v))) := ⟨fun w1 h => GRG.out w1 (BY3.out.trans (h.out.mono BY3.out.size))⟩
      have QT := bx (fun (w1 : World) (h : Cls w'.heap.size w' w1) => Y3.out.below h.out Y3.out.lt)
      have K0 := bx (fun (w1 : World) (h : Cls w'.heap.size w' w1) => h.calls (Nat.le_refl _) (refCompare_any v s HV.out HS.out w1))
      by_cases hov : s < v
      · have h0 : cmpW v s = 1 := by unfold cmpW; rw [if_neg (by omega), if_pos hov]
        have h1 : Bx (s2 = v) := ⟨by rw [HN.out, if_pos hov]⟩
        rw [h0] at K0
        clear h0 hov
        refine region_cls w'.heap.size (by kernel_rfl) (by kernel_rfl) ?_
        repeat (first | go_big_quiet_skip | (go_big_quiet_want; first | ((with_reducible refine quiet_loadA 24 _ rfl (ad.add (m * 4)) (ints .u64 (wl v)) ?_ CRNG.out Tryd.underlying24 ?_ ?_ ?_); rfl; rfl; exact cells_wide _; go_big_quiet_on; (simp only [Act.put, List.setIfInBounds_toArray, List.set_cons_succ, List.set_cons_zero])) | ((with_reducible refine quiet_loadC 24 _ rfl _ (ints .u64 (wl s)) ?_ QT.out Tryd.underlying24 ?_ ?_ ?_); rfl; rfl; exact cells_wide _; go_big_quiet_on; (simp only [Act.put, List.setIfInBounds_toArray, List.set_cons_succ, List.set_cons_zero])) | (go_big_quiet_op; first | go_big_quiet_on | ((with_reducible refine ⟨_, fun _ _ => rfl, ?_⟩); go_big_quiet_on) | (apply Exists.intro; refine ⟨fun w1 hw1 => ?_, ?_⟩; (go_at_call 15; (with_reducible exact K0.out w1 hw1)); go_big_quiet_on))))
        refine wpQuiet_nil ?_
        intro w4 hw4
        have Y4 := bx (Y3.out.below hw4.out Y3.out.lt)
        have OW4 := bx (own_ext OW3.out hw4.out)
        have B4 := bx (BY3.out.trans (hw4.out.mono BY3.out.size))
        have RN4 := bx (GRG.out w4 B4.out)
        clear hw4
        go_wp2_with (first | ((with_reducible refine wpList_loadA 24 _ rfl ?_ (ad.add (m * 4)) (ints .u64 (wl v)) RN4.out ?_ Tryd.underlying24 ?_ ?_ ?_); rfl; rfl; rfl; exact cells_wide _) | ((with_reducible refine wpList_storeB rfl 24 _ _ rfl _ (ints .u64 (wl v)) _ ?_ ?_ Y4.out (wl_len2 _ _) Tryd.underlying24 ?_ (wl_one _) ?_); rfl; rfl; exact cells_wide _; intro w7 hw hg hz0; have Y5 := bx hw; have OW5 := bx (OW4.out.kept hg (by rcases Option.eq_none_or_eq_some (Value.ownBlock (.slice A3 (j + 1) c3)) with h | ⟨b, h⟩; exact .inl h; exact .inr (by rw [h]; intro e; injection e with e; have := (OW4.out.lt b h).1; omega))); have B5 := bx (B4.out.grown hg B4.out.size (fun k hk => by cases hk; exact Nat.le_refl _)); clear hw hg hz0))
        go_roundw
        case rel => exact ⟨m, j + 1, by omega, by go_num, ⟨A3, c3, rfl⟩, by rw [EF2.out]; exact OW5.out, by rw [E2.out, h1.out]; exact Y5.out, B5.out⟩
        case measure => simp [intOf]
      · have h0 : decide (cmpW v s > 0) = false := decide_eq_false (by unfold cmpW; split <;> simp_all)
        have h2 : ¬ (0 : Int) < cmpW v s := of_decide_eq_false h0
        have h1 : Bx (s2 = s) := ⟨by rw [HN.out, if_neg hov]⟩
        generalize cmpW v s = cc at *
        clear hov
        refine region_cls w'.heap.size (by kernel_rfl) (by kernel_rfl) ?_
        repeat (first | go_big_quiet_skip | (go_big_quiet_want; first | ((with_reducible refine quiet_loadA 24 _ rfl (ad.add (m * 4)) (ints .u64 (wl v)) ?_ CRNG.out Tryd.underlying24 ?_ ?_ ?_); rfl; rfl; exact cells_wide _; go_big_quiet_on; (simp only [Act.put, List.setIfInBounds_toArray, List.set_cons_succ, List.set_cons_zero])) | ((with_reducible refine quiet_loadC 24 _ rfl _ (ints .u64 (wl s)) ?_ QT.out Tryd.underlying24 ?_ ?_ ?_); rfl; rfl; exact cells_wide _; go_big_quiet_on; (simp only [Act.put, List.setIfInBounds_toArray, List.set_cons_succ, List.set_cons_zero])) | (go_big_quiet_op; first | go_big_quiet_on | ((with_reducible refine ⟨_, fun _ _ => rfl, ?_⟩); go_big_quiet_on) | (apply Exists.intro; refine ⟨fun w1 hw1 => ?_, ?_⟩; (go_at_call 15; (with_reducible exact K0.out w1 hw1)); go_big_quiet_on))))
        refine wpQuiet_nil ?_
        intro w4 hw4
        have Y4 := bx (Y3.out.below hw4.out Y3.out.lt)
        have OW4 := bx (own_ext OW3.out hw4.out)
        have B4 := bx (BY3.out.trans (hw4.out.mono BY3.out.size))
        have RN4 := bx (GRG.out w4 B4.out)
        clear hw4
        go_wp2_with fail
        go_roundw
        case rel => exact ⟨m, j + 1, by omega, by go_num, ⟨A3, c3, rfl⟩, by rw [EF2.out]; exact OW4.out, by rw [E2.out, h1.out]; exact Y4.out, B4.out⟩
        case measure => simp [intOf]
theorem wideLists_walk (A : Option Addr) (n c : Nat) (ls : List (List Int)) (w : World) (h1 : ∀ l ∈ ls, l.length = 4 ∧ Fit .u64 l) (h2 : ls.length = n) (h3 : Row w w.heap.size 4 A n (ls.flatMap (ints .u64))) (h4 : n ≤ c) (h5 : c ≤ maxLen) :
    Calls Tryd.prog 7 #[.slice A n c] w fun e w' => e = .returned (.bool true) ∧ Below w.heap.size w w' := by
  by_cases hn : n ≤ 100
  · obtain ⟨xs, rfl, hb⟩ := rows_wide h1
    exact wideLists_go A n c xs w (grow_of_row h3 (by rw [List.length_map] at h2; exact h2) hb) hn
  · exact wideLists_long A n c (by omega) (by omega) w
end Go.Proofs.YtpgpplpddjjchaaDoor
