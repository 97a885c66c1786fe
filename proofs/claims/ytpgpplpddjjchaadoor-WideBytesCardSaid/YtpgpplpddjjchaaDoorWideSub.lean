/- Numbers of 256 bits: the program's difference. -/
import Derived.Test.YtpgpplpddjjchaaDoorWideAdd
namespace Go.Proofs.YtpgpplpddjjchaaDoor
open Go.RowKit

def dfW (n m : Nat) : Nat := if m ≤ n then n - m else 0
def dfE (n m : Nat) : Int := if m ≤ n then 0 else 4
def WS (n m : Nat) (w : World) (e : Ending) (w' : World) : Prop := e = .returned (.tuple #[.agg (ints .u64 (wl (dfW n m))).toArray, .int .i64 (dfE n m)]) ∧ Below w.heap.size w w'
/-- a difference, cut at limb j: the borrow c -/
def CutB (n m s c j : Nat) : Prop := s < 2 ^ (64 * j) ∧ n % 2 ^ (64 * j) + c * 2 ^ (64 * j) = m % 2 ^ (64 * j) + s ∧ c ≤ 1
theorem CutB.next {n m s c j : Nat} (h : CutB n m s c j) :
    CutB n m (s + (lN n j + 18446744073709551616 - lN m j - c) % 18446744073709551616 * 2 ^ (64 * j)) (if lN n j < lN m j + c then 1 else 0) (j + 1) := by
  obtain ⟨h1, h2, h3⟩ := h
  have hx := lN_lt n j
  have hy := lN_lt m j
  refine ⟨next_lt h1 (Nat.mod_lt _ (by decide)), ?_, by split <;> omega⟩
  have e : 64 * (j + 1) = 64 + 64 * j := by omega
  have e2 : (2 : Nat) ^ 64 = 18446744073709551616 := rfl
  have e3 : 2 ^ (64 * (j + 1)) = 18446744073709551616 * 2 ^ (64 * j) := by rw [e, Nat.pow_add, e2]
  rw [mod64_next, mod64_next, e3]
  generalize 2 ^ (64 * j) = D at *
  generalize lN n j = x at *
  generalize lN m j = y at *
  have key : x + (if x < y + c then 1 else 0) * 18446744073709551616 = y + c + (x + 18446744073709551616 - y - c) % 18446744073709551616 := by split <;> omega
  have h5 := congrArg (· * D) key
  simp only [Nat.add_mul] at h5
  rw [Nat.mul_assoc] at h5
  generalize (x + 18446744073709551616 - y - c) % 18446744073709551616 * D = dd at *
  generalize (if x < y + c then 1 else 0) * (18446744073709551616 * D) = bb at *
  omega
theorem ck_diff {n m s c : Nat} (hn : n < 2 ^ 256) (hm : m < 2 ^ 256) (h : CutB n m s c 4) : ck s c = dfW n m ∧ ckE c = dfE n m := by
  obtain ⟨h1, h2, h3⟩ := h
  have e4 : 64 * 4 = 256 := rfl
  rw [e4] at h1 h2
  rw [Nat.mod_eq_of_lt hn, Nat.mod_eq_of_lt hm] at h2
  unfold ck ckE dfW dfE
  generalize (2 : Nat) ^ 256 = T at *
  have hc : c = 0 ∨ c = 1 := by omega
  rcases hc with rfl | rfl
  · have hle : m ≤ n := by omega
    rw [if_pos (Eq.refl 0), if_pos hle, if_pos (Eq.refl 0), if_pos hle]
    exact ⟨by omega, rfl⟩
  · have hle : ¬ m ≤ n := by omega
    rw [if_neg (by omega), if_neg hle, if_neg (by omega), if_neg hle]
    exact ⟨rfl, rfl⟩

set_option maxRecDepth 20000 in
set_option maxHeartbeats 1000000 in
theorem sub_any (n m : Nat) (hn : n < 2 ^ 256) (hm : m < 2 ^ 256) (w : World) :
    Calls Tryd.prog 12 #[.agg (ints .u64 (wl n)).toArray, .agg (ints .u64 (wl m)).toArray] w (WS n m w) := by
  have hz := wz_lit
  have HN := bx hn
  have HM := bx hm
  have HC0 : Bx (CutB n m 0 0 0) := ⟨⟨by simp, by simp [Nat.mod_one], by omega⟩⟩
  obtain ⟨wA, hwA⟩ : ∃ wA, wA = ((w.alloc (.cells (ints .u64 (wl n)).toArray 24)).alloc (.cells (ints .u64 (wl m)).toArray 24)).alloc (.cells (ints .u64 (wl 0)).toArray 24) := ⟨_, rfl⟩
  have X0 : Bx (Has wA w.heap.size (ints .u64 (wl n))) := ⟨by rw [hwA]; exact ((Has.new w _ _).alloc _).alloc _⟩
  have X1 : Bx (Has wA (w.heap.size + 1) (ints .u64 (wl m))) := ⟨by rw [hwA]; have := (Has.new (w.alloc (.cells (ints .u64 (wl n)).toArray 24)) (ints .u64 (wl m)) 24).alloc (.cells (ints .u64 (wl 0)).toArray 24); rwa [alloc_size] at this⟩
  have X2 : Bx (Has wA (w.heap.size + 1 + 1) (ints .u64 (wl 0))) := ⟨by rw [hwA]; have := Has.new ((w.alloc (.cells (ints .u64 (wl n)).toArray 24)).alloc (.cells (ints .u64 (wl m)).toArray 24)) (ints .u64 (wl 0)) 24; rwa [alloc_size, alloc_size] at this⟩
  have BA : Bx (Below w.heap.size w wA) := ⟨by rw [hwA]; exact (((Below.refl w.heap.size w).alloc (Nat.le_refl _) _).alloc (by simp) _).alloc (by simp; omega) _⟩
  have HWA := bx hwA
  clear hwA hn hm
  go_enter Tryd.func12, Tryd.ntmps12
  go_wp2_with fail
  rw [← HWA.out]
  go_loopw [6, 8] (fun q i wr => ∃ j s cc : Nat, j ≤ 4 ∧ i = .int .i64 j ∧ q = .int .u64 cc ∧ CutB n m s cc j ∧ Has wr w.heap.size (ints .u64 (wl (upd n s j))) ∧ Has wr (w.heap.size + 1) (ints .u64 (wl m)) ∧ Has wr (w.heap.size + 1 + 1) (ints .u64 (wl 0)) ∧ Below w.heap.size w wr) (fun _ i _ => 4 - (intOf i).toNat)
  case atStart => exact ⟨0, 0, 0, Nat.zero_le _, rfl, rfl, HC0.out, by rw [upd_zero]; exact X0.out, X1.out, X2.out, BA.out⟩
  case round =>
    obtain ⟨j, s, cc, hj, rfl, rfl, hcut, hx0, hx1, hx2, hbel⟩ := hrel
    have Y0 := bx hx0
    have Y1 := bx hx1
    have Y2 := bx hx2
    have BY := bx hbel
    have CUT := bx hcut
    clear hx0 hx1 hx2 hbel hcut X0 X1 X2 BA HWA
    by_cases hj4 : j < 4
    · have hcc : cc ≤ 1 := CUT.out.2.2
      have NXT := bx CUT.out.next
      have HU : Bx (lN (upd n s j) j = lN n j) := ⟨by have := upd_limb (n := n) CUT.out.1; rw [limb_lN, limb_lN] at this; omega⟩
      have C0 := bx (cls_cell (w := wr.drew) (i := j) (show Has wr.drew _ _ from Y0.out) hj4)
      rw [HU.out] at C0
      have C1 := bx (cls_cell (w := wr.drew) (i := j) (show Has wr.drew _ _ from Y1.out) hj4)
      have A64 := bx (run_sub64N (lN n j) (lN m j) cc hcc)
      have hset := upd_set (n := n) (x := (lN n j + 18446744073709551616 - lN m j - cc) % 18446744073709551616) hj4 CUT.out.1 (Nat.mod_lt _ (by decide))
      generalize lN n j = a1 at *
      generalize lN m j = a2 at *
      generalize hs2 : s + (a1 + 18446744073709551616 - a2 - cc) % 18446744073709551616 * 2 ^ (64 * j) = s2 at *
      generalize hlo : (a1 + 18446744073709551616 - a2 - cc) % 18446744073709551616 = lo at *
      generalize hup : (if a1 < a2 + cc then 1 else 0) = up at *
      have HSET := bx hset
      have hjl : (j : Int) < 4 := by omega
      have h4 : ∀ n : Nat, ((ints .u64 (wl n)).length : Int) = 4 := fun _ => rfl
      clear hs2 hlo hup hset
      go_wp2_with fail
      refine wp_region_mix2 13 [(0, 0), (0, 1), (0, 2), (0, 3), (0, 4), (0, 5), (0, 6), (0, 7), (2, 8), (1, 9), (1, 10), (1, 11), (1, 12)] (by kernel_rfl) (by kernel_rfl) ?_
      simp only [MixH, List.getD_cons_zero, List.getD_cons_succ, List.drop_succ_cons, List.drop_zero]
      repeat (first | (with_reducible refine wpQuiet_nil ?_) | (first | go_big_quiet_skip | (go_big_quiet_want; first | (first | ((with_reducible refine quiet_u64 _ rfl _ j _ ?_ C0.out ?_); rfl; go_big_quiet_on; (simp only [Act.put, List.setIfInBounds_toArray, List.set_cons_succ, List.set_cons_zero])) | ((with_reducible refine quiet_u64 _ rfl _ j _ ?_ C1.out ?_); rfl; go_big_quiet_on; (simp only [Act.put, List.setIfInBounds_toArray, List.set_cons_succ, List.set_cons_zero]))) | (go_big_quiet_op; first | go_big_quiet_on | ((with_reducible refine ⟨_, fun _ _ => rfl, ?_⟩); go_big_quiet_on)))))
      refine mix_ext (A64.out _) _ _ rfl rfl rfl ?_
      refine ⟨Cls.refl _ _, ?_⟩
      simp only [Act.put, List.setIfInBounds_toArray, List.set_cons_succ, List.set_cons_zero]
      repeat (first | (with_reducible refine wpQuiet_nil ?_) | (first | go_big_quiet_skip | (go_big_quiet_want; first | fail | (go_big_quiet_op; first | go_big_quiet_on | ((with_reducible refine ⟨_, fun _ _ => rfl, ?_⟩); go_big_quiet_on)))))
      have D0 : Bx (Has wr.drew w.heap.size (ints .u64 (wl (upd n s j)))) := ⟨Y0.out⟩
      have HL4 : Bx (j < (ints .u64 (wl (upd n s j))).length) := ⟨by rw [wl_len]; exact hj4⟩
      go_wp2_with ((with_reducible refine wpList_storeU rfl _ _ rfl _ j (lo : Int) _ ?_ ?_ D0.out HL4.out ?_); rfl; rfl; intro w3 hw3 hg3 hz3; rw [HSET.out] at hw3; have Z0 := bx hw3; have Z1 := bx (Y1.out.grown (grown_drew' hg3) (fun e => by injection e with e; omega)); have Z2 := bx (Y2.out.grown (grown_drew' hg3) (fun e => by injection e with e; omega)); have BZ := bx (BY.out.grown (grown_drew' hg3) BY.out.size (fun k hk => by cases hk; omega)); clear hw3 hg3 hz3)
      refine NoPanic.normal ?_
      go_wp2_with fail
      go_roundw
      case rel => exact ⟨j + 1, s2, up, by omega, by go_num, rfl, NXT.out, Z0.out, Z1.out, Z2.out, BZ.out⟩
      case measure => simp [intOf]; omega
    · obtain rfl : j = 4 := by omega
      have hcc : cc ≤ 1 := CUT.out.2.2
      rw [upd_done HN.out] at Y0
      have HF := bx (ck_diff HN.out HM.out CUT.out)
      go_wp2_with ((with_reducible refine wpList_loadG 24 _ rfl _ (ints .u64 (wl s)) ?_ ?_ Y0.out Tryd.underlying24 rfl ?_ ?_); rfl; rfl; exact cells_wide _)
      refine (checked_any s cc (by omega) _).mono ?_; rintro e w3 ⟨he, hb3⟩
      rw [HF.out.1, HF.out.2] at he
      subst he
      have V2 := bx (Y2.out.below hb3 Y2.out.lt)
      have BV := bx (BY.out.trans (hb3.mono BY.out.size))
      clear hb3
      generalize hR : dfW n m = R at *
      generalize hr : dfE n m = er at *
      have HR := bx hR
      have Hr := bx hr
      clear hR hr
      go_wp2_with ((with_reducible refine wpList_storeB rfl 24 _ _ rfl _ (ints .u64 (wl R)) _ ?_ ?_ V2.out (wl_len2 _ _) Tryd.underlying24 ?_ (wl_one _) ?_); rfl; rfl; exact cells_wide _; intro w9 hw hg hz0; have U9 := bx hw; have B9 := bx (BV.out.grown hg BV.out.size (fun k hk => by cases hk; omega)); clear hw hg hz0)
      exact bodyPost_ret (results_cell_tmp (by rfl) _ (by rfl) U9.out Tryd.underlying24 rfl (cells_wide _)) rfl ⟨by rw [HR.out, Hr.out]; rfl, B9.out⟩
end Go.Proofs.YtpgpplpddjjchaaDoor
