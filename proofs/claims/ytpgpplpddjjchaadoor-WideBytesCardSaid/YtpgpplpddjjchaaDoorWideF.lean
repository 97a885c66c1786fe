/- Numbers of 256 bits: the program's product with a small number. -/
import Derived.Test.YtpgpplpddjjchaaDoorWideE
import Derived.Test.YtpgpplpddjjchaaDoorShelf
namespace Go.Proofs.YtpgpplpddjjchaaDoor
open Go.RowKit

theorem mul4_lt (n k j : Nat) (hk : k < 18446744073709551616) : n % 2 ^ (64 * j) * k < 18446744073709551616 * 2 ^ (64 * j) := by
  have h1 := Nat.mod_lt n (Nat.two_pow_pos (64 * j))
  generalize 2 ^ (64 * j) = D at *
  rcases Nat.eq_zero_or_pos k with h0 | h0
  · subst h0; omega
  · have := Nat.mul_lt_mul_of_pos_right h1 h0
    have h2 : D * k ≤ D * 18446744073709551616 := Nat.mul_le_mul_left _ (by omega)
    omega
theorem mul4_next (n k j : Nat) : n % 2 ^ (64 * (j + 1)) * k = n % 2 ^ (64 * j) * k + lN n j * k * 2 ^ (64 * j) := by
  rw [mod64_next, Nat.add_mul, Nat.mul_right_comm]
/-- the parts of one step -/
theorem mul_step {x k c : Nat} (hx : x < 18446744073709551616) (hk : k < 18446744073709551616) (hc : c < 18446744073709551616) :
    (x * k % 18446744073709551616 + c + 0) % 18446744073709551616 = (c + x * k) % 18446744073709551616 ∧
    x * k / 18446744073709551616 + (x * k % 18446744073709551616 + c + 0) / 18446744073709551616 = (c + x * k) / 18446744073709551616 ∧ (c + x * k) / 18446744073709551616 < 18446744073709551616 := by
  have h1 : x * k ≤ 18446744073709551615 * 18446744073709551615 := Nat.mul_le_mul (by omega) (by omega)
  generalize x * k = p at *
  exact ⟨by omega, by omega, by omega⟩
set_option maxRecDepth 20000 in
set_option maxHeartbeats 1000000 in
theorem mulS_any (n k : Nat) (hn : n < 2 ^ 256) (hk : k < 18446744073709551616) (w : World) :
    Calls Tryd.prog 18 #[.agg (ints .u64 (wl n)).toArray, .int .u64 k] w (WE (n * k) w) := by
  have hz := wz_lit
  have HN := bx hn
  have HK := bx hk
  have HC0 : Bx (Cut4 (n % 2 ^ (64 * 0) * k) 0 0 0) := ⟨⟨by simp, by simp [Nat.mod_one]⟩⟩
  obtain ⟨wA, hwA⟩ : ∃ wA, wA = (w.alloc (.cells (ints .u64 (wl n)).toArray 24)).alloc (.cells (ints .u64 (wl 0)).toArray 24) := ⟨_, rfl⟩
  have X0 : Bx (Has wA w.heap.size (ints .u64 (wl n))) := ⟨by rw [hwA]; exact (Has.new w _ _).alloc _⟩
  have X2 : Bx (Has wA (w.heap.size + 1) (ints .u64 (wl 0))) := ⟨by rw [hwA]; have := Has.new (w.alloc (.cells (ints .u64 (wl n)).toArray 24)) (ints .u64 (wl 0)) 24; rwa [alloc_size] at this⟩
  have BA : Bx (Below w.heap.size w wA) := ⟨by rw [hwA]; exact ((Below.refl w.heap.size w).alloc (Nat.le_refl _) _).alloc (by simp) _⟩
  have HWA := bx hwA
  clear hwA hn hk
  go_enter Tryd.func18, Tryd.ntmps18
  go_wp2_with fail
  rw [← HWA.out]
  go_loopw [6, 12] (fun q i wr => ∃ j s cc : Nat, j ≤ 4 ∧ i = .int .i64 j ∧ q = .int .u64 cc ∧ Cut4 (n % 2 ^ (64 * j) * k) s cc j ∧ Has wr w.heap.size (ints .u64 (wl (upd n s j))) ∧ Has wr (w.heap.size + 1) (ints .u64 (wl 0)) ∧ Below w.heap.size w wr) (fun _ i _ => 4 - (intOf i).toNat)
  case atStart => exact ⟨0, 0, 0, Nat.zero_le _, rfl, rfl, HC0.out, by rw [upd_zero]; exact X0.out, X2.out, BA.out⟩
  case round =>
    obtain ⟨j, s, cc, hj, rfl, rfl, hcut, hx0, hx2, hbel⟩ := hrel
    have Y0 := bx hx0
    have Y2 := bx hx2
    have BY := bx hbel
    have CUT := bx hcut
    clear hx0 hx2 hbel hcut X0 X2 BA HWA
    by_cases hj4 : j < 4
    · have hcc : cc < 18446744073709551616 := CUT.out.top (mul4_lt n k j HK.out)
      have NXT := bx (CUT.out.next (x := lN n j * k))
      rw [← mul4_next] at NXT
      have hcell : wr.cell? ⟨w.heap.size, j, none⟩ = some (.int .u64 (lN n j)) := by rw [Y0.out.cell, wl_at _ j hj4, upd_limb CUT.out.1]; rfl
      obtain ⟨q1, q2, q3⟩ := mul_step (lN_lt n j) HK.out hcc
      have hset := upd_set (n := n) (x := (cc + lN n j * k) % 18446744073709551616) hj4 CUT.out.1 (Nat.mod_lt _ (by decide))
      have M64 := bx (Tryd.bits_Mul64 (lN n j) k (lN_lt n j) HK.out)
      have hA64 := run_add64N (lN n j * k % 18446744073709551616) cc 0 (Nat.mod_lt _ (by decide)) hcc (by omega)
      rw [q1] at hA64
      have hlow : lN n j * k % 18446744073709551616 < 18446744073709551616 := Nat.mod_lt _ (by decide)
      generalize lN n j * k = p at *
      generalize lN n j = a1 at *
      generalize hs2 : s + (cc + p) % 18446744073709551616 * 2 ^ (64 * j) = s2 at *
      generalize hlo : (cc + p) % 18446744073709551616 = lo at *
      generalize hup : (cc + p) / 18446744073709551616 = up at *
      generalize p / 18446744073709551616 = ph at *
      generalize p % 18446744073709551616 = pl at *
      generalize (pl + cc + 0) / 18446744073709551616 = cy at *
      have hadd : (ph : Int) + (cy : Int) = (up : Int) := by omega
      have hzc : ((0 : Nat) : Int) = 0 := rfl
      rw [hzc] at hA64
      have HSET := bx hset
      have hjl : (j : Int) < 4 := by omega
      have h4 : ∀ n : Nat, ((ints .u64 (wl n)).length : Int) = 4 := fun _ => rfl
      have HL4 : Bx (j < (ints .u64 (wl (upd n s j))).length) := ⟨by rw [wl_len]; exact hj4⟩
      clear hs2 hlo hup hset q1 q2 hzc hlow
      go_wp2_with (first | (go_at_call 38; (with_reducible refine (M64.out _).mono ?_); rintro e w3 ⟨rfl, rfl⟩) | ((with_reducible refine wpList_storeU rfl _ _ rfl _ j (lo : Int) _ ?_ ?_ Y0.out HL4.out ?_); rfl; rfl; intro w3 hw3 hg3 hz3; rw [HSET.out] at hw3; have Z0 := bx hw3; have Z2 := bx (Y2.out.grown hg3 (fun e => by injection e with e; omega)); have BZ := bx (BY.out.grown hg3 BY.out.size (fun k hk => by cases hk; omega)); clear hw3 hg3 hz3))
      go_roundw
      case rel => exact ⟨j + 1, s2, up, by omega, by go_num, rfl, NXT.out, Z0.out, Z2.out, BZ.out⟩
      case measure => simp [intOf]; omega
    · obtain rfl : j = 4 := by omega
      have hfin := CUT.out.eq
      have hcc : cc < 18446744073709551616 := CUT.out.top (mul4_lt n k 4 HK.out)
      have e4 : 64 * 4 = 256 := rfl
      rw [upd_done HN.out] at Y0
      rw [e4, Nat.mod_eq_of_lt HN.out] at hfin
      have HF := bx (ck_sum (n := n * k) (m := 0) hfin)
      clear hfin e4
      go_wp2_with ((with_reducible refine wpList_loadG 24 _ rfl _ (ints .u64 (wl s)) ?_ ?_ Y0.out Tryd.underlying24 rfl ?_ ?_); rfl; rfl; exact cells_wide _)
      refine (checked_any s cc hcc _).mono ?_; rintro e w3 ⟨he, hb3⟩
      rw [HF.out.1, HF.out.2] at he
      subst he
      have V2 := bx (Y2.out.below hb3 Y2.out.lt)
      have BV := bx (BY.out.trans (hb3.mono BY.out.size))
      clear hb3
      have HW : Bx (okW (n * k + 0) = okW (n * k) ∧ erW (n * k + 0) = erW (n * k)) := ⟨⟨rfl, rfl⟩⟩
      rw [HW.out.1, HW.out.2]
      generalize hR : okW (n * k) = R at *
      generalize hr : erW (n * k) = er at *
      have HR := bx hR
      have Hr := bx hr
      clear hR hr
      go_wp2_with ((with_reducible refine wpList_storeB rfl 24 _ _ rfl _ (ints .u64 (wl R)) _ ?_ ?_ V2.out (wl_len2 _ _) Tryd.underlying24 ?_ (wl_one _) ?_); rfl; rfl; exact cells_wide _; intro w9 hw hg hz0; have U9 := bx hw; have B9 := bx (BV.out.grown hg BV.out.size (fun k hk => by cases hk; omega)); clear hw hg hz0)
      exact bodyPost_ret (results_cell_tmp (by rfl) _ (by rfl) U9.out Tryd.underlying24 rfl (cells_wide _)) rfl ⟨by rw [HR.out, Hr.out]; rfl, B9.out⟩
end Go.Proofs.YtpgpplpddjjchaaDoor
