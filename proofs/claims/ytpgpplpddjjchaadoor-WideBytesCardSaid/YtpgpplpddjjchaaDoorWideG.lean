/- Numbers of 256 bits: the program's quotient by a small number. -/
import Derived.Test.YtpgpplpddjjchaaDoorWideF
import Derived.Test.YtpgpplpddjjchaaDoorDiv64
namespace Go.Proofs.YtpgpplpddjjchaaDoor
open Go.RowKit

theorem results_cell_tmp2 {P : Program} {fn : Func} {p q r : Tmp} {ty : TypeId} {w : World} {g : Nat} {cs : List Value} (h : fn.results = #[.cell p ty, .tmp q, .tmp r]) (tmps : Array Value) (hp : tmps.getD p undef = .pointer (some ⟨g, 0, none⟩)) (hg : Has w g cs) {d : TypeDesc}
    (hu : P.underlying ty = some d) (hd : (match d with | .struct _ | .array _ _ => true | _ => false) = true) (hi : P.cellsOf ty = cs.length) :
    (results fn tmps).run P w = .ok (.tuple #[.agg cs.toArray, tmps.getD q undef, tmps.getD r undef]) w := by
  have hp' : tmps[p]?.getD undef = .pointer (some ⟨g, 0, none⟩) := by simpa using hp
  simp [results, h, hp', asAddr, run_loadB hg hu hd hi]
/-- the quotient's upper limbs -/
def qTop (n k j : Nat) : Nat := n / 2 ^ (64 * j) / k * 2 ^ (64 * j)
def rTop (n k j : Nat) : Nat := n / 2 ^ (64 * j) % k
theorem top_split (n j : Nat) : n / 2 ^ (64 * j) = n / 2 ^ (64 * (j + 1)) * 18446744073709551616 + lN n j := by
  unfold lN
  have e : 64 * (j + 1) = 64 * j + 64 := by omega
  have e2 : (2 : Nat) ^ 64 = 18446744073709551616 := rfl
  rw [e, Nat.pow_add, ← Nat.div_div_eq_div_mul, e2]
  generalize n / 2 ^ (64 * j) = x
  omega
theorem div_more {u k l : Nat} (hk : 0 < k) : (u * 18446744073709551616 + l) / k = u / k * 18446744073709551616 + (u % k * 18446744073709551616 + l) / k ∧ (u * 18446744073709551616 + l) % k = (u % k * 18446744073709551616 + l) % k := by
  have h2 := Nat.mod_add_div u k
  have h1 : u * 18446744073709551616 + l = (u % k * 18446744073709551616 + l) + k * (u / k * 18446744073709551616) := by
    have h3 : u * 18446744073709551616 = u % k * 18446744073709551616 + k * (u / k * 18446744073709551616) := by
      rw [← Nat.mul_assoc, ← Nat.add_mul, h2]
    rw [h3, Nat.add_right_comm]
  rw [h1]
  exact ⟨by rw [Nat.add_mul_div_left _ _ hk, Nat.add_comm], by rw [Nat.add_mul_mod_self_left]⟩
theorem q_lt {u k l : Nat} (hk : 0 < k) (hl : l < 18446744073709551616) : (u % k * 18446744073709551616 + l) / k < 18446744073709551616 := by
  rw [Nat.div_lt_iff_lt_mul hk]
  have h1 := Nat.mod_lt u hk
  have h2 := Nat.mul_le_mul_right 18446744073709551616 (show u % k + 1 ≤ k by omega)
  rw [Nat.add_mul, Nat.one_mul] at h2
  rw [Nat.mul_comm 18446744073709551616 k]
  omega
theorem rTop_next (n k j : Nat) (hk : 0 < k) : (rTop n k (j + 1) * 18446744073709551616 + lN n j) % k = rTop n k j := by
  unfold rTop
  exact ((congrArg (· % k) (top_split n j)).trans (div_more hk).2).symm
theorem qTop_next (n k j : Nat) (hk : 0 < k) : qTop n k (j + 1) + (rTop n k (j + 1) * 18446744073709551616 + lN n j) / k * 2 ^ (64 * j) = qTop n k j := by
  unfold qTop rTop
  have e : 64 * (j + 1) = 64 + 64 * j := by omega
  have e2 : (2 : Nat) ^ 64 = 18446744073709551616 := rfl
  have e3 : 2 ^ (64 * (j + 1)) = 18446744073709551616 * 2 ^ (64 * j) := by rw [e, Nat.pow_add, e2]
  have h := (congrArg (· / k) (top_split n j)).trans (div_more hk).1
  have h' : n / 2 ^ (64 * j) / k = n / 2 ^ (64 * (j + 1)) / k * 18446744073709551616 + (n / 2 ^ (64 * (j + 1)) % k * 18446744073709551616 + lN n j) / k := h
  rw [h']
  generalize n / 2 ^ (64 * (j + 1)) / k = a
  generalize (n / 2 ^ (64 * (j + 1)) % k * 18446744073709551616 + lN n j) / k = b
  rw [e3, Nat.add_mul, Nat.mul_assoc]
theorem q_set {n k j x : Nat} (hj : j < 4) (hx : x < 18446744073709551616) :
    (ints .u64 (wl (qTop n k (j + 1)))).set j (.int .u64 (x : Int)) = ints .u64 (wl (qTop n k (j + 1) + x * 2 ^ (64 * j))) := by
  have e : 64 * (j + 1) = 64 + 64 * j := by omega
  have h1 : upd (qTop n k (j + 1)) 0 j = qTop n k (j + 1) := by
    unfold upd qTop
    rw [e, Nat.pow_add, Nat.add_zero, ← Nat.mul_assoc, Nat.mul_div_cancel _ (Nat.two_pow_pos _)]
  have h2 : upd (qTop n k (j + 1)) (0 + x * 2 ^ (64 * j)) (j + 1) = qTop n k (j + 1) + x * 2 ^ (64 * j) := by
    rw [Nat.zero_add]
    unfold upd qTop
    rw [Nat.mul_div_cancel _ (Nat.two_pow_pos _)]
  have h3 := upd_set (n := qTop n k (j + 1)) (s := 0) (x := x) hj (Nat.two_pow_pos _) hx
  rw [h1, h2] at h3
  exact h3
theorem qTop_end (n k : Nat) : qTop n k 0 = n / k ∧ rTop n k 0 = n % k := by
  unfold qTop rTop
  rw [Nat.mul_zero, Nat.pow_zero, Nat.div_one, Nat.mul_one]
  exact ⟨rfl, rfl⟩
theorem qTop_start {n k : Nat} (hn : n < 2 ^ 256) : qTop n k 4 = 0 ∧ rTop n k 4 = 0 := by
  unfold qTop rTop
  have e : 64 * 4 = 256 := rfl
  rw [e, Nat.div_eq_of_lt hn, Nat.zero_div, Nat.zero_mul, Nat.zero_mod]
  exact ⟨rfl, rfl⟩
def WQ (n k : Nat) (w : World) (e : Ending) (w' : World) : Prop :=
  e = .returned (.tuple #[.agg (ints .u64 (wl (if k = 0 then 0 else n / k))).toArray, .int .u64 ((if k = 0 then 0 else n % k : Nat) : Int), .int .i64 (if k = 0 then 7 else 0)]) ∧ Below w.heap.size w w'
set_option maxRecDepth 20000 in
set_option maxHeartbeats 1000000 in
theorem divS_any (n k : Nat) (hn : n < 2 ^ 256) (hk : k < 18446744073709551616) (w : World) :
    Calls Tryd.prog 20 #[.agg (ints .u64 (wl n)).toArray, .int .u64 k] w (WQ n k w) := by
  have hz := wz_lit
  obtain ⟨wA, hwA⟩ : ∃ wA, wA = (w.alloc (.cells (ints .u64 (wl n)).toArray 24)).alloc (.cells (ints .u64 (wl 0)).toArray 24) := ⟨_, rfl⟩
  have X0 : Bx (Has wA w.heap.size (ints .u64 (wl n))) := ⟨by rw [hwA]; exact (Has.new w _ _).alloc _⟩
  have X2 : Bx (Has wA (w.heap.size + 1) (ints .u64 (wl 0))) := ⟨by rw [hwA]; have := Has.new (w.alloc (.cells (ints .u64 (wl n)).toArray 24)) (ints .u64 (wl 0)) 24; rwa [alloc_size] at this⟩
  have BA : Bx (Below w.heap.size w wA) := ⟨by rw [hwA]; exact ((Below.refl w.heap.size w).alloc (Nat.le_refl _) _).alloc (by simp) _⟩
  have HWA := bx hwA
  by_cases hk0 : k = 0
  · subst hk0
    rw [hwA] at X2 BA
    clear hwA
    have hn0 : ((0 : Nat) : Int) = 0 := rfl
    rw [hn0]
    go_enter Tryd.func20, Tryd.ntmps20
    go_wp2_with ((with_reducible refine wpList_storeB rfl 24 _ _ rfl _ (ints .u64 (wl 0)) _ ?_ ?_ X2.out (wl_len2 _ _) Tryd.underlying24 ?_ (wl_one _) ?_); rfl; rfl; exact cells_wide _; intro w9 hw hg hz0; have U9 := bx hw; have B9 := bx (BA.out.grown hg BA.out.size (fun k hk => by cases hk; omega)); clear hw hg hz0)
    exact bodyPost_ret (results_cell_tmp2 (by rfl) _ (by rfl) U9.out Tryd.underlying24 rfl (cells_wide _)) rfl ⟨rfl, B9.out⟩
  · have hkp : 0 < k := by omega
    have HQ0 := bx (qTop_start (k := k) hn)
    have HKP := bx hkp
    have HE := bx (qTop_end n k)
    have HIF : Bx ((if k = 0 then 0 else n / k) = n / k ∧ (if k = 0 then 0 else n % k) = n % k ∧ (if k = 0 then (7 : Int) else 0) = 0) := ⟨⟨if_neg hk0, if_neg hk0, if_neg hk0⟩⟩
    have hk0' : ¬ (k : Int) = 0 := by omega
    have hkb : ((k : Int) == 0) = false := by simpa using hk0'
    have HK0 := bx hk0
    clear hwA hn hk0
    go_enter Tryd.func20, Tryd.ntmps20
    go_wp2_with fail
    rw [← HWA.out]
    go_loopw [5, 7] (fun q i wr => ∃ j : Nat, j ≤ 4 ∧ i = .int .i64 ((j : Int) - 1) ∧ q = .int .u64 (rTop n k j) ∧ Has wr w.heap.size (ints .u64 (wl n)) ∧ Has wr (w.heap.size + 1) (ints .u64 (wl (qTop n k j))) ∧ Below w.heap.size w wr) (fun _ i _ => (intOf i + 1).toNat)
    case atStart => exact ⟨4, Nat.le_refl _, rfl, by rw [HQ0.out.2]; rfl, X0.out, by rw [HQ0.out.1]; exact X2.out, BA.out⟩
    case round =>
      obtain ⟨j, hj, rfl, rfl, hx0, hx2, hbel⟩ := hrel
      have Y0 := bx hx0
      have Y2 := bx hx2
      have BY := bx hbel
      clear hx0 hx2 hbel X0 X2 BA HWA HQ0
      rcases j with _ | j
      · rw [HE.out.1] at Y2
        rw [HE.out.2]
        have hneg : ((0 : Nat) : Int) - 1 = -1 := rfl
        rw [hneg]
        generalize hQ : n / k = Q at *
        generalize hR : n % k = R at *
        have HQ := bx hQ
        have HR := bx hR
        clear hQ hR
        go_wp2_with (first | ((with_reducible refine wpList_loadG 24 _ rfl _ (ints .u64 (wl Q)) ?_ ?_ Y2.out Tryd.underlying24 rfl ?_ ?_); rfl; rfl; exact cells_wide _) | ((with_reducible refine wpList_storeB rfl 24 _ _ rfl _ (ints .u64 (wl Q)) _ ?_ ?_ Y2.out (wl_len2 _ _) Tryd.underlying24 ?_ (wl_one _) ?_); rfl; rfl; exact cells_wide _; intro w9 hw hg hz0; have U9 := bx hw; have B9 := bx (BY.out.grown hg BY.out.size (fun k hk => by cases hk; omega)); clear hw hg hz0))
        exact bodyPost_ret (results_cell_tmp2 (by rfl) _ (by rfl) U9.out Tryd.underlying24 rfl (cells_wide _)) rfl ⟨by rw [if_neg HK0.out, if_neg HK0.out, if_neg HK0.out, HQ.out, HR.out]; rfl, B9.out⟩
      · have e1 : ((j + 1 : Nat) : Int) - 1 = (j : Int) := by omega
        have hj4 : j < 4 := by omega
        have hcell : wr.cell? ⟨w.heap.size, j, none⟩ = some (.int .u64 (lN n j)) := by rw [Y0.out.cell, wl_at _ j hj4]; rfl
        have hrk : rTop n k (j + 1) < k := Nat.mod_lt _ HKP.out
        have hl := lN_lt n j
        have hset := q_set (n := n) (k := k) (x := (rTop n k (j + 1) * 18446744073709551616 + lN n j) / k) hj4 (q_lt HKP.out hl)
        have NQ := bx (qTop_next n k j HKP.out)
        have NR := bx (rTop_next n k j HKP.out)
        have DV := bx (fun w => div64_any (rTop n k (j + 1)) (lN n j) k w (by omega) (by omega) (by omega) (by omega) (by omega))
        rw [NQ.out] at hset
        have ecast : ((rTop n k (j + 1) : Nat) : Int) * 18446744073709551616 + (lN n j : Int) = ((rTop n k (j + 1) * 18446744073709551616 + lN n j : Nat) : Int) := by omega
        rw [ecast, ← Int.natCast_ediv, ← Int.natCast_emod, NR.out] at DV
        clear ecast
        generalize hx : (rTop n k (j + 1) * 18446744073709551616 + lN n j) / k = x at *
        generalize rTop n k (j + 1) = r1 at *
        generalize hr2 : rTop n k j = r2 at *
        have HR2 := bx hr2
        generalize lN n j = l1 at *
        generalize hq2 : qTop n k j = q2 at *
        have HQ2 := bx hq2
        have HSET := bx hset
        have HL4 : Bx (j < (ints .u64 (wl (qTop n k (j + 1)))).length) := ⟨by rw [wl_len]; exact hj4⟩
        have h4 : ∀ n : Nat, ((ints .u64 (wl n)).length : Int) = 4 := fun _ => rfl
        clear hx hr2 hq2 hset
        rw [e1]
        clear e1
        go_wp2_with fail
        refine (DV.out _).mono ?_; rintro e w3 ⟨rfl, hb3⟩
        have Z0 := bx (Y0.out.below hb3 Y0.out.lt)
        have Z2 := bx (Y2.out.below hb3 Y2.out.lt)
        have BZ := bx (BY.out.trans (hb3.mono BY.out.size))
        clear hb3
        go_wp2_with ((with_reducible refine wpList_storeU rfl _ _ rfl _ j (x : Int) _ ?_ ?_ Z2.out HL4.out ?_); rfl; rfl; intro w4 hw4 hg4 hz4; rw [HSET.out] at hw4; have V2 := bx hw4; have V0 := bx (Z0.out.grown hg4 (fun e => by injection e with e; omega)); have BV := bx (BZ.out.grown hg4 BZ.out.size (fun k hk => by cases hk; omega)); clear hw4 hg4 hz4)
        go_roundw
        case rel => exact ⟨j, by omega, rfl, by rw [HR2.out], V0.out, by rw [HQ2.out]; exact V2.out, BV.out⟩
        case measure => simp [intOf]
end Go.Proofs.YtpgpplpddjjchaaDoor
