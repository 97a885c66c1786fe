/- Numbers of 256 bits: the reference's decimal notation, walked. -/
import Derived.Test.YtpgpplpddjjchaaDoorWideFo
import Derived.Test.YtpgpplpddjjchaaDoorWideI
namespace Go.Proofs.YtpgpplpddjjchaaDoor
open Go.RowKit
def lenT : Value → Nat
  | .string s => s.size
  | _ => 0
theorem str_append (a b : List Int) : strOfNums a ++ strOfNums b = strOfNums (a ++ b) := by
  apply ByteArray.ext
  show (strOfNums a ++ strOfNums b).data = _
  rw [ByteArray.data_append]
  unfold strOfNums
  simp
theorem str_size (a : List Int) : (strOfNums a).size = a.length := by simp [strOfNums, ByteArray.size]
theorem digit_any (m : Nat) (hm : m < 2 ^ 256) (w : World) :
    Calls Tryd.prog 21 #[.agg (ints .u64 (wl m)).toArray, .int .u64 10] w fun e w' =>
      e = .returned (.tuple #[.agg (ints .u64 (wl (m / 10))).toArray, .int .u64 ((m % 10 : Nat) : Int), .int .i64 0]) ∧ Below w.heap.size w w' :=
  (refDiv_any m 10 hm (by decide) w).mono fun e w' h => ⟨h.1, h.2⟩
theorem conv_one (x : Int) (w : World) : (convert 59 9 (.slice (some ⟨w.heap.size, 0, none⟩) 1 1)).run Tryd.prog (w.alloc (.cells #[.int .u8 x] 5)) = .ok (.string (strOfNums [x])) (w.alloc (.cells #[.int .u8 x] 5)) := by
  have h := Has.new w [.int .u8 x] 5
  refine run_convert_bytes_arg (P := Tryd.prog) _ 59 5 Tryd.underlying59 Tryd.underlying5 w.heap.size 0 1 1 [x] rfl (fun i hi => ?_) 9 Tryd.underlying9
  have : i = 0 := by omega
  subst this
  have := h.cell 0
  exact this
set_option maxRecDepth 20000 in
set_option maxHeartbeats 1000000 in
theorem refFormat_any (n : Nat) (hn : n < 2 ^ 256) (w : World) :
    Calls Tryd.prog 32 #[.agg (ints .u64 (wl n)).toArray] w fun e w' => e = .returned (.string (strOfNums (txl n))) ∧ Below w.heap.size w w' := by
  have hz := wz_lit
  have HN := bx hn
  clear hn
  have X0 := bx (Has.new w (ints .u64 (wl n)) 24)
  have B0 := bx ((Below.refl w.heap.size w).alloc (Nat.le_refl _) (.cells (ints .u64 (wl n)).toArray 24))
  go_enter Tryd.func32, Tryd.ntmps32
  go_wp2_with fail
  go_loopw [3] (fun s wr => ∃ k : Nat, k ≤ 77 ∧ s = .string (strOfNums (lows n k).reverse) ∧ (k = 0 ∨ 10 ^ k ≤ n) ∧ Has wr w.heap.size (ints .u64 (wl (n / 10 ^ k))) ∧ Below w.heap.size w wr) (fun s _ => 100 - lenT s)
  case atStart => exact ⟨0, Nat.zero_le _, rfl, .inl rfl, by rw [Nat.pow_zero, Nat.div_one]; exact X0.out, B0.out⟩
  case round =>
    obtain ⟨k, hk, rfl, hgt, hx0, hbel⟩ := hrel
    have Y0 := bx hx0
    have BY := bx hbel
    have HGT := bx hgt
    clear hx0 hbel hgt X0 B0
    have HM : Bx (n / 10 ^ k < 2 ^ 256) := ⟨Nat.lt_of_le_of_lt (Nat.div_le_self _ _) HN.out⟩
    have HDG : Bx (n / 10 ^ k % 10 = dg n k) := ⟨rfl⟩
    have HNX : Bx (n / 10 ^ k / 10 = n / 10 ^ (k + 1)) := ⟨by rw [Nat.div_div_eq_div_mul, ← Nat.pow_succ]⟩
    generalize n / 10 ^ k = m at *
    go_wp2_with ((with_reducible refine wpList_loadG 24 _ rfl _ (ints .u64 (wl m)) ?_ ?_ Y0.out Tryd.underlying24 rfl ?_ ?_); rfl; rfl; exact cells_wide _)
    refine (digit_any m HM.out _).mono ?_; rintro e w5 ⟨rfl, hb5⟩
    have HQ : Bx (m / 10 < 2 ^ 256) := ⟨Nat.lt_of_le_of_lt (Nat.div_le_self _ _) HM.out⟩
    have hr : m % 10 < 10 := Nat.mod_lt _ (by decide)
    generalize m / 10 = q at *
    generalize m % 10 = r at *
    have V0 := bx (Y0.out.below hb5 Y0.out.lt)
    have BV := bx (BY.out.trans (hb5.mono BY.out.size))
    clear hb5 Y0 BY
    have T0 := bx (V0.out.alloc (.cells (ints .u64 (wl 0)).toArray 24))
    have T4 := bx (Has.new w5 (ints .u64 (wl 0)) 24)
    have BT := bx (BV.out.alloc BV.out.size (.cells (ints .u64 (wl 0)).toArray 24))
    have hcv := conv_one (48 + (r : Int))
    have hap : strOfNums [48 + (r : Int)] ++ strOfNums (lows n k).reverse = strOfNums (lows n (k + 1)).reverse := by
      rw [str_append, lows_succ, List.reverse_append, List.reverse_singleton, ← HDG.out, Int.natCast_add]; rfl
    generalize hsk0 : strOfNums (lows n k).reverse = sk at *
    have ESK := bx hsk0
    clear hsk0
    generalize hs2 : strOfNums (lows n (k + 1)).reverse = sk2 at *
    have ES2 := bx hs2
    clear hs2
    have hls : ¬ 9223372036854775807 < (strOfNums [48 + (r : Int)]).size + sk.size := by
      have h1 := str_size [48 + (r : Int)]
      have h2 : sk.size ≤ 78 := by
        have := congrArg ByteArray.size hap
        rw [ByteArray.size_append, ← ES2.out, str_size, str_size, List.length_reverse, lows_len] at this
        omega
      rw [h1]; show ¬ 9223372036854775807 < 1 + sk.size; omega
    have hqs : ∀ w' : World, (Op.equalIn 10000 24 (.agg (ints .u64 (wl q)).toArray) (.agg (ints .u64 (wl 0)).toArray)).run Tryd.prog w' = .ok (decide (q = 0)) w' := fun w' => by rw [wide_same, wl_eq HQ.out (Nat.two_pow_pos 256)]
    by_cases hq0 : q = 0
    · rw [decide_eq_true hq0] at hqs
      subst hq0
      have HFIN : Bx (sk2 = strOfNums (txl n)) := ⟨by
        have h1 : n < 10 ^ (k + 1) := by
          rcases Nat.div_eq_zero_iff.1 HNX.out.symm with h | h
          · have := Nat.pow_pos (n := k + 1) (show 0 < 10 by decide); omega
          · exact h
        have h2 : nd n = k + 1 := nd_eq (by omega) h1 (fun h => by
          rcases HGT.out with h3 | h3
          · omega
          · exact h3)
        rw [← ES2.out]; unfold txl; rw [h2]⟩
      go_wp2_with (first | ((with_reducible refine wpList_storeB rfl 24 _ _ rfl _ (ints .u64 (wl 0)) _ ?_ ?_ T4.out (wl_len2 _ _) Tryd.underlying24 ?_ (wl_one _) ?_); rfl; rfl; exact cells_wide _; intro w6 hw hg hz0; have U4 := bx hw; have U0 := bx (T0.out.grown hg (ne_som (Nat.ne_of_lt V0.out.lt))); have BU := bx (BT.out.grown hg BT.out.size (fun k hk => by cases hk; exact BV.out.size)); have A4 := bx (U4.out.alloc (.cells #[.int .u8 (48 + (r : Int))] 5)); have A0 := bx (U0.out.alloc (.cells #[.int .u8 (48 + (r : Int))] 5)); have BA := bx (BU.out.alloc BU.out.size (.cells #[.int .u8 (48 + (r : Int))] 5)); clear hw hg hz0) | ((with_reducible refine wpList_loadG 24 _ rfl _ (ints .u64 (wl 0)) ?_ ?_ A4.out Tryd.underlying24 rfl ?_ ?_); rfl; rfl; exact cells_wide _) | ((with_reducible refine wpList_storeB rfl 24 _ _ rfl _ (ints .u64 (wl 0)) _ ?_ ?_ A0.out (wl_len2 _ _) Tryd.underlying24 ?_ (wl_one _) ?_); rfl; rfl; exact cells_wide _; intro w7 hw hg hz0; have C0 := bx hw; have BC := bx (BA.out.grown hg BA.out.size (fun k hk => by cases hk; exact Nat.le_refl _)); clear hw hg hz0) | ((with_reducible refine wpList_loadG 24 _ rfl _ (ints .u64 (wl 0)) ?_ ?_ C0.out Tryd.underlying24 rfl ?_ ?_); rfl; rfl; exact cells_wide _))
      go_ret
      exact ⟨by rw [← HFIN.out]; rfl, BC.out⟩
    · rw [decide_eq_false hq0] at hqs
      have HGE : Bx (10 ^ (k + 1) ≤ n) := ⟨by
        rcases Nat.lt_or_ge n (10 ^ (k + 1)) with h | h
        · have h1 := HNX.out
          rw [Nat.div_eq_of_lt h] at h1
          exact absurd h1 hq0
        · exact h⟩
      have hk76 : k + 1 ≤ 77 := by
        rcases Nat.lt_or_ge k 77 with h | h
        · exact h
        · exfalso
          have h1 : 10 ^ 78 ≤ 10 ^ (k + 1) := Nat.pow_le_pow_right (by decide) (by omega)
          have h2 : (2 : Nat) ^ 256 < 10 ^ 78 := by decide
          have h3 := HGE.out
          have h4 := HN.out
          exact absurd (Nat.lt_of_lt_of_le h4 (Nat.le_of_lt (Nat.lt_of_lt_of_le h2 (Nat.le_trans h1 h3)))) (Nat.lt_irrefl _)
      have hsk2 : sk2.size = sk.size + 1 ∧ sk.size ≤ 77 := by
        have h1 := congrArg ByteArray.size hap
        rw [ByteArray.size_append, str_size] at h1
        have h2 := congrArg ByteArray.size ES2.out
        rw [str_size, List.length_reverse, lows_len] at h2
        have h3 : ([48 + (r : Int)] : List Int).length = 1 := rfl
        omega
      go_wp2_with (first | ((with_reducible refine wpList_storeB rfl 24 _ _ rfl _ (ints .u64 (wl q)) _ ?_ ?_ T4.out (wl_len2 _ _) Tryd.underlying24 ?_ (wl_one _) ?_); rfl; rfl; exact cells_wide _; intro w6 hw hg hz0; have U4 := bx hw; have U0 := bx (T0.out.grown hg (ne_som (Nat.ne_of_lt V0.out.lt))); have BU := bx (BT.out.grown hg BT.out.size (fun k hk => by cases hk; exact BV.out.size)); have A4 := bx (U4.out.alloc (.cells #[.int .u8 (48 + (r : Int))] 5)); have A0 := bx (U0.out.alloc (.cells #[.int .u8 (48 + (r : Int))] 5)); have BA := bx (BU.out.alloc BU.out.size (.cells #[.int .u8 (48 + (r : Int))] 5)); clear hw hg hz0) | ((with_reducible refine wpList_loadG 24 _ rfl _ (ints .u64 (wl q)) ?_ ?_ A4.out Tryd.underlying24 rfl ?_ ?_); rfl; rfl; exact cells_wide _) | ((with_reducible refine wpList_storeB rfl 24 _ _ rfl _ (ints .u64 (wl q)) _ ?_ ?_ A0.out (wl_len2 _ _) Tryd.underlying24 ?_ (wl_one _) ?_); rfl; rfl; exact cells_wide _; intro w7 hw hg hz0; have C0 := bx hw; have BC := bx (BA.out.grown hg BA.out.size (fun k hk => by cases hk; exact Nat.le_refl _)); clear hw hg hz0) | ((with_reducible refine wpList_loadG 24 _ rfl _ (ints .u64 (wl q)) ?_ ?_ C0.out Tryd.underlying24 rfl ?_ ?_); rfl; rfl; exact cells_wide _))
      go_roundw
      case rel => exact ⟨k + 1, hk76, by rw [ES2.out], .inr HGE.out, by rw [← HNX.out]; exact C0.out, BC.out⟩
      case measure =>
        have h := congrArg ByteArray.size ESK.out
        simp [lenT]; omega
end Go.Proofs.YtpgpplpddjjchaaDoor
