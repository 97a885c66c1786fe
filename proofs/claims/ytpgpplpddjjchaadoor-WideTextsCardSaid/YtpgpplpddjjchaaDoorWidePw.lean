/- Numbers of 256 bits: the program's reading of decimal notation, walked. -/
import Derived.Test.YtpgpplpddjjchaaDoorWideP
namespace Go.Proofs.YtpgpplpddjjchaaDoor
open Go.RowKit
theorem index_nums (s : ByteArray) (k : Nat) (hk : k < s.size) (w : World) : (Instr.index 9 (.string s) (.int .i64 (k : Int))).run Tryd.prog w = .ok (.int .u8 ((numsOf s).getD k 0)) w := by
  rw [numsOf_at s k hk]; exact run_index_str Tryd.underlying9 s k hk w
theorem nums_bd (s : ByteArray) (k : Nat) (hk : k < s.size) : 0 ≤ (numsOf s).getD k 0 ∧ (numsOf s).getD k 0 ≤ 255 := by
  refine numsOf_bd ?_ (s := s)
  rw [List.getD_eq_getElem?_getD, List.getElem?_eq_getElem (by rw [numsOf_len]; exact hk)]
  exact List.getElem_mem _
set_option maxRecDepth 20000 in
set_option maxHeartbeats 1000000 in
theorem parse_bad (s : ByteArray) (hs : s.size ≤ 500) (h : s.size = 0 ∨ 80 < s.size ∨ (0 < s.size ∧ s.size ≤ 80 ∧ (numsOf s).getD 0 0 = 48 ∧ 1 < s.size)) (w : World) : Calls Tryd.prog 30 #[.string s] w (WP (numsOf s) w) := by
  have hz := wz_lit
  have X0 := bx (Has.new w (ints .u64 (wl 0)) 24)
  have B0 := bx ((Below.refl w.heap.size w).alloc (Nat.le_refl _) (.cells (ints .u64 (wl 0)).toArray 24))
  have HB : Bx (pW (numsOf s) = 0 ∧ pE (numsOf s) = 1) := ⟨bad_of (by
    unfold badT
    rw [numsOf_len]
    rcases h with h | h | ⟨h1, h2, h3, h4⟩
    · rw [decide_eq_true h]; rfl
    · rw [decide_eq_true h]; simp
    · rw [decide_eq_true h3, decide_eq_true h4]; simp)⟩
  rcases h with h | h | ⟨h1, h2, h3, h4⟩
  · have h0 : ((s.size : Int) == 0) = true := by rw [beq_iff_eq]; omega
    go_enter Tryd.func30, Tryd.ntmps30
    go_wp2_with ((with_reducible refine wpList_storeB rfl 24 _ _ rfl _ (ints .u64 (wl 0)) _ ?_ ?_ X0.out (wl_len2 _ _) Tryd.underlying24 ?_ (wl_one _) ?_); rfl; rfl; exact cells_wide _; intro w1 hw hg hz0; have U9 := bx hw; have B9 := bx (B0.out.grown hg (by simp) (fun k hk => by cases hk; exact Nat.le_refl _)); clear hw hg hz0)
    exact bodyPost_ret (results_cell_tmp (by rfl) _ (by rfl) U9.out Tryd.underlying24 rfl (cells_wide _)) rfl ⟨by rw [HB.out.1, HB.out.2]; rfl, B9.out⟩
  · have h0 : ((s.size : Int) == 0) = false := by rw [beq_eq_false_iff_ne]; omega
    have h8 : (80 : Int) < (s.size : Int) := by omega
    go_enter Tryd.func30, Tryd.ntmps30
    go_wp2_with ((with_reducible refine wpList_storeB rfl 24 _ _ rfl _ (ints .u64 (wl 0)) _ ?_ ?_ X0.out (wl_len2 _ _) Tryd.underlying24 ?_ (wl_one _) ?_); rfl; rfl; exact cells_wide _; intro w1 hw hg hz0; have U9 := bx hw; have B9 := bx (B0.out.grown hg (by simp) (fun k hk => by cases hk; exact Nat.le_refl _)); clear hw hg hz0)
    exact bodyPost_ret (results_cell_tmp (by rfl) _ (by rfl) U9.out Tryd.underlying24 rfl (cells_wide _)) rfl ⟨by rw [HB.out.1, HB.out.2]; rfl, B9.out⟩
  · have h0 : ((s.size : Int) == 0) = false := by rw [beq_eq_false_iff_ne]; omega
    have h8 : ¬ (80 : Int) < (s.size : Int) := by omega
    have h5 : (1 : Int) < (s.size : Int) := by omega
    have hix : ∀ w : World, (Instr.index 9 (.string s) (.int .i64 0)).run Tryd.prog w = .ok (.int .u8 48) w := fun w => by have := index_nums s 0 h1 w; rw [h3] at this; exact this
    go_enter Tryd.func30, Tryd.ntmps30
    go_wp2_with ((with_reducible refine wpList_storeB rfl 24 _ _ rfl _ (ints .u64 (wl 0)) _ ?_ ?_ X0.out (wl_len2 _ _) Tryd.underlying24 ?_ (wl_one _) ?_); rfl; rfl; exact cells_wide _; intro w1 hw hg hz0; have U9 := bx hw; have B9 := bx (B0.out.grown hg (by simp) (fun k hk => by cases hk; exact Nat.le_refl _)); clear hw hg hz0)
    exact bodyPost_ret (results_cell_tmp (by rfl) _ (by rfl) U9.out Tryd.underlying24 rfl (cells_wide _)) rfl ⟨by rw [HB.out.1, HB.out.2]; rfl, B9.out⟩
end Go.Proofs.YtpgpplpddjjchaaDoor
