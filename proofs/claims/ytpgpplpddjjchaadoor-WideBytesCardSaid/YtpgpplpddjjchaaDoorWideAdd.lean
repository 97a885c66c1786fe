/- Numbers of 256 bits: the program's sum and difference. -/
import Derived.Test.YtpgpplpddjjchaaDoorWideA
import Derived.Test.YtpgpplpddjjchaaDoorMix2
namespace Go.Proofs.YtpgpplpddjjchaaDoor
open Go.RowKit

def ck (m r : Nat) : Nat := if r = 0 then m else 0
def ckE (r : Nat) : Int := if r = 0 then 0 else 4
set_option maxRecDepth 20000 in
set_option maxHeartbeats 400000 in
theorem checked_any (m r : Nat) (hr : r < 18446744073709551616) (w : World) :
    Calls Tryd.prog 34 #[.agg (ints .u64 (wl m)).toArray, .int .u64 r] w fun e w' => e = .returned (.tuple #[.agg (ints .u64 (wl (ck m r))).toArray, .int .i64 (ckE r)]) ∧ Below w.heap.size w w' := by
  have hz := wz_lit
  have X0 := bx ((Has.new w (ints .u64 (wl m)) 24).alloc (.cells (ints .u64 (wl 0)).toArray 24))
  have X1 : Bx (Has ((w.alloc (.cells (ints .u64 (wl m)).toArray 24)).alloc (.cells (ints .u64 (wl 0)).toArray 24)) (w.heap.size + 1) (ints .u64 (wl 0))) := ⟨by
    have := Has.new (w.alloc (.cells (ints .u64 (wl m)).toArray 24)) (ints .u64 (wl 0)) 24
    rwa [alloc_size] at this⟩
  have BB := bx (((Below.refl w.heap.size w).alloc (Nat.le_refl _) (.cells (ints .u64 (wl m)).toArray 24)).alloc (by simp) (.cells (ints .u64 (wl 0)).toArray 24))
  by_cases h0 : r = 0
  · subst h0
    have HE : Bx (ck m 0 = m ∧ ckE 0 = 0) := ⟨rfl, rfl⟩
    have hn : ((0 : Nat) : Int) = 0 := rfl
    rw [hn]
    clear hn
    go_enter Tryd.func34, Tryd.ntmps34
    go_wp2_with (first | ((with_reducible refine wpList_loadG 24 _ rfl _ (ints .u64 (wl m)) ?_ ?_ X0.out Tryd.underlying24 rfl ?_ ?_); rfl; rfl; exact cells_wide _) | ((with_reducible refine wpList_storeB rfl 24 _ _ rfl _ (ints .u64 (wl m)) _ ?_ ?_ X1.out (wl_len2 _ _) Tryd.underlying24 ?_ (wl_one _) ?_); rfl; rfl; exact cells_wide _; intro w9 hw hg hz0; have U9 := bx hw; have B9 := bx (BB.out.grown hg BB.out.size (fun k hk => by cases hk; omega)); clear hw hg hz0))
    exact bodyPost_ret (results_cell_tmp (by rfl) _ (by rfl) U9.out Tryd.underlying24 rfl (cells_wide _)) rfl ⟨by rw [HE.out.1, HE.out.2]; rfl, B9.out⟩
  · have HE : Bx (ck m r = 0 ∧ ckE r = 4) := ⟨if_neg h0, if_neg h0⟩
    have h1 : ((r : Int) != 0) = true := by simp; exact h0
    have h2 : ¬ (r : Int) = 0 := by omega
    go_enter Tryd.func34, Tryd.ntmps34
    go_wp2_with ((with_reducible refine wpList_storeB rfl 24 _ _ rfl _ (ints .u64 (wl 0)) _ ?_ ?_ X1.out (wl_len2 _ _) Tryd.underlying24 ?_ (wl_one _) ?_); rfl; rfl; exact cells_wide _; intro w9 hw hg hz0; have U9 := bx hw; have B9 := bx (BB.out.grown hg BB.out.size (fun k hk => by cases hk; omega)); clear hw hg hz0)
    exact bodyPost_ret (results_cell_tmp (by rfl) _ (by rfl) U9.out Tryd.underlying24 rfl (cells_wide _)) rfl ⟨by rw [HE.out.1, HE.out.2]; rfl, B9.out⟩
theorem ck_sum {n m s c : Nat} (h : s = (n + m) % 2 ^ 256 ∧ c = (n + m) / 2 ^ 256) : ck s c = okW (n + m) ∧ ckE c = erW (n + m) := by
  unfold ck ckE okW erW
  by_cases h1 : n + m < 2 ^ 256
  · rw [h.1, h.2, Nat.div_eq_of_lt h1, if_pos (Eq.refl 0), if_pos h1, if_pos (Eq.refl 0), if_pos h1, Nat.mod_eq_of_lt h1]
    exact ⟨rfl, rfl⟩
  · have : c ≠ 0 := fun h0 => by
      have h2 := Nat.div_pos (Nat.le_of_not_lt h1) (Nat.two_pow_pos 256)
      rw [← h.2, h0] at h2; exact absurd h2 (Nat.lt_irrefl _)
    rw [if_neg this, if_neg h1, if_neg this, if_neg h1]
    exact ⟨rfl, rfl⟩

theorem quiet_u64 {C : World → Prop} {o : Oper} {a : Act} {K : Act → Prop} (x : Operand) (ho : o.op = .load 22 x) (g i : Nat) (v : Int) (hx : a.eval x = .pointer (some ⟨g, i, none⟩))
    (hr : ∀ w, C w → w.cell? ⟨g, i, none⟩ = some (.int .u64 v)) (hk : K (a.put o.dst (.int .u64 v))) : o.quiet Tryd.prog a C K := by
  refine ⟨_, fun w hw => ?_, hk⟩
  unfold Oper.quietAt execOp
  have hl : (Instr.loadAt 22 (.pointer (some ⟨g, i, none⟩))).run Tryd.prog w = .ok (.int .u64 v) w := by
    simp [Instr.loadAt, Instr.sureAddr, loadVar, isAgg, run_underlying Tryd.underlying22, run_load, hr w hw]
  simp only [ho, hx, hl, Sem.run_bind, Sem.run_pure, Result.andThen_ok]
  exact ⟨rfl, rfl⟩
theorem grown_drew' {w w' : World} {row : Option Nat} (h : w.drew.grownBy w' row) : w.grownBy w' row := ⟨h.os, h.tape, h.output, h.size, h.block⟩
theorem cls_cell {w : World} {g i n : Nat} (h : Has w g (ints .u64 (wl n))) (hi : i < 4) : ∀ w', Cls w.heap.size w w' → w'.cell? ⟨g, i, none⟩ = some (.int .u64 (lN n i)) := fun w' hw => by
  rw [(h.below hw.out h.lt).cell, wl_at n i hi]; rfl
/-- one number is written -/
theorem wpList_storeU {ops : Array Oper} {rest : List Oper} {o : Oper} {a : Act} {w : World} {Q : Exit → Act → World → Prop} (hgd : o.guard = none) (x y : Operand) (ho : o.op = .store 22 x y)
    (g i : Nat) (v : Int) (cs : List Value) (hx : a.eval x = .pointer (some ⟨g, i, none⟩)) (hy : a.eval y = .int .u64 v) (hg : Has w g cs) (hi : i < cs.length)
    (h : ∀ w', Has w' g (cs.set i (.int .u64 v)) → w.grownBy w' (some g) → w'.heap.size = w.heap.size → wpList Tryd.prog ops Q rest (a.put o.dst undef) w') : wpList Tryd.prog ops Q (o :: rest) a w := by
  have ht : w.there g i (#[Value.int .u64 v] : Array Value).size := fun j hj => by
    have hj0 : j = 0 := by simpa using hj
    subst hj0
    rw [Nat.add_zero, hg.cell i, hg.frozen i, List.getElem?_eq_getElem hi]
    exact ⟨rfl, rfl⟩
  have hr : (Instr.storeAt 22 (.pointer (some ⟨g, i, none⟩)) (.int .u64 v)).run Tryd.prog w = .ok () (w.setCells g i [.int .u64 v]) :=
    run_storeAt_mid (P := Tryd.prog) w g i 22 #[.int .u64 v] ht (info_size Tryd.underlying22 (by kernel_rfl)) (all_oneCell_toArray (cs := [Value.int .u64 v]) (fun u hu => by simp at hu; subst hu; rfl))
  refine wpList_plain hgd fun K hK => ?_
  unfold Oper.wp execOp
  simp only [ho, hx, hy, hr, Sem.run_bind, Sem.run_pure, Result.andThen_ok, Oper.upon]
  exact hK _ _ (h _ (hg.set i _) (grown_setCell w g i _) (by simp [World.setCells, World.setCell]))
set_option maxRecDepth 20000 in
set_option maxHeartbeats 1000000 in
theorem add_any (n m : Nat) (hn : n < 2 ^ 256) (hm : m < 2 ^ 256) (w : World) :
    Calls Tryd.prog 10 #[.agg (ints .u64 (wl n)).toArray, .agg (ints .u64 (wl m)).toArray] w (WE (n + m) w) := by
  have hz := wz_lit
  have HN := bx hn
  have HM := bx hm
  have HC0 : Bx (Cut4 (n % 2 ^ (64 * 0) + m % 2 ^ (64 * 0)) 0 0 0) := ⟨by simp, by simp [Nat.mod_one]⟩
  obtain ⟨wA, hwA⟩ : ∃ wA, wA = ((w.alloc (.cells (ints .u64 (wl n)).toArray 24)).alloc (.cells (ints .u64 (wl m)).toArray 24)).alloc (.cells (ints .u64 (wl 0)).toArray 24) := ⟨_, rfl⟩
  have X0 : Bx (Has wA w.heap.size (ints .u64 (wl n))) := ⟨by rw [hwA]; exact ((Has.new w _ _).alloc _).alloc _⟩
  have X1 : Bx (Has wA (w.heap.size + 1) (ints .u64 (wl m))) := ⟨by rw [hwA]; have := (Has.new (w.alloc (.cells (ints .u64 (wl n)).toArray 24)) (ints .u64 (wl m)) 24).alloc (.cells (ints .u64 (wl 0)).toArray 24); rwa [alloc_size] at this⟩
  have X2 : Bx (Has wA (w.heap.size + 1 + 1) (ints .u64 (wl 0))) := ⟨by rw [hwA]; have := Has.new ((w.alloc (.cells (ints .u64 (wl n)).toArray 24)).alloc (.cells (ints .u64 (wl m)).toArray 24)) (ints .u64 (wl 0)) 24; rwa [alloc_size, alloc_size] at this⟩
  have BA : Bx (Below w.heap.size w wA) := ⟨by rw [hwA]; exact (((Below.refl w.heap.size w).alloc (Nat.le_refl _) _).alloc (by simp) _).alloc (by simp; omega) _⟩
  have HWA := bx hwA
  clear hwA hn hm
  go_enter Tryd.func10, Tryd.ntmps10
  go_wp2_with fail
  rw [← HWA.out]
  go_loopw [6, 8] (fun q i wr => ∃ j s cc : Nat, j ≤ 4 ∧ i = .int .i64 j ∧ q = .int .u64 cc ∧ Cut4 (n % 2 ^ (64 * j) + m % 2 ^ (64 * j)) s cc j ∧ Has wr w.heap.size (ints .u64 (wl (upd n s j))) ∧ Has wr (w.heap.size + 1) (ints .u64 (wl m)) ∧ Has wr (w.heap.size + 1 + 1) (ints .u64 (wl 0)) ∧ Below w.heap.size w wr) (fun _ i _ => 4 - (intOf i).toNat)
  case atStart => exact ⟨0, 0, 0, Nat.zero_le _, rfl, rfl, HC0.out, by rw [upd_zero]; exact X0.out, X1.out, X2.out, BA.out⟩
  case round =>
    obtain ⟨j, s, cc, hj, rfl, rfl, hcut, hx0, hx1, hx2, hbel⟩ := hrel
    have Y0 := bx hx0
    have Y1 := bx hx1
    have Y2 := bx hx2
    have BY := bx hbel
    have CUT := bx hcut
    clear hx0 hx1 hx2 hbel hcut X0 X1 X2 BA HWA
    by_cases hj4 : j < 4
    · have hcc : cc < 2 := CUT.out.top (add4_lt n m j)
      have NXT := bx (CUT.out.next (x := lN n j + lN m j))
      rw [← add4_next] at NXT
      have HU : Bx (lN (upd n s j) j = lN n j) := ⟨by have := upd_limb (n := n) CUT.out.1; rw [limb_lN, limb_lN] at this; omega⟩
      have C0 := bx (cls_cell (w := wr.drew) (i := j) (show Has wr.drew _ _ from Y0.out) hj4)
      rw [HU.out] at C0
      have C1 := bx (cls_cell (w := wr.drew) (i := j) (show Has wr.drew _ _ from Y1.out) hj4)
      have A64 := bx (run_add64N (lN n j) (lN m j) cc (lN_lt n j) (lN_lt m j) (by omega))
      have hset := upd_set (n := n) (x := (lN n j + lN m j + cc) % 18446744073709551616) hj4 CUT.out.1 (Nat.mod_lt _ (by decide))
      have ecc : cc + (lN n j + lN m j) = lN n j + lN m j + cc := by omega
      rw [ecc] at NXT
      clear ecc
      generalize lN n j = a1 at *
      generalize lN m j = a2 at *
      generalize hs2 : s + (a1 + a2 + cc) % 18446744073709551616 * 2 ^ (64 * j) = s2 at *
      generalize hlo : (a1 + a2 + cc) % 18446744073709551616 = lo at *
      generalize hup : (a1 + a2 + cc) / 18446744073709551616 = up at *
      have HSET := bx hset
      have hjl : (j : Int) < 4 := by omega
      have h4 : ∀ n : Nat, ((ints .u64 (wl n)).length : Int) = 4 := fun _ => rfl
      clear hs2 hlo hup hset
      go_wp2_with fail
      refine wp_region_mix2 13 [(0, 0), (0, 1), (0, 2), (0, 3), (0, 4), (0, 5), (0, 6), (0, 7), (2, 8), (1, 9), (1, 10), (1, 11), (1, 12)] (by kernel_rfl) (by kernel_rfl) ?_
      simp only [MixH, List.getD_cons_zero, List.getD_cons_succ, List.drop_succ_cons, List.drop_zero]
      repeat (first | (with_reducible refine wpQuiet_nil ?_) | (first | go_big_quiet_skip | (go_big_quiet_want; first | (first | ((with_reducible refine quiet_u64 _ rfl _ j _ ?_ C0.out ?_); rfl; go_big_quiet_on; (simp only [Act.put, List.setIfInBounds_toArray, List.set_cons_succ, List.set_cons_zero])) | ((with_reducible refine quiet_u64 _ rfl _ j _ ?_ C1.out ?_); rfl; go_big_quiet_on; (simp only [Act.put, List.setIfInBounds_toArray, List.set_cons_succ, List.set_cons_zero]))) | (go_big_quiet_op; first | go_big_quiet_on | ((with_reducible refine ⟨_, fun _ _ => rfl, ?_⟩); go_big_quiet_on)))))
      refine mix_ext (A64.out _) _ _ rfl rfl rfl ?_
      refine ⟨Cls.refl _ _, ?_⟩
      simp only [Act.put, List.setIfInBounds_toArray, List.set_cons_succ, List.set_cons_zero]
      repeat (first | (with_reducible refine wpQuiet_nil ?_) | (first | go_big_quiet_skip | (go_big_quiet_want; first | fail | (go_big_quiet_op; first | go_big_quiet_on | ((with_reducible refine ⟨_, fun _ _ => rfl, ?_⟩); go_big_quiet_on)))))
      have D0 : Bx (Has wr.drew w.heap.size (ints .u64 (wl (upd n s j)))) := ⟨Y0.out⟩
      have HL4 : Bx (j < (ints .u64 (wl (upd n s j))).length) := ⟨by rw [wl_len]; exact hj4⟩
      go_wp2_with ((with_reducible refine wpList_storeU rfl _ _ rfl _ j (lo : Int) _ ?_ ?_ D0.out HL4.out ?_); rfl; rfl; intro w3 hw3 hg3 hz3; rw [HSET.out] at hw3; have Z0 := bx hw3; have Z1 := bx (Y1.out.grown (grown_drew' hg3) (fun e => by injection e with e; omega)); have Z2 := bx (Y2.out.grown (grown_drew' hg3) (fun e => by injection e with e; omega)); have BZ := bx (BY.out.grown (grown_drew' hg3) BY.out.size (fun k hk => by cases hk; omega)); clear hw3 hg3 hz3)
      refine NoPanic.normal ?_
      go_wp2_with fail
      go_roundw
      case rel => exact ⟨j + 1, s2, up, by omega, by go_num, rfl, NXT.out, Z0.out, Z1.out, Z2.out, BZ.out⟩
      case measure => simp [intOf]; omega
    · obtain rfl : j = 4 := by omega
      have hfin := CUT.out.eq
      have hcc : cc < 2 := CUT.out.top (add4_lt n m 4)
      have e4 : 64 * 4 = 256 := rfl
      rw [upd_done HN.out] at Y0
      rw [e4, Nat.mod_eq_of_lt HN.out, Nat.mod_eq_of_lt HM.out] at hfin
      have HF := bx (ck_sum hfin)
      clear hfin e4
      go_wp2_with ((with_reducible refine wpList_loadG 24 _ rfl _ (ints .u64 (wl s)) ?_ ?_ Y0.out Tryd.underlying24 rfl ?_ ?_); rfl; rfl; exact cells_wide _)
      refine (checked_any s cc (by omega) _).mono ?_; rintro e w3 ⟨he, hb3⟩
      rw [HF.out.1, HF.out.2] at he
      subst he
      have V2 := bx (Y2.out.below hb3 Y2.out.lt)
      have BV := bx (BY.out.trans (hb3.mono BY.out.size))
      clear hb3
      generalize hR : okW (n + m) = R at *
      generalize hr : erW (n + m) = er at *
      have HR := bx hR
      have Hr := bx hr
      clear hR hr
      go_wp2_with ((with_reducible refine wpList_storeB rfl 24 _ _ rfl _ (ints .u64 (wl R)) _ ?_ ?_ V2.out (wl_len2 _ _) Tryd.underlying24 ?_ (wl_one _) ?_); rfl; rfl; exact cells_wide _; intro w9 hw hg hz0; have U9 := bx hw; have B9 := bx (BV.out.grown hg BV.out.size (fun k hk => by cases hk; omega)); clear hw hg hz0)
      exact bodyPost_ret (results_cell_tmp (by rfl) _ (by rfl) U9.out Tryd.underlying24 rfl (cells_wide _)) rfl ⟨by rw [HR.out, Hr.out]; rfl, B9.out⟩
end Go.Proofs.YtpgpplpddjjchaaDoor
