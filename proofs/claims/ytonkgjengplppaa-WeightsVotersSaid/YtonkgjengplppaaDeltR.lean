/- The reference's Moves, and SameDeltas, walked. -/
import Derived.Test.YtonkgjengplppaaDeltW
namespace Go.Proofs.Ytonkgjengplppaa
open Go.RowKit
theorem take_dc {L : List Dl} {k : Nat} (hk : k < L.length) : (L.take (k + 1)).flatMap dc = (L.take k).flatMap dc ++ dc L[k] := by
  rw [List.take_succ_eq_append_getElem hk, List.flatMap_append]; simp
set_option maxRecDepth 20000 in
set_option maxHeartbeats 1000000 in
theorem refMoves_any (A1 A2 : Option Addr) (n c1 c2 : Nat) (xs ys : List Int) (hx : U64 xs) (hy : U64 ys) (hn : n ≤ 4096) (w : World) (h1 : URow w A1 n xs) (h2 : URow w A2 n ys) :
    Calls Try.prog 31 #[.slice A1 n c1, .slice A2 n c2] w (DP n (mvs xs ys) w) := by
  obtain ⟨i0, hi0, hz0, hz1, hz2⟩ := info_parts info_dl
  have HI := bx (show Try.prog.info? 94 = some i0 from hi0)
  have LM := bx (mvs_len h1.1 h2.1)
  have LX := bx h1.1
  have LY := bx h2.1
  have MA := bx (fun k (hk : k < (mvs xs ys).length) => mvs_at hk)
  have HX := bx hx
  have HY := bx hy
  have H1 := bx h1
  have H2 := bx h2
  generalize mvs xs ys = L at *
  clear h1 h2 hx hy hi0
  go_enter Try.func31, Try.ntmps31
  go_wp2_with fail
  go_loopw [5, 6] (fun s i wr => ∃ k : Nat, k ≤ n ∧ i = .int .i64 k ∧ wr.ownsRow w.heap.size 94 2 s k ((L.take k).flatMap dc) ∧ Below w.heap.size w wr) (fun _ i _ => n - (intOf i).toNat)
  case atStart => exact ⟨0, Nat.zero_le _, rfl, World.ownsRow_nil _ _ _ _, Below.refl _ _⟩
  case round =>
    obtain ⟨k, hk, rfl, hown, hbel⟩ := hrel
    have HOWN := bx hown
    have BR := bx hbel
    clear hown hbel
    obtain ⟨A5, c5, hv⟩ := own_slice HOWN.out
    subst hv
    by_cases hkn : k < n
    · have hki : (k : Int) < (n : Int) := by omega
      have hk0 : 0 ≤ (k : Int) := by omega
      have hkx : k < xs.length := by rw [LX.out]; exact hkn
      have hky : k < ys.length := by rw [LY.out]; exact hkn
      have hkL : k < L.length := by rw [LM.out]; exact hkn
      obtain ⟨ga, pa, rfl, ha⟩ := (H1.out.below BR.out).2 (by omega)
      obtain ⟨gb, pb, rfl, hb⟩ := (H2.out.below BR.out).2 (by omega)
      obtain ⟨wA, hwA⟩ : ∃ wA, wA = wr.alloc (.cells #[.int .u64 0, .int .u64 0] 94) := ⟨_, rfl⟩
      have hcw : Below wr.heap.size wr wA := by rw [hwA]; exact ext_alloc _ _
      have hca : wA.cell? ⟨ga, k, none⟩ = _ := URow.cell (ha.below hcw ha.lt) hkx
      have hcb : wA.cell? ⟨gb, k, none⟩ = _ := URow.cell (hb.below hcw hb.lt) hky
      have hxk := HX.out.at hkx
      have hyk := HY.out.at hky
      have hM := MA.out k hkL
      generalize xs.getD k 0 = x at *
      generalize ys.getD k 0 = y at *
      clear ha hb
      have HTK := bx (take_dc hkL)
      have GN : Bx (Has wA wr.heap.size [.int .u64 0, .int .u64 0]) := ⟨by rw [hwA]; exact Has.new wr _ _⟩
      have hc0 : wA.cell? ⟨wr.heap.size, 0, none⟩ = some (.int .u64 0) := GN.out.cell 0
      have hc1 : wA.cell? ⟨wr.heap.size, 1, none⟩ = some (.int .u64 0) := GN.out.cell 1
      have hf0 : wA.frozen? ⟨wr.heap.size, 0, none⟩ = false := GN.out.frozen 0
      have hf1 : wA.frozen? ⟨wr.heap.size, 1, none⟩ = false := GN.out.frozen 1
      have BW := bx hcw
      have BA := bx (BR.out.trans (hcw.mono BR.out.size))
      have HM1 : Bx (k + 1 ≤ maxLen) := ⟨by unfold maxLen; omega⟩
      have HM2 : Bx ((k + 1) * 16 ≤ 140737488355328) := ⟨by omega⟩
      have HWA := bx hwA
      clear hwA hcw
      by_cases hxy : y ≥ x
      · have hd : (y - x) % 18446744073709551616 = y - x := by omega
        have hMv : Bx (dc L[k] = [.int .u64 (y - x), .int .u64 0]) := ⟨by rw [hM, mv]; split; rfl; (have : x = y := by omega); subst this; simp [dc]⟩
        clear hM
        go_wp2_with fail
        rw [← HWA.out]
        go_quiet (fail)
        go_wp2_with fail
        go_region
        have G5 : Bx (Has ((wA.drewN (nq + 1)).setCell ⟨wr.heap.size, 0, none⟩ (.int .u64 (y - x))) wr.heap.size (dc L[k])) := ⟨by
          have h := (GN.out.drewN (nq + 1)).set 0 (.int .u64 (y - x)); rw [hMv.out]; exact h⟩
        have B5 : Bx (Below w.heap.size w ((wA.drewN (nq + 1)).setCell ⟨wr.heap.size, 0, none⟩ (.int .u64 (y - x)))) := ⟨
          (below_dN BA.out (nq + 1)).grown (grown_setCell _ wr.heap.size 0 (.int .u64 (y - x))) (below_dN BA.out (nq + 1)).size (fun k hk => by cases hk; exact BR.out.size)⟩
        have O5 : Bx (((wA.drewN (nq + 1)).setCell ⟨wr.heap.size, 0, none⟩ (.int .u64 (y - x))).ownsRow w.heap.size 94 2 (.slice A5 k c5) k ((L.take k).flatMap dc)) := ⟨own_ext HOWN.out ((below_dN BW.out (nq + 1)).grown (grown_setCell _ wr.heap.size 0 (.int .u64 (y - x))) (below_dN BW.out (nq + 1)).size (fun k hk => by cases hk; exact Nat.le_refl _))⟩
        generalize (wA.drewN (nq + 1)).setCell ⟨wr.heap.size, 0, none⟩ (.int .u64 (y - x)) = w9 at *
        generalize L[k] = dk at *
        obtain ⟨dp, dm⟩ := dk
        go_wp2_with (first | ((with_reducible refine wpList_loadG 94 _ rfl _ [.int .u64 dp, .int .u64 dm] ?_ ?_ G5.out Try.underlying94 rfl ?_ ?_); rfl; rfl; exact cells_dl ⟨dp, dm⟩) | (at_builtin; (with_reducible refine wpList_push rfl (.tmp 44) (.tmp 46) 61 rfl w.heap.size 94 i0 _ 2 16 Try.underlying61 HI.out hz0 hz1 hz2 ?_ (by omega) _ _ _ ?_ O5.out [.int .u64 dp, .int .u64 dm] ?_ ?_ (dc_one2 dp dm) HM1.out HM2.out B5.out.size ?_); rfl; rfl; rfl; rfl; intro v' w' hown' hg' hbel' _; have HOWN3 := bx hown'; have HB3 := bx (B5.out.trans hbel'); clear hown' hg' hbel'))
        go_roundw
        case rel => exact ⟨k + 1, hkn, by go_num, by rw [HTK.out]; exact HOWN3.out, HB3.out⟩
        case measure => simp [intOf]; omega
      · have hxy' : ¬ y ≥ x := hxy
        have hd : (x - y) % 18446744073709551616 = x - y := by omega
        have hMv : Bx (dc L[k] = [.int .u64 0, .int .u64 (x - y)]) := ⟨by rw [hM, mv]; rw [if_neg (by omega)]; rfl⟩
        clear hM
        go_wp2_with fail
        rw [← HWA.out]
        go_quiet (fail)
        go_wp2_with fail
        go_region
        have G5 : Bx (Has ((wA.drewN (nq + 1)).setCell ⟨wr.heap.size, 1, none⟩ (.int .u64 (x - y))) wr.heap.size (dc L[k])) := ⟨by
          have h := (GN.out.drewN (nq + 1)).set 1 (.int .u64 (x - y)); rw [hMv.out]; exact h⟩
        have B5 : Bx (Below w.heap.size w ((wA.drewN (nq + 1)).setCell ⟨wr.heap.size, 1, none⟩ (.int .u64 (x - y)))) := ⟨
          (below_dN BA.out (nq + 1)).grown (grown_setCell _ wr.heap.size 1 (.int .u64 (x - y))) (below_dN BA.out (nq + 1)).size (fun k hk => by cases hk; exact BR.out.size)⟩
        have O5 : Bx (((wA.drewN (nq + 1)).setCell ⟨wr.heap.size, 1, none⟩ (.int .u64 (x - y))).ownsRow w.heap.size 94 2 (.slice A5 k c5) k ((L.take k).flatMap dc)) := ⟨own_ext HOWN.out ((below_dN BW.out (nq + 1)).grown (grown_setCell _ wr.heap.size 1 (.int .u64 (x - y))) (below_dN BW.out (nq + 1)).size (fun k hk => by cases hk; exact Nat.le_refl _))⟩
        generalize (wA.drewN (nq + 1)).setCell ⟨wr.heap.size, 1, none⟩ (.int .u64 (x - y)) = w9 at *
        generalize L[k] = dk at *
        obtain ⟨dp, dm⟩ := dk
        go_wp2_with (first | ((with_reducible refine wpList_loadG 94 _ rfl _ [.int .u64 dp, .int .u64 dm] ?_ ?_ G5.out Try.underlying94 rfl ?_ ?_); rfl; rfl; exact cells_dl ⟨dp, dm⟩) | (at_builtin; (with_reducible refine wpList_push rfl (.tmp 44) (.tmp 46) 61 rfl w.heap.size 94 i0 _ 2 16 Try.underlying61 HI.out hz0 hz1 hz2 ?_ (by omega) _ _ _ ?_ O5.out [.int .u64 dp, .int .u64 dm] ?_ ?_ (dc_one2 dp dm) HM1.out HM2.out B5.out.size ?_); rfl; rfl; rfl; rfl; intro v' w' hown' hg' hbel' _; have HOWN3 := bx hown'; have HB3 := bx (B5.out.trans hbel'); clear hown' hg' hbel'))
        go_roundw
        case rel => exact ⟨k + 1, hkn, by go_num, by rw [HTK.out]; exact HOWN3.out, HB3.out⟩
        case measure => simp [intOf]; omega
    · have hkk : k = n := by omega
      subst hkk
      have HPA : Bx (L.take k = L) := ⟨List.take_of_length_le (by rw [LM.out]; exact Nat.le_refl _)⟩
      go_wp2_with fail
      go_ret
      exact ⟨_, _, rfl, DRow.own LM.out (by rw [← HPA.out]; exact HOWN.out), BR.out⟩
end Go.Proofs.Ytonkgjengplppaa
