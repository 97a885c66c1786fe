/- Moves and its reference, walked. -/
import Derived.Test.YtonkgjengplppaaDelt
namespace Go.Proofs.Ytonkgjengplppaa
open Go.RowKit
set_option maxRecDepth 20000 in
set_option maxHeartbeats 1000000 in
theorem moves_any (A0 A1 A2 : Option Addr) (n c0 c1 c2 : Nat) (xs ys : List Int) (hx : U64 xs) (hy : U64 ys) (hn : n ≤ 4096) (w : World) (h1 : URow w A1 n xs) (h2 : URow w A2 n ys) :
    Calls Try.prog 30 #[.agg #[.slice A0 n c0], .slice A1 n c1, .slice A2 n c2] w (DP n (mvs xs ys) w) := by
  obtain ⟨i0, hi0, hz0, hz1, hz2⟩ := info_parts info_dl
  have hmk := fun w => run_make (P := Try.prog) w 61 94 i0 _ Try.underlying61 hi0 hz0 .i64 .i64 n n (by omega) (Int.le_refl _) (by rw [hz2]; omega) (by omega)
  rw [hz1, Int.toNat_natCast, made_flat dc ⟨0, 0⟩ (Value.agg (dc ⟨0, 0⟩).toArray).cells (by simp [Value.cells]) (k := 2) (by rfl) (by omega) n] at hmk
  have LM := bx (mvs_len h1.1 h2.1)
  have LX := bx h1.1
  have LY := bx h2.1
  have MA := bx (fun k (hk : k < (mvs xs ys).length) => mvs_at hk)
  have HX := bx hx
  have HY := bx hy
  have H1 := bx h1
  have H2 := bx h2
  rw [← part0_zero (mvs xs ys) n] at hmk
  generalize mvs xs ys = L at *
  obtain ⟨cs, hcs⟩ : ∃ cs, cs = (part0 L n 0).flatMap dc := ⟨_, rfl⟩
  rw [← hcs] at hmk
  have HCS := bx hcs
  clear h1 h2 hx hy hcs hi0 hz0 hz1 hz2
  obtain ⟨wB, hwB⟩ : ∃ wB, wB = (w.alloc (.cells #[.slice A0 n c0] 25)).alloc (.cells cs.toArray 94) := ⟨_, rfl⟩
  have HG : Bx (Has wB (w.heap.size + 1) ((part0 L n 0).flatMap dc)) := ⟨by
    rw [← HCS.out, hwB]; have := Has.new (w.alloc (.cells #[.slice A0 n c0] 25)) cs 94; rwa [alloc_size] at this⟩
  have BB : Bx (Below w.heap.size w wB) := ⟨by rw [hwB]; exact ((Below.refl w.heap.size w).alloc (Nat.le_refl _) _).alloc (by simp) _⟩
  have HWB := bx hwB
  clear hwB
  go_enter Try.func30, Try.ntmps30
  go_wp2_with fail
  rw [← HWB.out]
  go_loopw [15] (fun i wr => ∃ k : Nat, k ≤ n ∧ i = .int .i64 k ∧ Has wr (w.heap.size + 1) ((part0 L n k).flatMap dc) ∧ Below w.heap.size w wr) (fun i _ => n - (intOf i).toNat)
  case atStart => exact ⟨0, Nat.zero_le _, rfl, HG.out, BB.out⟩
  case round =>
    obtain ⟨k, hk, rfl, hg, hbel⟩ := hrel
    have GG := bx hg
    have BR := bx hbel
    clear hg hbel HG BB HWB
    by_cases hkn : k < n
    · have hki : (k : Int) < (n : Int) := by omega
      have hk0 : 0 ≤ (k : Int) := by omega
      have hkx : k < xs.length := by rw [LX.out]; exact hkn
      have hky : k < ys.length := by rw [LY.out]; exact hkn
      have hkL : k < L.length := by rw [LM.out]; exact hkn
      obtain ⟨ga, pa, rfl, ha⟩ := (H1.out.below BR.out).2 (by omega)
      obtain ⟨gb, pb, rfl, hb⟩ := (H2.out.below BR.out).2 (by omega)
      have hca := URow.cell ha hkx
      have hcb := URow.cell hb hky
      have hxk := HX.out.at hkx
      have hyk := HY.out.at hky
      have hM := MA.out k hkL
      generalize xs.getD k 0 = x at *
      generalize ys.getD k 0 = y at *
      clear ha hb
      have hf : wr.frozen? ⟨w.heap.size + 1, k * 2, none⟩ = false := GG.out.frozen _
      have hf1 : wr.frozen? ⟨w.heap.size + 1, k * 2 + 1, none⟩ = false := GG.out.frozen _
      have hp0 := part0_at LM.out hkn
      have hlp := part0_len (L := L) LM.out (Nat.le_of_lt hkn)
      have hc0 : wr.cell? ⟨w.heap.size + 1, k * 2, none⟩ = some (.int .u64 0) := by
        have := flat_cell (post := []) (by rw [List.append_nil]; exact GG.out) (k := k) (by rw [hlp]; exact hkn) 0 (by omega)
        rw [hp0] at this; exact this
      have hc1 : wr.cell? ⟨w.heap.size + 1, k * 2 + 1, none⟩ = some (.int .u64 0) := by
        have := flat_cell (post := []) (by rw [List.append_nil]; exact GG.out) (k := k) (by rw [hlp]; exact hkn) 1 (by omega)
        rw [hp0] at this; exact this
      have HS0 : Bx (∀ v, ((part0 L n k).flatMap dc).set (k * 2) (.int .u64 v) = ((part0 L n k).set k ⟨v, 0⟩).flatMap dc) := ⟨fun v => by
        have := set_p (part0 L n k) [] k v (by rw [hlp]; exact hkn)
        rw [List.append_nil, List.append_nil, hp0] at this; exact this⟩
      have HS1 : Bx (∀ v, ((part0 L n k).flatMap dc).set (k * 2 + 1) (.int .u64 v) = ((part0 L n k).set k ⟨0, v⟩).flatMap dc) := ⟨fun v => by
        have := set_m (part0 L n k) [] k v (by rw [hlp]; exact hkn)
        rw [List.append_nil, List.append_nil, hp0] at this; exact this⟩
      have HST := bx (part0_set LM.out hkn)
      clear hp0 hlp
      by_cases hxy : x < y
      · have hxy' : y > x := hxy
        have hd : (y - x) % 18446744073709551616 = y - x := by omega
        have hMv : Bx (L[k] = ⟨y - x, 0⟩) := ⟨by rw [hM, mv, if_pos hxy]⟩
        have HSX := bx hki
        clear hM
        go_wp2_with fail
        go_quiet (fail)
        go_wp2_with fail
        go_region
        have G5 : Bx (Has ((wr.drewN (nq + 1)).setCell ⟨w.heap.size + 1, k * 2, none⟩ (.int .u64 (y - x))) (w.heap.size + 1) ((part0 L n (k + 1)).flatMap dc)) := ⟨by
          have h := (GG.out.drewN (nq + 1)).set (k * 2) (.int .u64 (y - x)); rw [HS0.out, ← hMv.out, HST.out] at h; exact h⟩
        have B5 : Bx (Below w.heap.size w ((wr.drewN (nq + 1)).setCell ⟨w.heap.size + 1, k * 2, none⟩ (.int .u64 (y - x)))) := ⟨
          (below_dN BR.out (nq + 1)).grown (grown_setCell _ (w.heap.size + 1) (k * 2) (.int .u64 (y - x))) (below_dN BR.out (nq + 1)).size (fun k hk => by cases hk; omega)⟩
        generalize (wr.drewN (nq + 1)).setCell ⟨w.heap.size + 1, k * 2, none⟩ (.int .u64 (y - x)) = w9 at *
        go_wp2_with fail
        go_roundw
        case rel => exact ⟨k + 1, hkn, by go_num, G5.out, B5.out⟩
        case measure => simp [intOf]; omega
      · have hxy' : ¬ y > x := hxy
        have hd : (x - y) % 18446744073709551616 = x - y := by omega
        have hMv : Bx (L[k] = ⟨0, x - y⟩) := ⟨by rw [hM, mv, if_neg hxy]⟩
        have HSX := bx hki
        clear hM
        go_wp2_with fail
        go_quiet (fail)
        go_wp2_with fail
        go_region
        have G5 : Bx (Has ((wr.drewN (nq + 1)).setCell ⟨w.heap.size + 1, k * 2 + 1, none⟩ (.int .u64 (x - y))) (w.heap.size + 1) ((part0 L n (k + 1)).flatMap dc)) := ⟨by
          have h := (GG.out.drewN (nq + 1)).set (k * 2 + 1) (.int .u64 (x - y)); rw [HS1.out, ← hMv.out, HST.out] at h; exact h⟩
        have B5 : Bx (Below w.heap.size w ((wr.drewN (nq + 1)).setCell ⟨w.heap.size + 1, k * 2 + 1, none⟩ (.int .u64 (x - y)))) := ⟨
          (below_dN BR.out (nq + 1)).grown (grown_setCell _ (w.heap.size + 1) (k * 2 + 1) (.int .u64 (x - y))) (below_dN BR.out (nq + 1)).size (fun k hk => by cases hk; omega)⟩
        generalize (wr.drewN (nq + 1)).setCell ⟨w.heap.size + 1, k * 2 + 1, none⟩ (.int .u64 (x - y)) = w9 at *
        go_wp2_with fail
        go_roundw
        case rel => exact ⟨k + 1, hkn, by go_num, G5.out, B5.out⟩
        case measure => simp [intOf]; omega
    · have hkk : k = n := by omega
      subst hkk
      have HPA := bx (part0_all LM.out)
      go_wp2_with fail
      go_ret
      exact ⟨_, _, rfl, DRow.has LM.out (by rw [← HPA.out]; exact GG.out), BR.out⟩
end Go.Proofs.Ytonkgjengplppaa
