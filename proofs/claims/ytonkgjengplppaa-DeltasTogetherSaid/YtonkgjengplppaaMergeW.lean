/- Merge of the program, walked. -/
import Derived.Test.YtonkgjengplppaaMergeM
namespace Go.Proofs.Ytonkgjengplppaa
open Go.RowKit
theorem run_deltas1 {w : World} {p : Addr} {v : Value} (hc : w.cell? p = some v) : (Instr.loadAt 61 (.pointer (some p))).run Try.prog w = .ok v w := by
  simp [Instr.loadAt, Instr.sureAddr, loadVar, isAgg, run_underlying Try.underlying61, run_load, hc]
set_option maxRecDepth 20000 in
set_option maxHeartbeats 2000000 in
theorem merge_any (A0 Al : Option Addr) (n c0 m cl : Nat) (ps : List Pt) (hn : n ≤ 4096) (hm : m ≤ 4096) (w : World) (hl : LL w Al m ps) :
    Calls Try.prog 36 #[.agg #[.slice A0 n c0], .slice Al m cl] w (MP ps n m w) := by
  obtain ⟨i0, hi0, hz0, hz1, hz2⟩ := info_parts info_dl
  have hmk := fun w => run_make (P := Try.prog) w 61 94 i0 _ Try.underlying61 hi0 hz0 .i64 .i64 n n (by omega) (Int.le_refl _) (by rw [hz2]; omega) (by omega)
  rw [hz1, Int.toNat_natCast, made_flat dc ⟨0, 0⟩ (Value.agg (dc ⟨0, 0⟩).toArray).cells (by simp [Value.cells]) (k := 2) (by rfl) (by omega) n] at hmk
  obtain ⟨cs, hcs⟩ : ∃ cs, cs = (List.replicate n (⟨0, 0⟩ : Dl)).flatMap dc := ⟨_, rfl⟩
  rw [← hcs] at hmk
  have HCS := bx hcs
  have LEN := bx hl.len
  have HLL := bx hl
  clear hcs hi0 hz0 hz1 hz2 hl
  obtain ⟨wB, hwB⟩ : ∃ wB, wB = (w.alloc (.cells #[.slice A0 n c0] 25)).alloc (.cells cs.toArray 94) := ⟨_, rfl⟩
  have HG : Bx (Has wB (w.heap.size + 1) ((List.replicate n (⟨0, 0⟩ : Dl)).flatMap dc)) := ⟨by
    rw [← HCS.out, hwB]; have := Has.new (w.alloc (.cells #[.slice A0 n c0] 25)) cs 94; rwa [alloc_size] at this⟩
  have BB : Bx (Below w.heap.size w wB) := ⟨by rw [hwB]; exact ((Below.refl w.heap.size w).alloc (Nat.le_refl _) _).alloc (by simp) _⟩
  have HWB := bx hwB
  have HM := bx hm
  clear hwB
  go_enter Try.func36, Try.ntmps36
  go_wp2_with fail
  rw [← HWB.out]
  go_loopw [19] (fun i wr => ∃ k : Nat, k ≤ m ∧ i = .int .i64 k ∧ (∀ p ∈ ps.take k, p.n = n) ∧ wr = wB) (fun i _ => m - (intOf i).toNat)
  case atStart => exact ⟨0, Nat.zero_le _, rfl, fun p hp => by simp at hp, rfl⟩
  case round =>
    obtain ⟨k, hk, rfl, hall, rfl⟩ := hrel
    have ALL := bx hall
    clear hall
    by_cases hkm : k < m
    · have hki : (k : Int) < (m : Int) := by omega
      have hk0 : (0 : Int) ≤ (k : Int) := by omega
      have hkl : k < ps.length := by rw [LEN.out]; exact hkm
      obtain ⟨gl, pl, rfl, hgl⟩ := (HLL.out.below BB.out).at_ (by omega)
      have hcl := LL.cell (m := m) hgl hkl
      have MORE := bx (fun he => pts_more hkl ALL.out he)
      have HIN : Bx (ps[k] ∈ ps) := ⟨List.getElem_mem hkl⟩
      clear hgl
      unfold pv at hcl
      generalize ps[k] = p at *
      obtain ⟨A, pn, pc, pds⟩ := p
      simp only at hcl
      by_cases he : pn = n
      · subst he
        have hne : ((pn : Int) != (pn : Int)) = false := by simp
        have MO := bx (MORE.out rfl)
        clear MORE
        go_wp2_with fail
        go_roundw
        case rel => exact ⟨k + 1, by omega, by go_num, MO.out, by first | rfl | trivial⟩
        case measure => simp [intOf]; omega
      · have hne : ((pn : Int) != (n : Int)) = true := by rw [bne_iff_ne]; omega
        have HE := bx he
        clear MORE he
        go_wp2_with fail
        go_ret2
        exact ⟨.inl ⟨⟨_, HIN.out, HE.out⟩, rfl⟩, BB.out⟩
    · obtain rfl : k = m := by omega
      have ALLP : Bx (∀ p ∈ ps, p.n = n) := ⟨by have := ALL.out; rwa [List.take_of_length_le (by rw [LEN.out]; exact Nat.le_refl _)] at this⟩
      clear ALL
      go_wp2_with fail
      go_loopw [31] (fun i wr => ∃ (j : Nat) (o : List Dl), j ≤ k ∧ i = .int .i64 j ∧ mAll ps n j = some o ∧ o.length = n ∧ D64 o ∧ Has wr (w.heap.size + 1) (o.flatMap dc ++ []) ∧ Below w.heap.size w wr) (fun i _ => k - (intOf i).toNat)
      case atStart => exact ⟨0, _, Nat.zero_le _, rfl, rfl, rep_len n, rep_64 n, by rw [List.append_nil]; exact HG.out, BB.out⟩
      case round =>
        obtain ⟨j, o, hj, rfl, hma, hol, ho64, hog, hbel⟩ := hrel
        have MA := bx hma
        have OL := bx hol
        have O64 := bx ho64
        have OG := bx hog
        have BR := bx hbel
        clear hma hol ho64 hog hbel HG BB
        by_cases hjm : j < k
        · have hji : (j : Int) < (k : Int) := by omega
          have hj0 : (0 : Int) ≤ (j : Int) := by omega
          have hjl : j < ps.length := by rw [LEN.out]; exact hjm
          obtain ⟨gl, pl, rfl, hgl⟩ := (HLL.out.below BR.out).at_ (by omega)
          have hcl := LL.cell (m := k) hgl hjl
          have MS := bx (mAll_step MA.out hjl)
          have MI := bx hjl
          have PN := bx (ALLP.out _ (List.getElem_mem hjl))
          have PR := bx (HLL.out.row _ (List.getElem_mem hjl))
          have P64 := bx (HLL.out.d64 _ (List.getElem_mem hjl))
          have HJ := bx hjm
          clear hgl
          unfold pv at hcl
          generalize ps[j] = p at *
          obtain ⟨A, pn, pc, pds⟩ := p
          simp only at hcl
          have PN' := PN.out
          simp only at PN'
          subst PN'
          have PDL := bx PR.out.1
          simp only at MS P64 PR PDL
          clear PN
          go_wp2_with fail
          go_loopw [37] (fun i wr => ∃ (q : Nat) (x : List Dl), q ≤ pn ∧ i = .int .i64 q ∧ mRow pds q o = some x ∧ x.length = pn ∧ D64 x ∧ Has wr (w.heap.size + 1) (x.flatMap dc ++ []) ∧ Below w.heap.size w wr) (fun i _ => pn - (intOf i).toNat)
          case atStart => exact ⟨0, o, Nat.zero_le _, rfl, rfl, OL.out, O64.out, OG.out, BR.out⟩
          case round =>
            obtain ⟨q, x, hq, rfl, hmr, hxl, hx64, hxg, hbel⟩ := hrel
            have MR := bx hmr
            have XL := bx hxl
            have X64 := bx hx64
            have XG := bx hxg
            have BX := bx hbel
            clear hmr hxl hx64 hxg hbel OL O64 OG BR
            by_cases hqn : q < pn
            · have hqi : (q : Int) < (pn : Int) := by omega
              have hq0 : (0 : Int) ≤ (q : Int) := by omega
              have hqx : Bx (q < x.length) := ⟨by rw [XL.out]; exact hqn⟩
              have hqd : Bx (q < pds.length) := ⟨by have := PDL.out; rw [this]; exact hqn⟩
              obtain ⟨gd, pd, hA, hgd⟩ := (PR.out.below BX.out).2 (by show 0 < pn; omega)
              subst hA
              have C1 : Bx (∀ w1, Cls wr.drew.heap.size wr.drew w1 → Has w1 (w.heap.size + 1) (x.flatMap dc ++ [])) := ⟨fun w1 h1 => XG.out.drew.below h1.out XG.out.lt⟩
              have C2 : Bx (∀ w1, Cls wr.drew.heap.size wr.drew w1 → Has w1 gd (pds.flatMap dc ++ pd)) := ⟨fun w1 h1 => hgd.drew.below h1.out hgd.lt⟩
              have AD := bx (addD_any (x.getD q ⟨0, 0⟩) (pds.getD q ⟨0, 0⟩) (X64.out.at hqx.out) (P64.out.at hqd.out))
              have MY := bx (fun he => mRow_yes MR.out he)
              have MN := bx (fun he => mRow_no MR.out he)
              have ADC := addDE_cases (x.getD q ⟨0, 0⟩) (pds.getD q ⟨0, 0⟩)
              have S64 := bx (X64.out.set (addDV_64 (X64.out.at hqx.out) (P64.out.at hqd.out)) q)
              have HQ := bx hqn
              clear hgd hqn
              go_wp2_with fail
              refine wp_region_mix2 15 [(0, 0), (0, 1), (0, 2), (0, 3), (0, 4), (0, 5), (0, 6), (0, 7), (0, 8), (0, 9), (2, 10), (1, 11), (1, 12), (1, 13), (1, 14)] (by kernel_rfl) (by kernel_rfl) ?_
              simp only [MixH, List.getD_cons_zero, List.getD_cons_succ, List.drop_succ_cons, List.drop_zero]
              repeat (first | (with_reducible refine wpQuiet_nil ?_) | (first | go_big_quiet_skip | (go_big_quiet_want; first | (first | ((with_reducible refine quiet_dl _ rfl (w.heap.size + 1) x q ?_ [] C1.out hqx.out ?_); rfl; go_big_quiet_on; (simp only [Act.put, List.setIfInBounds_toArray, List.set_cons_succ, List.set_cons_zero])) | ((with_reducible refine quiet_dl _ rfl gd pds q ?_ pd C2.out hqd.out ?_); rfl; go_big_quiet_on; (simp only [Act.put, List.setIfInBounds_toArray, List.set_cons_succ, List.set_cons_zero]))) | (go_big_quiet_op; first | go_big_quiet_on | ((with_reducible refine ⟨_, fun _ _ => rfl, ?_⟩); go_big_quiet_on)))))
              refine mix_call (AD.out _) Try.func55 rfl rfl _ _ rfl rfl rfl ?_
              rintro e w5 ⟨rfl, hb5⟩
              refine ⟨_, rfl, hb5, ?_⟩
              have ZG := bx (XG.out.drew.below hb5 XG.out.lt)
              have BZ : Bx (Below w.heap.size w w5) := ⟨BX.out.drew.trans (hb5.mono BX.out.size)⟩
              clear hb5 AD C1 C2 XG BX
              generalize addDE (x.getD q ⟨0, 0⟩) (pds.getD q ⟨0, 0⟩) = er at *
              generalize addDV (x.getD q ⟨0, 0⟩) (pds.getD q ⟨0, 0⟩) = dv at *
              simp only [Act.put, List.setIfInBounds_toArray, List.set_cons_succ, List.set_cons_zero]
              repeat (first | (with_reducible refine wpQuiet_nil ?_) | (first | go_big_quiet_skip | (go_big_quiet_want; first | fail | (go_big_quiet_op; first | go_big_quiet_on | ((with_reducible refine ⟨_, fun _ _ => rfl, ?_⟩); go_big_quiet_on)))))
              go_wp2_with ((with_reducible refine wpList_storeQ (f := dc) (k := 2) 94 _ _ rfl ?_ (w.heap.size + 1) x q ?_ dv ?_ [] ZG.out dcs_len hqx.out rfl Try.underlying94 cells_dl2 (dc_one _) ?_); rfl; rfl; rfl; intro w11 hw3 hg3 hz3; have YG := bx hw3; have BY := bx (BZ.out.grown hg3 BZ.out.size (fun k hk => by cases hk; omega)); clear hw3 hg3 hz3)
              refine NoPanic.normal ?_
              rcases ADC with rfl | rfl
              · have MY' := bx (MY.out rfl)
                go_wp2_with fail
                go_roundw
                case rel => exact ⟨q + 1, _, HQ.out, by go_num, MY'.out, by rw [List.length_set, XL.out], S64.out, YG.out, BY.out⟩
                case measure => simp [intOf]; omega
              · have MN' : Bx (mAll ps pn k = none) := ⟨by
                  have h1 := mRow_none (MN.out (by decide)) (pn - (q + 1))
                  rw [show q + 1 + (pn - (q + 1)) = pn by have := HQ.out; omega, ← MS.out] at h1
                  have h2 := mAll_none h1 (k - (j + 1))
                  rwa [show j + 1 + (k - (j + 1)) = k by have := HJ.out; omega] at h2⟩
                go_wp2_with fail
                go_ret2
                exact ⟨.inr (.inl ⟨ALLP.out, MN'.out, rfl⟩), BY.out⟩
            · obtain rfl : q = pn := by omega
              have MA' : Bx (mAll ps q (j + 1) = some x) := ⟨by rw [MS.out]; exact MR.out⟩
              go_wp2_with fail
              go_roundw
              case rel => exact ⟨j + 1, x, HJ.out, by go_num, MA'.out, XL.out, X64.out, XG.out, BX.out⟩
              case measure => simp [intOf]; omega
        · obtain rfl : j = k := by omega
          go_wp2_with fail
          go_ret2
          exact ⟨.inr (.inr ⟨_, _, o, ALLP.out, MA.out, O64.out, rfl, OL.out, fun _ => ⟨w.heap.size + 1, [], rfl, OG.out⟩⟩), BR.out⟩
end Go.Proofs.Ytonkgjengplppaa
