/- Numbers of 256 bits: the program's decimal notation, walked. -/
import Derived.Test.YtpgpplpddjjchaaDoorWideFo
namespace Go.Proofs.YtpgpplpddjjchaaDoor
open Go.RowKit
set_option maxRecDepth 20000 in
set_option maxHeartbeats 1000000 in
theorem format_any (n : Nat) (hn : n < 2 ^ 256) (w : World) :
    Calls Tryd.prog 29 #[.agg (ints .u64 (wl n)).toArray] w fun e w' => e = .returned (.string (strOfNums (txl n))) ∧ Below w.heap.size w w' := by
  obtain ⟨i0, hi0, hz0, hz1, hz2⟩ := info_parts info_u8
  have HI := bx hi0
  clear hi0
  have hz := wz_lit
  have HN := bx hn
  clear hn
  obtain ⟨wA, hwA⟩ : ∃ wA, wA = w.alloc (.cells (ints .u64 (wl n)).toArray 24) := ⟨_, rfl⟩
  have X0 : Bx (Has wA w.heap.size (ints .u64 (wl n))) := ⟨by rw [hwA]; exact Has.new w _ _⟩
  have BA : Bx (Below w.heap.size w wA) := ⟨by rw [hwA]; exact (Below.refl w.heap.size w).alloc (Nat.le_refl _) _⟩
  have HWA := bx hwA
  clear hwA
  go_enter Tryd.func29, Tryd.ntmps29
  go_wp2_with fail
  rw [← HWA.out]
  go_loopw [3] (fun s wr => ∃ j : Nat, j ≤ 4 ∧ (∃ A c, s = .slice A (19 * j) c) ∧ wr.ownsRow (w.heap.size + 1) 5 1 s (19 * j) (ints .u8 (lows n (19 * j))) ∧ Has wr w.heap.size (ints .u64 (wl (n / 10 ^ (19 * j)))) ∧ Below w.heap.size w wr) (fun s _ => 95 - lenS s)
  case atStart => exact ⟨0, Nat.zero_le _, ⟨none, 0, rfl⟩, World.ownsRow_nil _ _ _ _, by rw [Nat.mul_zero, Nat.pow_zero, Nat.div_one]; exact X0.out, BA.out⟩
  case round =>
    obtain ⟨j, hj, ⟨A, c, rfl⟩, ho, hx0, hbel⟩ := hrel
    have Y0 := bx hx0
    have OW := bx ho
    have BY := bx hbel
    clear hx0 ho hbel X0 BA HWA
    have HM : Bx (n / 10 ^ (19 * j) < 2 ^ 256) := ⟨Nat.lt_of_le_of_lt (Nat.div_le_self _ _) HN.out⟩
    have DG := bx (fun k => dg_chunk n j k)
    have NX := bx (next_chunk n j)
    generalize n / 10 ^ (19 * j) = m at *
    go_wp2_with ((with_reducible refine wpList_loadG 24 _ rfl _ (ints .u64 (wl m)) ?_ ?_ Y0.out Tryd.underlying24 rfl ?_ ?_); rfl; rfl; exact cells_wide _)
    refine (chunk_any m HM.out _).mono ?_; rintro e w5 ⟨rfl, hb5⟩
    have HQ : Bx (m / 10000000000000000000 < 2 ^ 256) := ⟨Nat.lt_of_le_of_lt (Nat.div_le_self _ _) HM.out⟩
    have hr : m % 10000000000000000000 < 10000000000000000000 := Nat.mod_lt _ (by decide)
    generalize m / 10000000000000000000 = q at *
    generalize m % 10000000000000000000 = r at *
    have V0 := bx (Y0.out.below hb5 Y0.out.lt)
    have OW5 := bx (own_ext OW.out hb5)
    have B5 := bx (BY.out.trans (hb5.mono BY.out.size))
    have L0 := bx V0.out.lt
    clear hb5
    have Z0 := bx (V0.out.alloc (.cells (ints .u64 (wl 0)).toArray 24))
    have OZ := bx (OW5.out.alloc (.cells (ints .u64 (wl 0)).toArray 24))
    have Z6 := bx (Has.new w5 (ints .u64 (wl 0)) 24)
    have BZ := bx (B5.out.alloc B5.out.size (.cells (ints .u64 (wl 0)).toArray 24))
    go_wp2_with (first | ((with_reducible refine wpList_storeB rfl 24 _ _ rfl _ (ints .u64 (wl q)) _ ?_ ?_ Z6.out (wl_len2 _ _) Tryd.underlying24 ?_ (wl_one _) ?_); rfl; rfl; exact cells_wide _; intro w6 hw hg hz0; have V6 := bx hw; have V1 := bx (Z0.out.grown hg (fun e => by injection e with e; have := L0.out; omega)); have O6 := bx (OZ.out.kept hg (by rcases Option.eq_none_or_eq_some (Value.ownBlock (.slice A (19 * j) c)) with h | ⟨b, h⟩; exact .inl h; exact .inr (by rw [h]; intro e; injection e with e; have := (OW5.out.lt b h).2; omega))); have B6 := bx (BZ.out.grown hg BZ.out.size (fun k hk => by cases hk; have := B5.out.size; omega)); clear hw hg hz0) | ((with_reducible refine wpList_loadG 24 _ rfl _ (ints .u64 (wl q)) ?_ ?_ V6.out Tryd.underlying24 rfl ?_ ?_); rfl; rfl; exact cells_wide _) | ((with_reducible refine wpList_storeB rfl 24 _ _ rfl _ (ints .u64 (wl q)) _ ?_ ?_ V1.out (wl_len2 _ _) Tryd.underlying24 ?_ (wl_one _) ?_); rfl; rfl; exact cells_wide _; intro w7 hw hg hz0; have V7 := bx hw; have O7 := bx (O6.out.kept hg (by rcases Option.eq_none_or_eq_some (Value.ownBlock (.slice A (19 * j) c)) with h | ⟨b, h⟩; exact .inl h; exact .inr (by rw [h]; intro e; injection e with e; have := (OW5.out.lt b h).1; omega))); have B7 := bx (B6.out.grown hg B6.out.size (fun k hk => by cases hk; omega)); clear hw hg hz0))
    go_loopw [3, 5, 17] (fun s x i wx => ∃ k : Nat, k ≤ 19 ∧ i = .int .i64 k ∧ x = .int .u64 ((r / 10 ^ k : Nat) : Int) ∧ (∃ A c, s = .slice A (19 * j + k) c) ∧ wx.ownsRow (w.heap.size + 1) 5 1 s (19 * j + k) (ints .u8 (lows n (19 * j + k))) ∧ Has wx w.heap.size (ints .u64 (wl q)) ∧ Below w.heap.size w wx) (fun _ _ i _ => 19 - (intOf i).toNat)
    case atStart => exact ⟨0, Nat.zero_le _, rfl, by rw [Nat.pow_zero, Nat.div_one], ⟨A, c, rfl⟩, O7.out, V7.out, B7.out⟩
    case round =>
      obtain ⟨k, hk, rfl, rfl, ⟨A2, c2, rfl⟩, ho2, hx2, hbel2⟩ := hrel
      have Y2 := bx hx2
      have OW2 := bx ho2
      have BY2 := bx hbel2
      clear hx2 ho2 hbel2 V7 O7 B7 V6 V1 O6 B6 OZ BZ Z0 Z6 OW5 V0 B5 L0 Y0 OW BY
      by_cases hk19 : k < 19
      · have HD := bx (DG.out k hk19)
        have HSTEP : Bx (ints .u8 (lows n (19 * j + (k + 1))) = ints .u8 (lows n (19 * j + k)) ++ [.int .u8 (48 + ((r / 10 ^ k : Nat) : Int) % 10)]) := ⟨by
          have e : 19 * j + (k + 1) = 19 * j + k + 1 := by omega
          rw [e, lows_succ, ← HD.out]; simp [ints]⟩
        have HX : Bx (r / 10 ^ (k + 1) = r / 10 ^ k / 10) := ⟨by rw [Nat.pow_succ, Nat.div_div_eq_div_mul]⟩
        have hx64 : r / 10 ^ k < 18446744073709551616 := Nat.lt_of_le_of_lt (Nat.div_le_self _ _) (by omega)
        have HM1 : Bx (19 * j + k + 1 ≤ maxLen) := ⟨by unfold maxLen; omega⟩
        have HM2 : Bx ((19 * j + k + 1) * 1 ≤ 140737488355328) := ⟨by omega⟩
        have HSZ : Bx (w.heap.size + 1 ≤ wr.heap.size) := ⟨Y2.out.lt⟩
        have C1 : Bx (∀ x : Int, ∀ u ∈ [Value.int .u8 x], u.oneCell' = true) := ⟨by intro x u hu; simp at hu; subst hu; rfl⟩
        generalize r / 10 ^ k = x at *
        clear DG HD
        go_wp2_with (at_builtin; (with_reducible refine wpList_push rfl (.tmp 19) (.tmp 24) 59 rfl (w.heap.size + 1) 5 i0 _ 1 1 Tryd.underlying59 HI.out hz0 hz1 hz2 rfl (by omega) _ _ _ ?_ OW2.out [.int .u8 (48 + (x : Int) % 10)] ?_ rfl (C1.out _) HM1.out HM2.out HSZ.out ?_); rfl; rfl; intro v' w' hown' hg' hbel' _; rw [← HSTEP.out] at hown'; have OW3 := bx hown'; have BY3 := bx (BY2.out.trans (hbel'.mono (Nat.le_succ _))); have Y3 := bx (Y2.out.below hbel' (Nat.lt_succ_self _)); clear hown' hg' hbel')
        obtain ⟨A3, c3, hv3⟩ := own_slice OW3.out
        subst hv3
        go_roundw
        case rel => exact ⟨k + 1, by omega, by go_num, by rw [HX.out]; go_num, ⟨A3, c3, rfl⟩, OW3.out, Y3.out, BY3.out⟩
        case measure => simp [intOf]; omega
      · obtain rfl : k = 19 := by omega
        have hqs : ∀ w' : World, (Op.equalIn 10000 24 (.agg (ints .u64 (wl q)).toArray) (.agg (ints .u64 (wl 0)).toArray)).run Tryd.prog w' = .ok (decide (q = 0)) w' := fun w' => by rw [wide_same, wl_eq HQ.out (Nat.two_pow_pos 256)]
        by_cases hq0 : q = 0
        · have hnM : Bx (n < 10 ^ (19 * j + 19)) := ⟨by
            have h := NX.out
            rw [hq0] at h
            clear hqs
            rcases Nat.div_eq_zero_iff.1 h.symm with h1 | h1
            · have := Nat.pow_pos (n := 19 * (j + 1)) (show 0 < 10 by decide); omega
            · exact h1⟩
          rw [decide_eq_true hq0] at hqs
          subst hq0
          obtain ⟨g, c3, post, hv, hgb, hg3⟩ := own_block OW2.out (by omega)
          injection hv with hv1 hv2 hv3
          subst hv1; subst hv3
          have G0 := bx hg3
          have GB := bx hgb
          have ML : Bx ((lows n (19 * j + 19)).length = 19 * j + 19) := ⟨lows_len _ _⟩
          have hM0 : 19 ≤ 19 * j + 19 ∧ 19 * j + 19 ≤ 95 := by omega
          clear hg3 hv2 hgb OW2 DG NX HQ
          generalize 19 * j + 19 = M at *
          have HLW := bx (trim_lows n M hnM.out)
          have LB : Bx (∀ x ∈ lows n M, 48 ≤ x ∧ x ≤ 57) := ⟨fun x hx => lows_bd hx⟩
          go_wp2_with ((with_reducible refine wpList_loadG 24 _ rfl _ (ints .u64 (wl 0)) ?_ ?_ Y2.out Tryd.underlying24 rfl ?_ ?_); rfl; rfl; exact cells_wide _)
          generalize hLL : lows n M = L at *
          have EL := bx hLL
          clear hLL
          go_loopw [7, 8] (fun a b wx => ∃ t u : Nat, t + u + 1 = M ∧ t ≤ u + 1 ∧ a = .int .i64 (t : Int) ∧ b = .int .i64 (u : Int) ∧ Has wx g (ints .u8 (swp L t) ++ post) ∧ Below w.heap.size w wx) (fun _ b _ => (intOf b).toNat)
          case atStart => exact ⟨0, M - 1, by omega, by omega, rfl, by go_num, by rw [swp_zero]; exact G0.out, BY2.out⟩
          case round =>
            obtain ⟨t, u, hM, htu, rfl, rfl, hg4, hbel4⟩ := hrel
            have G4 := bx hg4
            have BY4 := bx hbel4
            clear hg4 hbel4 G0 BY2 Y2
            by_cases hlt : t < u
            · have hct : wr.cell? ⟨g, t, none⟩ = some (.int .u8 (L.getD t 0)) := by
                rw [G4.out.cell, List.getElem?_append_left (by simp [ints, swp_len, ML.out]; omega), ints, List.getElem?_map, swp_at L t t (by rw [ML.out]; omega), if_neg (by rw [ML.out]; omega)]; rfl
              have hcu : wr.cell? ⟨g, u, none⟩ = some (.int .u8 (L.getD u 0)) := by
                rw [G4.out.cell, List.getElem?_append_left (by simp [ints, swp_len, ML.out]; omega), ints, List.getElem?_map, swp_at L t u (by rw [ML.out]; omega), if_neg (by rw [ML.out]; omega)]; rfl
              have hft : wr.frozen? ⟨g, t, none⟩ = false := G4.out.frozen t
              have hfu : wr.frozen? ⟨g, u, none⟩ = false := G4.out.frozen u
              have HSW := bx (swp_step L t u (by rw [ML.out]; exact hM) hlt)
              generalize L.getD t 0 = xt at *
              generalize L.getD u 0 = xu at *
              go_wp2_with fail
              go_region
              have G5 : Bx (Has ((wr.setCell ⟨g, t, none⟩ (.int .u8 xu)).setCell ⟨g, u, none⟩ (.int .u8 xt)).drew g (ints .u8 (swp L (t + 1)) ++ post)) := ⟨by
                have h := (G4.out.set t (.int .u8 xu)).set u (.int .u8 xt)
                have hl : (ints .u8 (swp L t)).length = M := by simp [ints, swp_len, ML.out]
                rw [List.set_append_left _ _ (by rw [hl]; omega), List.set_append_left _ _ (by rw [List.length_set, hl]; omega)] at h
                have e : ((ints .u8 (swp L t)).set t (.int .u8 xu)).set u (.int .u8 xt) = ints .u8 (swp L (t + 1)) := by
                  rw [← HSW.out]; simp [ints, List.map_set]
                rw [e] at h
                exact h⟩
              have B5 : Bx (Below w.heap.size w ((wr.setCell ⟨g, t, none⟩ (.int .u8 xu)).setCell ⟨g, u, none⟩ (.int .u8 xt)).drew) := ⟨by
                have hg0 := GB.out
                have h1 := BY4.out.grown (grown_setCell wr g t (.int .u8 xu)) BY4.out.size (fun k hk => by cases hk; omega)
                exact (h1.grown (grown_setCell _ g u (.int .u8 xt)) h1.size (fun k hk => by cases hk; omega)).drew⟩
              generalize ((wr.setCell ⟨g, t, none⟩ (.int .u8 xu)).setCell ⟨g, u, none⟩ (.int .u8 xt)).drew = w9 at *
              go_wp2
              go_roundw
              case rel => exact ⟨t + 1, u - 1, by omega, by omega, by go_num, by go_num, G5.out, B5.out⟩
              case measure => simp [intOf]; omega
            · have HSE := bx (swp_end L t u (by rw [ML.out]; exact hM) (by omega) htu)
              have hconv := run_convert_bytes_arg (P := Tryd.prog) wr 59 5 Tryd.underlying59 Tryd.underlying5 g 0 M c2 L.reverse (by rw [List.length_reverse, ML.out]) (fun i hi => by
                rw [G4.out.cell, Nat.zero_add, HSE.out, List.getElem?_append_left (by simp [ints, ML.out]; omega), ints, List.getElem?_map, getD_at _ i (by rw [List.length_reverse, ML.out]; exact hi)]; rfl) 9 Tryd.underlying9
              have HTL := bx (Tryd.strings_TrimLeft_one (strOfNums L.reverse) 48 (by decide) wr)
              have HTE : Bx (Lib.trimLeftB (strOfNums L.reverse).data.toList 48 = if n = 0 then [] else (txl n).map chr) := ⟨HLW.out⟩
              rw [HTE.out] at HTL
              by_cases hn0 : n = 0
              · rw [if_pos hn0] at HTL
                go_wp2_with (refine HTL.out.mono ?_; rintro e w9 ⟨rfl, rfl⟩)
                go_ret
                exact ⟨by rw [hn0, txl_zero]; rfl, BY4.out⟩
              · rw [if_neg hn0] at HTL
                have hE : Bx ((⟨((txl n).map chr).toArray⟩ : ByteArray) = strOfNums (txl n)) := ⟨rfl⟩
                have hne : (⟨((txl n).map chr).toArray⟩ : ByteArray).toList.isEmpty = false := by
                  have h2 := txl_len n
                  have h3 := (nd_spec n).1
                  rw [ByteArray.toList_mk, List.isEmpty_eq_false_iff]
                  intro h
                  rw [List.map_eq_nil_iff] at h
                  rw [h] at h2
                  exact absurd h2 (by show (0 : Nat) ≠ _; omega)
                generalize (⟨((txl n).map chr).toArray⟩ : ByteArray) = st at *
                go_wp2_with (refine HTL.out.mono ?_; rintro e w9 ⟨rfl, rfl⟩)
                go_ret
                exact ⟨by rw [← hE.out]; rfl, BY4.out⟩
        · rw [decide_eq_false hq0] at hqs
          have hj4 : j + 1 ≤ 4 := by
            rcases Nat.lt_or_ge j 4 with h | h
            · omega
            · obtain rfl : j = 4 := by omega
              have h1 := NX.out
              rw [Nat.div_eq_of_lt (Nat.lt_trans HN.out (by decide))] at h1
              exact absurd h1 hq0
          have e19 : 19 * (j + 1) = 19 * j + 19 := by omega
          go_wp2_with ((with_reducible refine wpList_loadG 24 _ rfl _ (ints .u64 (wl q)) ?_ ?_ Y2.out Tryd.underlying24 rfl ?_ ?_); rfl; rfl; exact cells_wide _)
          go_roundw
          case rel => exact ⟨j + 1, hj4, ⟨A2, c2, by rw [e19]⟩, by rw [e19]; exact OW2.out, by rw [← NX.out]; exact Y2.out, BY2.out⟩
          case measure => simp [lenS]; omega
end Go.Proofs.YtpgpplpddjjchaaDoor
