/- WeightsOwn, walked. -/
import Derived.Test.YtonkgjengplppaaKids
namespace Go.Proofs.Ytonkgjengplppaa
open Go.RowKit
theorem sumA_set {l : List Int} {i : Nat} {v : Int} (hi : i < l.length) : ∀ n, sumA (nat0 (l.set i v)) n = sumA (nat0 l) n + if i < n then v - nat0 l i else 0
  | 0 => by simp [sumA]
  | n + 1 => by
    rw [sumA, sumA, sumA_set hi n]
    have e : nat0 (l.set i v) n = if i = n then v else nat0 l n := by
      unfold nat0
      by_cases h : i = n
      · subst h; simp [List.getD, hi]
      · simp [List.getD, List.getElem?_set, h]
    rw [e]
    by_cases h : i = n
    · subst h; rw [if_pos rfl, if_neg (by omega), if_pos (by omega)]; omega
    · rw [if_neg h]
      by_cases h2 : i < n
      · rw [if_pos h2, if_pos (by omega)]; omega
      · rw [if_neg h2, if_neg (by omega)]; omega
theorem sumA_zero (m : Nat) : ∀ n, sumA (nat0 (List.replicate m 0)) n = 0
  | 0 => rfl
  | n + 1 => by
    rw [sumA, sumA_zero m n]
    unfold nat0
    by_cases h : n < m
    · rw [getD_at (by simpa using h)]; simp
    · rw [List.getD, List.getElem?_eq_none (by simpa using h)]; rfl
/-- all direct weights are at most the total -/
theorem dir_total {ns : List Nd} {vs : List Vt} {G bs : List Int} (wf : Wf ns) (hs : SmB bs) : ∀ m, m ≤ bs.length → sumA (nat0 (dirL ns vs G bs m)) ns.length ≤ totV G bs m
  | 0, _ => by rw [dirL_zero, sumA_zero]; exact Int.le_refl _
  | m + 1, hm => by
    have ih := dir_total (vs := vs) (G := G) wf hs m (by omega)
    have hb := hs.at (show m < bs.length by omega)
    unfold totV
    by_cases hg : (m : Int) ∈ G
    · rw [if_pos hg, dir_no (cnt_guilty hg)]; omega
    · rw [if_neg hg]
      cases hh : (vs.getD m zv).1 with
      | false => rw [dir_no (cnt_has hh)]; omega
      | true =>
        cases hx : ix ns ns.length (vs.getD m zv).2.2 with
        | none => rw [dir_none hh hg hx]; omega
        | some i =>
          obtain ⟨hil, _⟩ := ix_some _ (Nat.le_refl _) hx
          rw [dir_yes wf hh hg hx, sumA_set (by rw [dirL_len]; exact hil), if_pos hil]
          unfold nat0 at ih ⊢
          omega
theorem sumA_nonneg {d : Nat → Int} : ∀ n, (∀ j, j < n → 0 ≤ d j) → 0 ≤ sumA d n
  | 0, _ => Int.le_refl _
  | n + 1, h => by have := sumA_nonneg n (fun j hj => h j (by omega)); have := h n (by omega); rw [sumA]; omega
theorem mod_step (a b : Int) : (a % 18446744073709551616 + b) % 18446744073709551616 = (a + b) % 18446744073709551616 := Int.emod_add_emod _ _ _
theorem mod_step2 (a b : Int) : (a % 18446744073709551616 + b % 18446744073709551616) % 18446744073709551616 = (a + b) % 18446744073709551616 := sum_mod
theorem mod_bd (a : Int) : 0 ≤ a % 18446744073709551616 ∧ a % 18446744073709551616 < 18446744073709551616 := by omega
/-- all weights are at most the total: as the law compares them -/
theorem root_le {ns : List Nd} {vs : List Vt} {G bs : List Int} {n : Nat} (wf : Wf ns) (hs : SmB bs) (hm : n ≤ bs.length) (h7 : n ≤ 7) : sumA (nat0 (dirL ns vs G bs n)) ns.length % 18446744073709551616 ≤ totV G bs n := by
  have h1 := dir_total (vs := vs) (G := G) wf hs n hm
  have h2 := sumA_nonneg (d := nat0 (dirL ns vs G bs n)) ns.length (fun j hj => by
    unfold nat0
    rw [getD_at (by rw [dirL_len]; exact hj)]
    exact (dirL_bd hs hm h7 _ (List.getElem_mem _)).1)
  omega
set_option maxRecDepth 20000 in
set_option maxHeartbeats 1000000 in
theorem weightsOwn_walk (a0 : Option Addr) (n0 c0 : Nat) (l0 : List Int) (a1 : Option Addr) (n1 c1 : Nat) (l1 : List Int) (w : World)
    (_ : Fit .i64 l0) (_ : l0.length = n0) (hr0 : Row w w.heap.size 1 a0 n0 (ints .i64 l0)) (hnc0 : n0 ≤ c0) (hcm0 : c0 ≤ maxLen)
    (_ : Fit .i64 l1) (_ : l1.length = n1) (hr1 : Row w w.heap.size 1 a1 n1 (ints .i64 l1)) (hnc1 : n1 ≤ c1) (hcm1 : c1 ≤ maxLen) :
    Calls Try.prog 4 #[.slice a0 n0 c0, .slice a1 n1 c1] w fun e w' => e = .returned (.bool true) ∧ Below w.heap.size w w' := by
  have HB := bx (built_any a0 a1 n0 c0 n1 c1 l0 l1 w hr0 (Nat.le_trans hnc0 hcm0) hr1 (Nat.le_trans hnc1 hcm1))
  clear hr0 hr1 hnc0 hnc1 hcm0 hcm1
  go_enter Try.func4, Try.ntmps4
  go_wp2_with fail
  refine HB.out.mono ?_; rintro e w1 ⟨⟨A, c, ns, AL, cl, vs, AE, ne, ce, G, Ab, cb, bs, n, rfl, hbl⟩, hb⟩
  clear HB
  have EX := bx (two_below w1 (.cells #[.slice A ns.length c] 25) (.cells #[.slice AL n cl, .slice AE ne ce] 28))
  have BL2 := bx (hbl.below EX.out)
  have X2 := bx (Bxs.new w1 A ns.length c AL n cl AE ne ce)
  have B2 := bx (hb.trans (EX.out.mono hb.size))
  have M9 := bx hbl.n9
  have M0 := bx hbl.pos
  have WF := bx hbl.wf
  have RL := bx (root_le (vs := vs) (G := G) hbl.wf hbl.sm.smB (n := n) (by rw [hbl.ur.1]; exact Nat.le_refl _) (by have := hbl.n6; omega))
  have DZ := bx (fun i (hi : i < ns.length) => dirL_at (ns := ns) (vs := vs) (G := G) (bs := bs) (m := n) hi)
  have UD := bx hbl.u64D
  clear hbl hb EX
  go_upto_region 2 with fail
  generalize (w1.alloc (.cells #[.slice A ns.length c] 25)).alloc (.cells #[.slice AL n cl, .slice AE ne ce] 28) = w2 at *
  generalize w1.heap.size = g at *
  go_wp2_with (first | ((with_reducible refine wpList_loadG 25 _ rfl _ [.slice A ns.length c] ?_ ?_ X2.out.t Try.underlying25 rfl ?_ ?_); rfl; rfl; exact cells_tree _) | ((with_reducible refine wpList_loadG 28 _ rfl _ [.slice AL n cl, .slice AE ne ce] ?_ ?_ X2.out.v Try.underlying28 rfl ?_ ?_); rfl; rfl; exact cells_votes _ _))
  refine (BL2.out.direct c cl ce cb).mono ?_; rintro e w3 ⟨A8, c8, rfl, _, hu, hb⟩
  have BL3 := bx (BL2.out.below hb)
  have X3 := bx (X2.out.below hb)
  have D3 := bx hu
  have B3 := bx (B2.out.trans (hb.mono B2.out.size))
  clear hb hu BL2 X2 B2
  generalize dirL ns vs G bs n = ds at *
  have LK := bx WF.out.lk
  have RK := bx (fun i (hi : i < ns.length) => subL_kids LK.out ups_l hi ds)
  have RT := bx (fun (j : Nat) (hj : j < ns.length) => subL_at (us := Go.Proofs.Ytonkgjengplppaa.ups ns) (n := ns.length) (d := ds) hj)
  have R0 : Bx ((subL (Go.Proofs.Ytonkgjengplppaa.ups ns) ns.length ds).getD 0 0 = sumA (nat0 ds) ns.length % 18446744073709551616) := ⟨by
    rw [subL_at M0.out, tot_root LK.out ns.length (by rw [ups_len]; exact Nat.le_refl _)]⟩
  have RLN := bx (subL_len (Go.Proofs.Ytonkgjengplppaa.ups ns) ns.length ds)
  have R64 := bx (subL_64 (Go.Proofs.Ytonkgjengplppaa.ups ns) ns.length ds)
  have M4 : Bx (ns.length ≤ 4096) := ⟨by have := M9.out; omega⟩
  go_wp2_with (first | ((with_reducible refine wpList_loadG 25 _ rfl _ [.slice A ns.length c] ?_ ?_ X3.out.t Try.underlying25 rfl ?_ ?_); rfl; rfl; exact cells_tree _) | ((with_reducible refine wpList_loadG 28 _ rfl _ [.slice AL n cl, .slice AE ne ce] ?_ ?_ X3.out.v Try.underlying28 rfl ?_ ?_); rfl; rfl; exact cells_votes _ _))
  refine (BL3.out.sub c c8 UD.out D3.out).mono ?_; rintro e w4 ⟨A9, c9, rfl, _, hu, hb⟩
  have BL4 := bx (BL3.out.below hb)
  have X4 := bx (X3.out.below hb)
  have D4 := bx (D3.out.below hb)
  have E4 := bx hu
  have B4 := bx (B3.out.trans (hb.mono B3.out.size))
  clear hb hu BL3 X3 B3 D3
  have KD := bx (fun (i : Nat) (hi : i < ns.length) w' (hb : Below w4.heap.size w4 w') => children_any A ns.length c M4.out i hi w' (BL4.out.below hb).nr)
  generalize hus : Go.Proofs.Ytonkgjengplppaa.ups ns = us at *
  generalize subL us ns.length ds = R at *
  have hc4 : w4.cell? ⟨g, 0, none⟩ = some (.slice A ns.length c) := X4.out.t.cell 0
  have DL := bx D4.out.1
  go_wp2_with fail
  have hn9 := M9.out
  go_loopw [10, 11] (fun s i wr => ∃ k : Nat, k ≤ ns.length ∧ i = .int .i64 k ∧ s = .int .u64 (sumA (nat0 ds) k % 18446744073709551616) ∧ Below w4.heap.size w4 wr) (fun _ i _ => ns.length - (intOf i).toNat)
  case atStart => exact ⟨0, Nat.zero_le _, rfl, rfl, Below.refl _ _⟩
  case round =>
    obtain ⟨k, hk, rfl, rfl, hbel⟩ := hrel
    have BR := bx hbel
    clear hbel
    have XR := bx (X4.out.below BR.out)
    have hcr : wr.cell? ⟨g, 0, none⟩ = some (.slice A ns.length c) := XR.out.t.cell 0
    by_cases hkn : k < ns.length
    · have hki : (k : Int) < (ns.length : Int) := by omega
      have hk0 : (0 : Int) ≤ (k : Int) := by omega
      have HKN := bx hkn
      obtain ⟨g8, p8, hA8, hg8⟩ := (D4.out.below BR.out).2 M0.out
      have hcd := URow.cell hg8 (k := k) (by rw [DL.out]; exact hkn)
      have hcd1 := fun w' (hb : Below wr.heap.size wr w') => URow.cell (hg8.below hb hg8.lt) (k := k) (by rw [DL.out]; exact hkn)
      have hxd := UD.out.at (k := k) (by rw [DL.out]; exact hkn)
      have DZK := bx (DZ.out k hkn)
      have RKK := bx (RK.out k hkn)
      have SN : Bx ((sumA (nat0 ds) k % 18446744073709551616 + ds.getD k 0) % 18446744073709551616 = sumA (nat0 ds) (k + 1) % 18446744073709551616) := ⟨mod_step _ _⟩
      have hsb := mod_bd (sumA (nat0 ds) k)
      have HKL := bx (kidN_lt (us := us) (i := k) (k := ns.length))
      have KLN := kidN_len us k ns.length
      have RTT := bx RT.out
      generalize sumA (nat0 ds) k % 18446744073709551616 = S at *
      generalize hdk : ds.getD k 0 = dk at *
      subst hA8
      go_wp2_with (first | ((with_reducible refine wpList_loadG 25 _ rfl _ [.slice A ns.length c] ?_ ?_ XR.out.t Try.underlying25 rfl ?_ ?_); rfl; rfl; exact cells_tree _))
      refine (KD.out k hkn _ BR.out).mono ?_; rintro e w5 ⟨A5, c5, rfl, ho, hb⟩
      have hcd5 := hcd1 _ hb
      have X5 := bx (XR.out.below hb)
      have F5 := bx (BR.out.trans (hb.mono BR.out.size))
      have K5 := bx ho
      clear hb ho XR BR hcd1 hg8 hcr hcd
      generalize kidN us k ns.length = L at *
      go_wp2_with fail
      go_loop [12, 14] (fun s j => ∃ q : Nat, q ≤ L.length ∧ j = .int .i64 q ∧ s = .int .u64 ((dk + sumL (fun j => tot us (nat0 ds) j ns.length) (L.take q)) % 18446744073709551616)) (fun _ j => L.length - (intOf j).toNat)
      case atStart => exact ⟨0, Nat.zero_le _, rfl, by rw [List.take_zero]; show _ = Value.int .u64 ((dk + 0) % 18446744073709551616); rw [Int.add_zero, Int.emod_eq_of_lt hxd.1 hxd.2]⟩
      case round =>
        obtain ⟨q, hq, rfl, rfl⟩ := hrel
        by_cases hql : q < L.length
        · obtain ⟨g12, c12', p12, hv, _, hh⟩ := own_block K5.out (by omega)
          injection hv with hv1 hv2 hv3
          subst hv1; subst hv3
          have hjn := HKL.out L[q] (List.getElem_mem hql)
          have hnk : (nats L)[q]? = some ((L[q] : Nat) : Int) := by simp [nats, List.getElem?_map, List.getElem?_eq_getElem hql]
          have hcx : w5.cell? ⟨g12, q, none⟩ = some (.int .i64 ((L[q] : Nat) : Int)) := by
            rw [hh.cell, List.getElem?_append_left (by rw [ints_len, nats_len]; exact hql), ints, List.getElem?_map, hnk]; rfl
          obtain ⟨g9, p9, rfl, hg9⟩ := (E4.out.below F5.out).2 M0.out
          have hcu := URow.cell hg9 (k := L[q]) (by rw [RLN.out]; exact hjn)
          rw [RTT.out _ hjn] at hcu
          have hx := mod_bd (tot us (nat0 ds) L[q] ns.length)
          have hS := mod_bd (dk + sumL (fun j => tot us (nat0 ds) j ns.length) (L.take q))
          have SN2 : Bx (((dk + sumL (fun j => tot us (nat0 ds) j ns.length) (L.take q)) % 18446744073709551616 + tot us (nat0 ds) L[q] ns.length % 18446744073709551616) % 18446744073709551616 = (dk + sumL (fun j => tot us (nat0 ds) j ns.length) (L.take (q + 1))) % 18446744073709551616) := ⟨by
            rw [mod_step2, sumL_take hql, List.getD, List.getElem?_eq_getElem hql, Int.add_assoc]; rfl⟩
          have hj0 : (0 : Int) ≤ ((L[q] : Nat) : Int) := by omega
          have hjni : ((L[q] : Nat) : Int) < (ns.length : Int) := by omega
          have hqi : (q : Int) < (L.length : Int) := by omega
          have hq0 : (0 : Int) ≤ (q : Int) := by omega
          have HQL := bx hql
          clear hg9 hh hnk hv2
          generalize (dk + sumL (fun j => tot us (nat0 ds) j ns.length) (L.take q)) % 18446744073709551616 = y1 at *
          generalize tot us (nat0 ds) L[q] ns.length % 18446744073709551616 = x at *
          generalize L[q] = j at *
          go_wp2_with fail
          go_round
          case rel => exact ⟨q + 1, HQL.out, by go_num, by rw [← SN2.out]; rfl⟩
          case measure => simp [intOf]; omega
        · have hkk : q = L.length := by omega
          subst hkk
          rw [List.take_of_length_le (Nat.le_refl _), ← RKK.out]
          obtain ⟨g9, p9, hA9, hg9⟩ := (E4.out.below F5.out).2 M0.out
          have hcu := URow.cell hg9 (k := k) (by rw [RLN.out]; exact HKN.out)
          have hxR := R64.out.at (k := k) (by rw [RLN.out]; exact HKN.out)
          have N5 := bx (BL4.out.below F5.out).nr
          obtain ⟨g0, p0, hA0, hg0⟩ := N5.out.2.2 M0.out
          have hcs := hg0.nodeCell N5.out.2.1 k HKN.out 239 _ (nc_st (N5.out.2.1 _ (List.getElem_mem HKN.out)))
          have hct : w5.cell? ⟨g, 0, none⟩ = some (.slice A ns.length c) := X5.out.t.cell 0
          have ST := bx (BL4.out.wf.st _ (List.getElem_mem HKN.out))
          subst hA9; subst hA0
          clear RKK hg9 hg0 N5
          generalize R.getD k 0 = v at *
          by_cases hst : ns[k].st = 2
          · rw [hst] at hcs
            have DZ2 := DZK.out
            rw [if_pos hst] at DZ2
            subst DZ2
            clear hst DZK
            go_wp2_with fail
            go_roundw
            case rel => exact ⟨k + 1, HKN.out, by go_num, by rw [← SN.out]; rfl, F5.out⟩
            case measure => simp [intOf]; have := HKN.out; omega
          · have hstf : (ns[k].st == 2) = false := by rw [beq_eq_false_iff_ne]; exact hst
            clear hst DZK
            generalize ns[k].st = st at *
            go_wp2_with fail
            go_roundw
            case rel => exact ⟨k + 1, HKN.out, by go_num, by rw [← SN.out]; rfl, F5.out⟩
            case measure => simp [intOf]; have := HKN.out; omega
    · obtain rfl : k = ns.length := by omega
      obtain ⟨g9, p9, hA9, hg9⟩ := (E4.out.below BR.out).2 M0.out
      have hcu := URow.cell hg9 (k := 0) (by rw [RLN.out]; exact M0.out)
      rw [R0.out] at hcu
      have hn0 : (0 : Int) < (ns.length : Int) := by have := M0.out; omega
      have BLR := bx (BL4.out.below BR.out)
      have RLL := RL.out
      have B5 := bx (B4.out.trans (BR.out.mono B4.out.size))
      subst hA9
      clear hg9
      generalize sumA (nat0 ds) ns.length % 18446744073709551616 = S at *
      go_wp2_with (first | ((with_reducible refine wpList_loadG 28 _ rfl _ [.slice AL n cl, .slice AE ne ce] ?_ ?_ XR.out.v Try.underlying28 rfl ?_ ?_); rfl; rfl; exact cells_votes _ _))
      refine (BLR.out.total cl ce cb).mono ?_; rintro e w6 ⟨rfl, hb⟩
      have B6 := bx (B5.out.trans (hb.mono B5.out.size))
      clear hb
      generalize totV G bs n = T at *
      go_wp2_with fail
      refine (awake13_any _).mono ?_; rintro e w7 ⟨rfl, hb⟩
      have B7 := bx (B6.out.trans (hb.mono B6.out.size))
      clear hb
      go_wp2_with fail
      go_ret
      exact ⟨rfl, B7.out⟩
end Go.Proofs.Ytonkgjengplppaa
