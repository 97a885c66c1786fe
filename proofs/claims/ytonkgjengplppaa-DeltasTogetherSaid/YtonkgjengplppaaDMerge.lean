/- DeltasMerges, walked. -/
import Derived.Test.YtonkgjengplppaaDAppl
import Derived.Test.YtonkgjengplppaaMergeR
namespace Go.Proofs.Ytonkgjengplppaa
open Go.RowKit
theorem MP.bad {ps : List Pt} {n m : Nat} {w w' : World} {e : Ending} (h : MP ps n m w e w') (hb : ∃ p ∈ ps, p.n ≠ n) : e = .returned (.tuple #[.slice none 0 0, .int .i64 2]) ∧ Below w.heap.size w w' := by
  obtain ⟨h, hw⟩ := h
  rcases h with ⟨_, h⟩ | ⟨h, _⟩ | ⟨_, _, _, h, _⟩
  · exact ⟨h, hw⟩
  · obtain ⟨p, hp, hne⟩ := hb; exact absurd (h p hp) hne
  · obtain ⟨p, hp, hne⟩ := hb; exact absurd (h p hp) hne
theorem MP.none {ps : List Pt} {n m : Nat} {w w' : World} {e : Ending} (h : MP ps n m w e w') (hb : ∀ p ∈ ps, p.n = n) (hn : mAll ps n m = none) : e = .returned (.tuple #[.slice none 0 0, .int .i64 4]) ∧ Below w.heap.size w w' := by
  obtain ⟨h, hw⟩ := h
  rcases h with ⟨⟨p, hp, hne⟩, _⟩ | ⟨_, _, h⟩ | ⟨_, _, _, _, h, _⟩
  · exact absurd (hb p hp) hne
  · exact ⟨h, hw⟩
  · rw [hn] at h; cases h
theorem MP.some {ps : List Pt} {n m : Nat} {w w' : World} {e : Ending} {o : List Dl} (h : MP ps n m w e w') (hb : ∀ p ∈ ps, p.n = n) (hn : mAll ps n m = some o) :
    ∃ A c, e = .returned (.tuple #[.slice A n c, .int .i64 0]) ∧ D64 o ∧ DRow w' A n o ∧ Below w.heap.size w w' := by
  obtain ⟨h, hw⟩ := h
  rcases h with ⟨⟨p, hp, hne⟩, _⟩ | ⟨_, h, _⟩ | ⟨A, c, o', _, h, h64, he, hr⟩
  · exact absurd (hb p hp) hne
  · rw [hn] at h; cases h
  · rw [hn] at h; cases h; exact ⟨A, c, he, h64, hr, hw⟩
theorem drow_nil (w : World) : DRow w none 0 [] := ⟨rfl, fun h => absurd h (Nat.lt_irrefl 0)⟩
theorem sameD_nil (c c' : Nat) (w : World) : Calls Try.prog 29 #[.slice none 0 c, .slice none 0 c'] w fun e w' => e = .returned (.bool true) ∧ Below w.heap.size w w' :=
  (sameDeltas_any none none 0 0 c c' [] [] w (drow_nil w) (drow_nil w) (by omega) (by omega)).mono fun _ _ h => h
theorem ll_pair {w : World} {g : Nat} {p q : Pt} (hg : Has w g [pv p, pv q]) (hp : DRow w p.A p.n p.ds) (hq : DRow w q.A q.n q.ds) (h1 : D64 p.ds) (h2 : D64 q.ds) : LL w (some ⟨g, 0, none⟩) 2 [p, q] where
  len := rfl
  at_ := fun _ => ⟨g, [], rfl, by simpa using hg⟩
  row := fun x hx => by
    simp only [List.mem_cons, List.not_mem_nil, or_false] at hx
    rcases hx with rfl | rfl
    · exact hp
    · exact hq
  d64 := fun x hx => by
    simp only [List.mem_cons, List.not_mem_nil, or_false] at hx
    rcases hx with rfl | rfl
    · exact h1
    · exact h2
set_option maxRecDepth 20000 in
set_option maxHeartbeats 1000000 in
theorem deltasMerges_walk (a0 : Option Addr) (n0 c0 : Nat) (l0 : List Int) (a1 : Option Addr) (n1 c1 : Nat) (l1 : List Int) (a2 : Option Addr) (n2 c2 : Nat) (l2 : List Int) (ex : Int) (w : World)
    (_ : Fit .i64 l0) (_ : l0.length = n0) (hr0 : Row w w.heap.size 1 a0 n0 (ints .i64 l0)) (hnc0 : n0 ≤ c0) (hcm0 : c0 ≤ maxLen)
    (_ : Fit .i64 l1) (_ : l1.length = n1) (hr1 : Row w w.heap.size 1 a1 n1 (ints .i64 l1)) (hnc1 : n1 ≤ c1) (hcm1 : c1 ≤ maxLen)
    (_ : Fit .i64 l2) (_ : l2.length = n2) (hr2 : Row w w.heap.size 1 a2 n2 (ints .i64 l2)) (hnc2 : n2 ≤ c2) (hcm2 : c2 ≤ maxLen) (_ : (Lit.int .i64 ex).wf = true) :
    Calls Try.prog 10 #[.slice a0 n0 c0, .slice a1 n1 c1, .slice a2 n2 c2, .int .i64 ex] w fun e w' => e = .returned (.bool true) ∧ Below w.heap.size w w' := by
  have HT := bx (tree_any a0 n0 c0 l0 w hr0 (Nat.le_trans hnc0 hcm0))
  have HL1 := bx (fun (n : Nat) (hn : n ≤ 4096) w' (hb : Below w.heap.size w w') => list_any true w.heap.size a1 n1 c1 l1 n hn w' (hr1.below hb) (Nat.le_trans hnc1 hcm1) hb.size)
  have HL2 := bx (fun (n : Nat) (hn : n ≤ 4096) w' (hb : Below w.heap.size w w') => list_any true w.heap.size a2 n2 c2 l2 n hn w' (hr2.below hb) (Nat.le_trans hnc2 hcm2) hb.size)
  clear hr0 hr1 hr2 hnc0 hnc1 hnc2 hcm0 hcm1 hcm2
  have hand := and_15 ex
  obtain ⟨q, hq, hq1⟩ : ∃ q : Nat, ex % 16 / 15 = (q : Int) ∧ q ≤ 1 := ⟨(ex % 16 / 15).toNat, by omega, by omega⟩
  have hex0 : 0 ≤ ex % 16 := by omega
  have hex1 : ex % 16 ≤ 15 := by omega
  have HQ := bx hq1
  obtain ⟨i0, hi0, hz0, hz1, hz2⟩ := info_parts info_dl
  go_enter Try.func10, Try.ntmps10
  go_wp2_with fail
  refine HT.out.mono ?_; rintro e w1 ⟨⟨A, c, ns, h0, h9, wf, rfl, hnr⟩, hb⟩
  have B1 := bx hb
  have HN0 := bx h0
  have HN9 := bx h9
  clear hb hnr wf h0 h9
  go_wp2_with fail
  generalize hW : World.alloc w1 _ = w2
  have EX : Bx (Below w1.heap.size w1 w2.drew) := ⟨by rw [← hW]; exact (ext_alloc w1 _).drew⟩
  have X2 : Bx (Has w2.drew w1.heap.size [.slice A ns.length c]) := ⟨by rw [← hW]; exact Has.new w1 _ _⟩
  have B2 := bx (B1.out.trans (EX.out.mono B1.out.size))
  clear hW EX B1
  generalize ns.length = n at *
  have CN := bx (fun w5 (h5 : Cls w2.drew.heap.size w2.drew w5) => run_nodes1 ((X2.out.below h5.out X2.out.lt).cell 0))
  have hqt : (ex % 16).tdiv 15 = (q : Int) := by rw [Int.tdiv_eq_ediv_of_nonneg hex0]; exact hq
  have hn9 := HN9.out
  have hwr : IntKind.i64.wrap ((n : Int) + (q : Int)) = ((n + q : Nat) : Int) := by
    rw [Int.natCast_add]; exact IntWalk.i64_in _ (by omega)
  have hwq : IntKind.i64.wrap (q : Int) = (q : Int) := IntWalk.i64_in _ (by omega)
  clear hq
  refine wp_region_mix3 14 (.steps [(0, 0), (0, 1), (0, 2), (0, 3), (0, 5), (0, 6), (0, 7), (0, 8), (0, 9), (0, 10), (0, 11), (0, 12), (2, 4), (2, 13)] .leaf) (by kernel_rfl) (by kernel_rfl) ?_
  simp only [MixT, MT.steps, stepAt, List.getD_cons_zero, List.getD_cons_succ, List.drop_succ_cons, List.drop_zero]
  repeat (first | (with_reducible refine wpQuiet_nil ?_) | (first | go_big_quiet_skip | (go_big_quiet_want; first | ((with_reducible refine quiet_cell 23 _ rfl _ _ ?_ CN.out ?_); rfl; go_big_quiet_on; (simp only [Act.put, List.setIfInBounds_toArray, List.set_cons_succ, List.set_cons_zero])) | (go_big_quiet_op; first | go_big_quiet_on | ((with_reducible refine ⟨_, fun _ _ => rfl, ?_⟩); go_big_quiet_on)))))
  refine mix_call (HL1.out n (by have := HN9.out; omega) _ B2.out) Try.func33 rfl rfl _ _ rfl rfl rfl ?_
  rintro e w3 ⟨A1, c1, xs, hxl, hx64, _, rfl, hxo, hb⟩
  refine ⟨_, rfl, hb, ?_⟩
  have X3 := bx (X2.out.below hb X2.out.lt)
  have B3 := bx (B2.out.trans (hb.mono B2.out.size))
  have U1 := bx (DRow.own hxl hxo)
  have S1 := bx hx64
  have HL3 := HL2.out (n + q) (by have := HN9.out; have := HQ.out; omega) _ B3.out
  rw [Int.natCast_add] at HL3
  clear hb X2 B2 hxl hxo hx64 CN
  refine mix_call HL3 Try.func33 rfl rfl _ _ rfl rfl rfl ?_
  rintro e w4 ⟨A2, c2, ys, hxl, hx64, _, rfl, hxo, hb⟩
  refine ⟨_, rfl, hb, ?_⟩
  have X4 := bx (X3.out.below hb X3.out.lt)
  have B4 := bx (B3.out.trans (hb.mono B3.out.size))
  have U2 := bx (U1.out.below hb)
  have V2 := bx (DRow.own hxl hxo)
  have S2 := bx hx64
  clear hb X3 B3 U1 hxl hxo hx64 hqt hwr hwq hand hex0 hex1 hn9
  simp only [Act.put, List.setIfInBounds_toArray, List.set_cons_succ, List.set_cons_zero]
  go_wp2_with fail
  refine NoPanic.normal ?_
  have BX := bx (ext_alloc w4 (.cells #[.slice A1 n c1, .slice A2 (n + q) c2] 61))
  obtain ⟨P1, hP1⟩ : ∃ P : Pt, P = ⟨A1, n, c1, xs⟩ := ⟨_, rfl⟩
  obtain ⟨P2, hP2⟩ : ∃ P : Pt, P = ⟨A2, n + q, c2, ys⟩ := ⟨_, rfl⟩
  have HLLX : Bx (∀ w', Below w4.heap.size w4 w' → ∀ g, Has w' g [.slice A1 n c1, .slice A2 (n + q) c2] → LL w' (some ⟨g, 0, none⟩) 2 [P1, P2]) := ⟨fun w' hb g hg => by
    rw [hP1, hP2]; exact ll_pair hg (U2.out.below hb) (V2.out.below hb) S1.out S2.out⟩
  have PQ : Bx (P1.n = n ∧ P2.n = n + q) := ⟨by rw [hP1, hP2]; exact ⟨rfl, rfl⟩⟩
  clear hP1 hP2
  have LLX := bx (HLLX.out _ BX.out _ (Has.new w4 [.slice A1 n c1, .slice A2 (n + q) c2] 61))
  have X5 := bx (X4.out.below BX.out X4.out.lt)
  have hn4 : n ≤ 4096 := by have := HN9.out; omega
  have hmk := fun w => run_make (P := Try.prog) w 61 94 i0 _ Try.underlying61 hi0 hz0 .i64 .i64 n n (by omega) (Int.le_refl _) (by rw [hz2]; omega) (by omega)
  rw [hz1, Int.toNat_natCast, made_flat dc ⟨0, 0⟩ (Value.agg (dc ⟨0, 0⟩).toArray).cells (by simp [Value.cells]) (k := 2) (by rfl) (by omega) n] at hmk
  obtain ⟨cs, hcs⟩ : ∃ cs, cs = (List.replicate n (⟨0, 0⟩ : Dl)).flatMap dc := ⟨_, rfl⟩
  rw [← hcs] at hmk
  have HCS := bx hcs
  clear hcs hi0 hz0 hz1 hz2
  have ME := bx (fun w' Al ps m cl hm (hl : LL w' Al m ps) => merge_any A Al n c m cl ps hn4 hm w' hl)
  have MR := bx (fun w' Al ps m cl hm (hl : LL w' Al m ps) => refMerge_any A Al n c m cl ps hn4 hm w' hl)
  go_wp2_with ((with_reducible refine wpList_loadG 25 _ rfl _ [.slice A n c] ?_ ?_ X4.out Try.underlying25 rfl ?_ ?_); rfl; rfl; exact cells_tree _)
  have HN4 := bx hn4
  rcases (show q = 0 ∨ q = 1 by omega) with rfl | rfl
  · simp only [Nat.add_zero] at *
    have GOOD : Bx (∀ p ∈ [P1, P2], p.n = n) := ⟨fun p hp => by
      simp only [List.mem_cons, List.not_mem_nil, or_false] at hp
      rcases hp with rfl | rfl
      · exact PQ.out.1
      · exact PQ.out.2⟩
    cases hR : mAll [P1, P2] n 2 with
    | none =>
      have RR := bx hR
      clear hR hn4 hq1
      refine (ME.out _ _ _ 2 2 (by omega) LLX.out).mono ?_
      intro e w5 h5
      obtain ⟨rfl, hb⟩ := h5.none GOOD.out RR.out
      (have X6 := bx (X5.out.below hb X5.out.lt); have HB := bx (BX.out.trans (hb.mono BX.out.size)); have B6 := bx (B4.out.trans (HB.out.mono B4.out.size)); clear hb; have BY := bx (ext_alloc w5 (.cells #[.slice A1 n c1, .slice A2 n c2] 61)); have LY := bx (HLLX.out _ (HB.out.trans (BY.out.mono HB.out.size)) _ (Has.new w5 [.slice A1 n c1, .slice A2 n c2] 61)); go_wp2_with ((with_reducible refine wpList_loadG 25 _ rfl _ [.slice A n c] ?_ ?_ X6.out Try.underlying25 rfl ?_ ?_); rfl; rfl; exact cells_tree _); refine (MR.out _ _ _ 2 2 (by omega) LY.out).mono ?_; intro e w6 h6; obtain ⟨rfl, hb6⟩ := h6.none GOOD.out RR.out; have HB6 := bx (BY.out.trans (hb6.mono BY.out.size)); have X7 := bx (X6.out.below HB6.out X6.out.lt); have B7 := bx (B6.out.trans (HB6.out.mono B6.out.size)); skip; clear hb6; go_wp2_with ((with_reducible refine wpList_loadG 25 _ rfl _ [.slice A n c] ?_ ?_ X7.out Try.underlying25 rfl ?_ ?_); rfl; rfl; exact cells_tree _); refine (ME.out _ none [] 0 0 (by omega) (LL.nil _)).mono ?_; intro e w7 h7; obtain ⟨A7, c7, rfl, _, hd7, hb7⟩ := h7.some (fun p hp => by simp at hp) (show mAll [] n 0 = some (List.replicate n ⟨0, 0⟩) from rfl); have X8 := bx (X7.out.below hb7 X7.out.lt); have B8 := bx (B7.out.trans (hb7.mono B7.out.size)); have Z8 := bx hd7; have HB7 := bx hb7; clear hb7 hd7 X7 B7 BY LY HLLX ME MR)
      go_wp2_with fail
      refine (sameD_nil 0 0 _).mono ?_; rintro e w8 ⟨rfl, hb⟩
      (have X9 := bx (X8.out.below hb X8.out.lt); have B9 := bx (B8.out.trans (hb.mono B8.out.size)); have Z9 := bx (Z8.out.below hb); clear hb X8 B8 Z8; rename_i _ w8; have hc9 : w8.cell? ⟨w1.heap.size, 0, none⟩ = some (.slice A n c) := X9.out.cell 0; go_wp2_with fail; have BZ := bx (ext_alloc w8 (.cells cs.toArray 94)); have RZ : Bx (DRow (w8.alloc (.cells cs.toArray 94)) (some ⟨w8.heap.size, 0, none⟩) n (List.replicate n ⟨0, 0⟩)) := ⟨DRow.has (rep_len n) (by rw [← HCS.out]; exact Has.new w8 cs _)⟩; refine (sameDeltas_any A7 _ n n c7 n _ _ _ (Z9.out.below BZ.out) RZ.out HN4.out HN4.out).mono ?_; rintro e w10 ⟨rfl, hb⟩; rw [decide_eq_true rfl]; have B10 := bx (B9.out.trans ((BZ.out.trans (hb.mono BZ.out.size)).mono B9.out.size)); clear hb; go_wp2_with fail; refine (awake14_any _).mono ?_; rintro e w11 ⟨rfl, hb⟩; have B11 := bx (B10.out.trans (hb.mono B10.out.size)); clear hb; go_wp2_with fail; go_ret; exact ⟨rfl, B11.out⟩)
    | some o =>
      have RR := bx hR
      clear hR hn4 hq1
      refine (ME.out _ _ _ 2 2 (by omega) LLX.out).mono ?_
      intro e w5 h5
      obtain ⟨A5, c5, rfl, hd64, hdr, hb⟩ := h5.some GOOD.out RR.out
      have DR5 := bx hdr
      clear hdr hd64
      (have X6 := bx (X5.out.below hb X5.out.lt); have HB := bx (BX.out.trans (hb.mono BX.out.size)); have B6 := bx (B4.out.trans (HB.out.mono B4.out.size)); clear hb; have BY := bx (ext_alloc w5 (.cells #[.slice A1 n c1, .slice A2 n c2] 61)); have LY := bx (HLLX.out _ (HB.out.trans (BY.out.mono HB.out.size)) _ (Has.new w5 [.slice A1 n c1, .slice A2 n c2] 61)); go_wp2_with ((with_reducible refine wpList_loadG 25 _ rfl _ [.slice A n c] ?_ ?_ X6.out Try.underlying25 rfl ?_ ?_); rfl; rfl; exact cells_tree _); refine (MR.out _ _ _ 2 2 (by omega) LY.out).mono ?_; intro e w6 h6; obtain ⟨A6, c6, rfl, _, hdr, hb6⟩ := h6.some GOOD.out RR.out; have HB6 := bx (BY.out.trans (hb6.mono BY.out.size)); have X7 := bx (X6.out.below HB6.out X6.out.lt); have B7 := bx (B6.out.trans (HB6.out.mono B6.out.size)); have E5 := bx (DR5.out.below HB6.out); have E6 := bx hdr; clear hb6; go_wp2_with ((with_reducible refine wpList_loadG 25 _ rfl _ [.slice A n c] ?_ ?_ X7.out Try.underlying25 rfl ?_ ?_); rfl; rfl; exact cells_tree _); refine (ME.out _ none [] 0 0 (by omega) (LL.nil _)).mono ?_; intro e w7 h7; obtain ⟨A7, c7, rfl, _, hd7, hb7⟩ := h7.some (fun p hp => by simp at hp) (show mAll [] n 0 = some (List.replicate n ⟨0, 0⟩) from rfl); have X8 := bx (X7.out.below hb7 X7.out.lt); have B8 := bx (B7.out.trans (hb7.mono B7.out.size)); have Z8 := bx hd7; have HB7 := bx hb7; clear hb7 hd7 X7 B7 BY LY HLLX ME MR)
      have E7 := bx (E5.out.below HB7.out)
      have F7 := bx (E6.out.below HB7.out)
      clear E5 E6 DR5
      go_wp2_with fail
      refine (sameDeltas_any A5 A6 n n c5 c6 _ _ _ E7.out F7.out HN4.out HN4.out).mono ?_; rintro e w8 ⟨rfl, hb⟩
      rw [decide_eq_true rfl]
      (have X9 := bx (X8.out.below hb X8.out.lt); have B9 := bx (B8.out.trans (hb.mono B8.out.size)); have Z9 := bx (Z8.out.below hb); clear hb X8 B8 Z8; rename_i _ w8; have hc9 : w8.cell? ⟨w1.heap.size, 0, none⟩ = some (.slice A n c) := X9.out.cell 0; go_wp2_with fail; have BZ := bx (ext_alloc w8 (.cells cs.toArray 94)); have RZ : Bx (DRow (w8.alloc (.cells cs.toArray 94)) (some ⟨w8.heap.size, 0, none⟩) n (List.replicate n ⟨0, 0⟩)) := ⟨DRow.has (rep_len n) (by rw [← HCS.out]; exact Has.new w8 cs _)⟩; refine (sameDeltas_any A7 _ n n c7 n _ _ _ (Z9.out.below BZ.out) RZ.out HN4.out HN4.out).mono ?_; rintro e w10 ⟨rfl, hb⟩; rw [decide_eq_true rfl]; have B10 := bx (B9.out.trans ((BZ.out.trans (hb.mono BZ.out.size)).mono B9.out.size)); clear hb; go_wp2_with fail; refine (awake14_any _).mono ?_; rintro e w11 ⟨rfl, hb⟩; have B11 := bx (B10.out.trans (hb.mono B10.out.size)); clear hb; go_wp2_with fail; go_ret; exact ⟨rfl, B11.out⟩)
  · have BAD : Bx (∃ p ∈ [P1, P2], p.n ≠ n) := ⟨P2, by simp, by rw [PQ.out.2]; omega⟩
    clear hn4 hq1
    refine (ME.out _ _ _ 2 2 (by omega) LLX.out).mono ?_
    intro e w5 h5
    obtain ⟨rfl, hb⟩ := h5.bad BAD.out
    (have X6 := bx (X5.out.below hb X5.out.lt); have HB := bx (BX.out.trans (hb.mono BX.out.size)); have B6 := bx (B4.out.trans (HB.out.mono B4.out.size)); clear hb; have BY := bx (ext_alloc w5 (.cells #[.slice A1 n c1, .slice A2 (n + 1) c2] 61)); have LY := bx (HLLX.out _ (HB.out.trans (BY.out.mono HB.out.size)) _ (Has.new w5 [.slice A1 n c1, .slice A2 (n + 1) c2] 61)); go_wp2_with ((with_reducible refine wpList_loadG 25 _ rfl _ [.slice A n c] ?_ ?_ X6.out Try.underlying25 rfl ?_ ?_); rfl; rfl; exact cells_tree _); refine (MR.out _ _ _ 2 2 (by omega) LY.out).mono ?_; intro e w6 h6; obtain ⟨rfl, hb6⟩ := h6.bad BAD.out; have HB6 := bx (BY.out.trans (hb6.mono BY.out.size)); have X7 := bx (X6.out.below HB6.out X6.out.lt); have B7 := bx (B6.out.trans (HB6.out.mono B6.out.size)); skip; clear hb6; go_wp2_with ((with_reducible refine wpList_loadG 25 _ rfl _ [.slice A n c] ?_ ?_ X7.out Try.underlying25 rfl ?_ ?_); rfl; rfl; exact cells_tree _); refine (ME.out _ none [] 0 0 (by omega) (LL.nil _)).mono ?_; intro e w7 h7; obtain ⟨A7, c7, rfl, _, hd7, hb7⟩ := h7.some (fun p hp => by simp at hp) (show mAll [] n 0 = some (List.replicate n ⟨0, 0⟩) from rfl); have X8 := bx (X7.out.below hb7 X7.out.lt); have B8 := bx (B7.out.trans (hb7.mono B7.out.size)); have Z8 := bx hd7; have HB7 := bx hb7; clear hb7 hd7 X7 B7 BY LY HLLX ME MR)
    go_wp2_with fail
    refine (sameD_nil 0 0 _).mono ?_; rintro e w8 ⟨rfl, hb⟩
    (have X9 := bx (X8.out.below hb X8.out.lt); have B9 := bx (B8.out.trans (hb.mono B8.out.size)); have Z9 := bx (Z8.out.below hb); clear hb X8 B8 Z8; rename_i _ w8; have hc9 : w8.cell? ⟨w1.heap.size, 0, none⟩ = some (.slice A n c) := X9.out.cell 0; go_wp2_with fail; have BZ := bx (ext_alloc w8 (.cells cs.toArray 94)); have RZ : Bx (DRow (w8.alloc (.cells cs.toArray 94)) (some ⟨w8.heap.size, 0, none⟩) n (List.replicate n ⟨0, 0⟩)) := ⟨DRow.has (rep_len n) (by rw [← HCS.out]; exact Has.new w8 cs _)⟩; refine (sameDeltas_any A7 _ n n c7 n _ _ _ (Z9.out.below BZ.out) RZ.out HN4.out HN4.out).mono ?_; rintro e w10 ⟨rfl, hb⟩; rw [decide_eq_true rfl]; have B10 := bx (B9.out.trans ((BZ.out.trans (hb.mono BZ.out.size)).mono B9.out.size)); clear hb; go_wp2_with fail; refine (awake14_any _).mono ?_; rintro e w11 ⟨rfl, hb⟩; have B11 := bx (B10.out.trans (hb.mono B10.out.size)); clear hb; go_wp2_with fail; go_ret; exact ⟨rfl, B11.out⟩)
end Go.Proofs.Ytonkgjengplppaa
