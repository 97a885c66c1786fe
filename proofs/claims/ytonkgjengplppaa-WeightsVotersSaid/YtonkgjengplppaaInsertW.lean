/- The reference's New and Insert, walked. -/
import Derived.Test.YtonkgjengplppaaInsert
namespace Go.Proofs.Ytonkgjengplppaa
open Go.RowKit
theorem node_parts : ∃ i z, Try.prog.info? 51 = some i ∧ i.zero = some z ∧ z.cells.size = 240 ∧ i.size = 240 ∧ i.bytes = 352 := by
  have h := info_node
  cases hi : Try.prog.info? 51 with
  | none => rw [hi] at h; simp at h
  | some i =>
    rw [hi] at h
    simp only [Option.map_some, Option.some.injEq, Prod.mk.injEq] at h
    obtain ⟨h1, h2, h3⟩ := h
    cases hz : i.zero with
    | none => rw [hz] at h1; simp at h1
    | some z =>
      rw [hz] at h1
      exact ⟨i, z, rfl, hz, by simpa using h1, h2, h3⟩
theorem cells_blk {b : Bk} (h : BkOk b) : Try.prog.cellsOf 49 = (bc b).length := by rw [h.len]; kernel_rfl
theorem cells_node {n : Nd} (h : BkOk n.b) : Try.prog.cellsOf 51 = (nc n).length := by rw [nc_len h]; kernel_rfl
theorem cells_tree (v : Value) : Try.prog.cellsOf 25 = [v].length := by kernel_rfl
theorem built_tree (A : Option Addr) (n c : Nat) : Try.prog.built 25 [(0, .slice A n c)] = some (#[.slice A n c] : Array Value) := by kernel_rfl
/-- a tree is written -/
theorem tree_one (v : Value) (h : v.oneCell' = true) : ∀ u ∈ [v], u.oneCell' = true := fun u hu => by simp at hu; subst hu; exact h
theorem slice_one (A : Option Addr) (n c : Nat) : ∀ u ∈ [Value.slice A n c], u.oneCell' = true := tree_one _ rfl
theorem isStatus_any (s : Int) (h0 : 0 ≤ s) (h2 : s ≤ 2) (w : World) : Calls Try.prog 64 #[.int .i64 s] w fun e w' => e = .returned (.bool true) ∧ Below w.heap.size w w' := by
  have B := bx (Below.refl w.heap.size w)
  go_enter Try.func64, Try.ntmps64
  go_wp2_with fail
  go_ret
  exact ⟨rfl, B.out⟩
set_option maxRecDepth 20000 in
set_option maxHeartbeats 1000000 in
theorem new_any (b : Bk) (st : Int) (hb : BkOk b) (w : World) : Calls Try.prog 51 #[.agg (bc b).toArray, .int .i64 st] w fun e w' =>
    ∃ g, e = .returned (.agg #[.slice (some ⟨g, 0, none⟩) 1 1]) ∧ w.heap.size ≤ g ∧ Has w' g (nc ⟨b, -1, st⟩) ∧ Below w.heap.size w w' := by
  have HB := bx hb
  have X0 : Bx (Has ((w.alloc (.cells (bc b).toArray 49)).alloc (.cells #[.slice none 0 0] 25)) w.heap.size (bc b)) := ⟨(Has.new w (bc b) 49).alloc _⟩
  clear hb
  go_enter Try.func51, Try.ntmps51
  go_wp2_with (first | ((with_reducible refine wpList_loadG 49 _ rfl _ (bc b) ?_ ?_ X0.out Try.underlying49 rfl ?_ ?_); rfl; rfl; exact cells_blk HB.out) | ((with_reducible refine wpList_buildTo rfl 51 _ rfl [(0, .agg (bc b).toArray), (1, .int .i64 (-1)), (2, .int .i64 st)] (nc ⟨b, -1, st⟩) ?_ (built_node HB.out (-1) st) ?_); rfl) | ((with_reducible refine Great.wpList_buildSliceTo rfl 23 51 1 _ rfl _ rfl _ rfl Try.underlying23 (nc ⟨b, -1, st⟩).toArray ?_ ?_); rw [Array.toList_map]; exact built_slice1 (n := ⟨b, -1, st⟩) HB.out))
  have U : Bx (Has (((w.alloc (.cells (bc b).toArray 49)).alloc (.cells #[.slice (some ⟨w.heap.size + 1 + 1, 0, none⟩) 1 1] 25)).alloc (.cells (nc ⟨b, -1, st⟩).toArray 51)) (w.heap.size + 1) [.slice (some ⟨w.heap.size + 1 + 1, 0, none⟩) 1 1]) := ⟨by
    have := (Has.new (w.alloc (.cells (bc b).toArray 49)) [.slice (some ⟨w.heap.size + 1 + 1, 0, none⟩) 1 1] 25).alloc (.cells (nc ⟨b, -1, st⟩).toArray 51)
    rwa [alloc_size] at this⟩
  have V : Bx (Has (((w.alloc (.cells (bc b).toArray 49)).alloc (.cells #[.slice (some ⟨w.heap.size + 1 + 1, 0, none⟩) 1 1] 25)).alloc (.cells (nc ⟨b, -1, st⟩).toArray 51)) (w.heap.size + 1 + 1) (nc ⟨b, -1, st⟩)) := ⟨by
    have := Has.new ((w.alloc (.cells (bc b).toArray 49)).alloc (.cells #[.slice (some ⟨w.heap.size + 1 + 1, 0, none⟩) 1 1] 25)) (nc ⟨b, -1, st⟩) 51
    rwa [alloc_size, alloc_size] at this⟩
  exact bodyPost_ret (results_cell (by rfl) _ (by rfl) U.out Try.underlying25 rfl (cells_tree _)) rfl ⟨w.heap.size + 1 + 1, rfl, by omega, V.out, (((Below.refl w.heap.size w).alloc (Nat.le_refl _) _).alloc (by simp) _).alloc (by simp; omega) _⟩
/-- what Insert answers: an error, or the tree with one node more -/
def IP (ns : List Nd) (b : Bk) (st : Int) (n : Nat) (w : World) (e : Ending) (w' : World) : Prop :=
  ((∃ er : Int, er ≠ 0 ∧ e = .returned (.tuple #[.agg #[.slice none 0 0], .int .i64 er])) ∨
    ∃ (A : Option Addr) (c u : Nat) (hu : u < ns.length), e = .returned (.tuple #[.agg #[.slice A (n + 1) c], .int .i64 0]) ∧ NRow w' A (n + 1) (ns ++ [⟨b, u, st⟩]) ∧ (∀ ad, A = some ad → w.heap.size ≤ ad.block) ∧ ns[u].b.root = b.parent ∧ ns[u].b.slot < b.slot ∧ ∀ x ∈ ns, x.b.root ≠ b.root) ∧ Below w.heap.size w w'
theorem own_mono {w : World} {base base' : Nat} {e : TypeId} {size : Nat} {v : Value} {n : Nat} {xs : List Value} (h : w.ownsRow base e size v n xs) (hb : base' ≤ base) : w.ownsRow base' e size v n xs := by
  refine ⟨h.1, ?_⟩
  rcases h.2 with h1 | ⟨g, cap, cur, h1, h2, h3⟩
  · exact .inl h1
  · exact .inr ⟨g, cap, cur, h1, Nat.le_trans hb h2, h3⟩
theorem nrow_push {w : World} {base : Nat} {e : TypeId} {A : Option Addr} {n c : Nat} {ns : List Nd} {nd : Nd} (hk : NOk ns) (hb : BkOk nd.b) (hl : ns.length = n) (h : w.ownsRow base e 240 (.slice A (n + 1) c) (n + 1) (ns.flatMap nc ++ nc nd)) : NRow w A (n + 1) (ns ++ [nd]) := by
  refine ⟨by simp [hl], fun x hx => ?_, fun _ => ?_⟩
  · rcases List.mem_append.1 hx with hx | hx
    · exact hk x hx
    · have : x = nd := by simpa using hx
      rw [this]; exact hb
  · obtain ⟨g, c', post, hv, _, hg⟩ := own_block h (Nat.succ_pos _)
    injection hv with h1 h2 h3
    exact ⟨g, post, h1, by rw [List.flatMap_append]; simpa using hg⟩
set_option maxRecDepth 20000 in
set_option maxHeartbeats 2000000 in
theorem insert_any (A : Option Addr) (n c : Nat) (ns : List Nd) (b : Bk) (st : Int) (hb : BkOk b) (h0 : 0 ≤ st) (h2 : st ≤ 2) (w : World) (h : NRow w A n ns) (hn : n ≤ 100) (hn0 : 0 < n) :
    Calls Try.prog 52 #[.agg #[.slice A n c], .agg (bc b).toArray, .int .i64 st] w (IP ns b st n w) := by
  have HB := bx hb
  have HROW := bx h
  have HLEN := bx h.1
  have HIS := bx (isStatus_any st h0 h2)
  obtain ⟨wA, hwA⟩ : ∃ wA, wA = ((w.alloc (.cells #[.slice A n c] 25)).alloc (.cells (bc b).toArray 49)).alloc (.cells #[.slice none 0 0] 25) := ⟨_, rfl⟩
  have X3 : Bx (Has wA w.heap.size [.slice A n c]) := ⟨by rw [hwA]; exact ((Has.new w [.slice A n c] 25).alloc _).alloc _⟩
  have X4 : Bx (Has wA (w.heap.size + 1) (bc b)) := ⟨by rw [hwA]; have := (Has.new (w.alloc (.cells #[.slice A n c] 25)) (bc b) 49).alloc (.cells #[.slice none 0 0] 25); rwa [alloc_size] at this⟩
  have X6 : Bx (Has wA (w.heap.size + 1 + 1) [.slice none 0 0]) := ⟨by rw [hwA]; have := Has.new ((w.alloc (.cells #[.slice A n c] 25)).alloc (.cells (bc b).toArray 49)) [.slice none 0 0] 25; rwa [alloc_size, alloc_size] at this⟩
  have BA : Bx (Below w.heap.size w wA) := ⟨by rw [hwA]; exact (((Below.refl w.heap.size w).alloc (Nat.le_refl _) _).alloc (by simp) _).alloc (by simp; omega) _⟩
  have HWA := bx hwA
  clear hwA h hb
  go_enter Try.func52, Try.ntmps52
  go_wp2_with fail
  rw [← HWA.out]
  clear HWA
  refine (HIS.out _).mono ?_; rintro e w1 ⟨rfl, hb1⟩
  have Y3 := bx (X3.out.below hb1 X3.out.lt)
  have Y4 := bx (X4.out.below hb1 X4.out.lt)
  have Y6 := bx (X6.out.below hb1 X6.out.lt)
  have BY := bx (BA.out.trans (hb1.mono BA.out.size))
  have RT1 := bx (range_part 67 Y4.out.rangeAll (bc_root HB.out))
  have HRT := bx HB.out.root
  clear hb1 X3 X4 X6 BA
  go_wp2_with (first | ((with_reducible refine wpList_loadG 25 _ rfl _ [.slice A n c] ?_ ?_ Y3.out Try.underlying25 rfl ?_ ?_); rfl; rfl; exact cells_tree _) | ((with_reducible refine wpList_loadR 41 _ rfl ?_ (w.heap.size + 1) (0 + 67) (ints .u8 b.root) RT1.out ?_ Try.underlying41 ?_ ?_ ?_); rfl; rfl; rfl; exact cells_root HRT.out))
  refine (find_any A n c ns b.root HRT.out _ (HROW.out.below BY.out) (by omega)).mono ?_; rintro e w2 ⟨⟨k, rfl, hk⟩, hb2⟩
  have Z3 := bx (Y3.out.below hb2 Y3.out.lt)
  have Z4 := bx (Y4.out.below hb2 Y4.out.lt)
  have Z6 := bx (Y6.out.below hb2 Y6.out.lt)
  have BZ := bx (BY.out.trans (hb2.mono BY.out.size))
  have RT2 := bx (range_part 99 Z4.out.rangeAll (bc_parent HB.out))
  have HPT := bx HB.out.parent
  clear hb2 Y3 Y4 Y6 BY RT1
  rcases hk with ⟨rfl, hno⟩ | ⟨i, hi, rfl, heq, _⟩
  · have HNO := bx hno
    clear hno
    go_wp2_with (first | ((with_reducible refine wpList_loadG 25 _ rfl _ [.slice A n c] ?_ ?_ Z3.out Try.underlying25 rfl ?_ ?_); rfl; rfl; exact cells_tree _) | ((with_reducible refine wpList_loadR 41 _ rfl ?_ (w.heap.size + 1) (0 + 99) (ints .u8 b.parent) RT2.out ?_ Try.underlying41 ?_ ?_ ?_); rfl; rfl; rfl; exact cells_root HPT.out))
    refine (find_any A n c ns b.parent HPT.out _ (HROW.out.below BZ.out) (by omega)).mono ?_; rintro e w3 ⟨⟨k, rfl, hk⟩, hb3⟩
    have V3 := bx (Z3.out.below hb3 Z3.out.lt)
    have V4 := bx (Z4.out.below hb3 Z4.out.lt)
    have V6 := bx (Z6.out.below hb3 Z6.out.lt)
    have BV := bx (BZ.out.trans (hb3.mono BZ.out.size))
    clear hb3 Z3 Z4 Z6 BZ RT2
    rcases hk with ⟨rfl, hno⟩ | ⟨u, hu, rfl, heq, _⟩
    · clear hno
      go_wp2_with ((with_reducible refine wpList_storeB rfl 25 _ _ rfl _ [.slice none 0 0] _ ?_ ?_ V6.out rfl Try.underlying25 ?_ (slice_one _ _ _) ?_); rfl; rfl; exact cells_tree _; intro w9 hw hg hz0; have U9 := bx hw; have B9 := bx (BV.out.grown hg BV.out.size (fun k hk => by cases hk; omega)); clear hw hg hz0)
      exact bodyPost_ret (results_cell_tmp (by rfl) _ (by rfl) U9.out Try.underlying25 rfl (cells_tree _)) rfl ⟨.inl ⟨10, by decide, rfl⟩, B9.out⟩
    · have HEQ := bx heq
      have hun : u < n := by rw [← HLEN.out]; exact hu
      obtain ⟨g1, p1, rfl, hg1⟩ := (HROW.out.below BV.out).2.2 hn0
      have hbu := HROW.out.2.1 _ (List.getElem_mem hu)
      have CN := bx (fun (w4 : World) (h4 : Cls w3.heap.size w3 w4) => run_nodes1 ((V3.out.below h4.out V3.out.lt).cell 0))
      have CS := bx (fun (w4 : World) (h4 : Cls w3.heap.size w3 w4) => run_u641 (((V4.out.below h4.out V4.out.lt).cell 66).trans (bc_slot HB.out)))
      have CU := bx (fun (w4 : World) (h4 : Cls w3.heap.size w3 w4) => run_u641 ((hg1.below h4.out hg1.lt).nodeCell HROW.out.2.1 u hu 66 _ (nc_bc hbu (bc_slot hbu))))
      have HSL : Bx (¬ b.slot ≤ ns[u].b.slot → ns[u].b.slot < b.slot) := ⟨fun h => by omega⟩
      have G1 := bx hg1
      clear heq hbu hg1
      have hki : (u : Int) < (n : Int) := by omega
      have hk0 : 0 ≤ (u : Int) := by omega
      generalize hsu : ns[u].b.slot = su at *
      by_cases hsl : b.slot ≤ su
      · go_wp2_with fail
        refine region_cls w3.heap.size (by kernel_rfl) (by kernel_rfl) ?_
        repeat (first | go_big_quiet_skip | (go_big_quiet_want; first | (first | ((with_reducible refine quiet_cell 23 _ rfl _ _ ?_ CN.out ?_); rfl; go_big_quiet_on; (simp only [Act.put, List.setIfInBounds_toArray, List.set_cons_succ, List.set_cons_zero])) | ((with_reducible refine quiet_cell 35 _ rfl _ _ ?_ CS.out ?_); rfl; go_big_quiet_on; (simp only [Act.put, List.setIfInBounds_toArray, List.set_cons_succ, List.set_cons_zero])) | ((with_reducible refine quiet_cell 35 _ rfl _ _ ?_ CU.out ?_); rfl; go_big_quiet_on; (simp only [Act.put, List.setIfInBounds_toArray, List.set_cons_succ, List.set_cons_zero]))) | (go_big_quiet_op; first | go_big_quiet_on | ((with_reducible refine ⟨_, fun _ _ => rfl, ?_⟩); go_big_quiet_on))))
        refine wpQuiet_nil ?_
        intro w4 hw4
        have B4 := bx (BV.out.trans (hw4.out.mono BV.out.size))
        have V64 := bx (V6.out.below hw4.out V6.out.lt)
        clear hw4
        go_wp2_with ((with_reducible refine wpList_storeB rfl 25 _ _ rfl _ [.slice none 0 0] _ ?_ ?_ V64.out rfl Try.underlying25 ?_ (slice_one _ _ _) ?_); rfl; rfl; exact cells_tree _; intro w9 hw hg hz0; have U9 := bx hw; have B9 := bx (B4.out.grown hg B4.out.size (fun k hk => by cases hk; omega)); clear hw hg hz0)
        exact bodyPost_ret (results_cell_tmp (by rfl) _ (by rfl) U9.out Try.underlying25 rfl (cells_tree _)) rfl ⟨.inl ⟨14, by decide, rfl⟩, B9.out⟩
      · have HSU := bx (HSL.out hsl)
        go_wp2_with fail
        refine region_cls w3.heap.size (by kernel_rfl) (by kernel_rfl) ?_
        repeat (first | go_big_quiet_skip | (go_big_quiet_want; first | (first | ((with_reducible refine quiet_cell 23 _ rfl _ _ ?_ CN.out ?_); rfl; go_big_quiet_on; (simp only [Act.put, List.setIfInBounds_toArray, List.set_cons_succ, List.set_cons_zero])) | ((with_reducible refine quiet_cell 35 _ rfl _ _ ?_ CS.out ?_); rfl; go_big_quiet_on; (simp only [Act.put, List.setIfInBounds_toArray, List.set_cons_succ, List.set_cons_zero])) | ((with_reducible refine quiet_cell 35 _ rfl _ _ ?_ CU.out ?_); rfl; go_big_quiet_on; (simp only [Act.put, List.setIfInBounds_toArray, List.set_cons_succ, List.set_cons_zero]))) | (go_big_quiet_op; first | go_big_quiet_on | ((with_reducible refine ⟨_, fun _ _ => rfl, ?_⟩); go_big_quiet_on))))
        refine wpQuiet_nil ?_
        intro w4 hw4
        have B4 := bx (BV.out.trans (hw4.out.mono BV.out.size))
        have U3 := bx (V3.out.below hw4.out V3.out.lt)
        have U4 := bx (V4.out.below hw4.out V4.out.lt)
        have U6 := bx (V6.out.below hw4.out V6.out.lt)
        have G4 := bx (G1.out.below hw4.out G1.out.lt)
        clear hw4 V3 V4 V6 BV CN CS CU G1
        have hc4 : w4.cell? ⟨w.heap.size, 0, none⟩ = some (.slice (some ⟨g1, 0, none⟩) n c) := U3.out.cell 0
        have CN := bx (fun (w5 : World) (h5 : Cls w4.drew.heap.size w4.drew w5) => run_nodes1 (((show Has w4.drew _ _ from U3.out).below h5.out U3.out.lt).cell 0))
        have CB := bx (Has.cls (w := w4.drew) U4.out)
        have G5 : Bx (Has w4.drew g1 (ns.flatMap nc ++ p1)) := ⟨G4.out⟩
        have T6 : Bx (Has w4.drew (w.heap.size + 1 + 1) [.slice none 0 0]) := ⟨U6.out⟩
        have BD : Bx (Below w.heap.size w w4.drew) := ⟨B4.out.drew⟩
        have HL6 : Bx (w.heap.size + 1 + 1 < w4.drew.heap.size) := ⟨U6.out.lt⟩
        have HONE : Bx (∀ x ∈ ns.flatMap nc, x.oneCell' = true) := ⟨fun x hx => by
          obtain ⟨y, hy, hyx⟩ := List.mem_flatMap.1 hx
          exact nc_one (HROW.out.2.1 y hy) x hyx⟩
        have HFL : Bx ((ns.flatMap nc).length = n * 240) := ⟨by rw [flat_len ns (HROW.out.2.1).len, HLEN.out]⟩
        have HNEW : Bx (∀ w5 : World, Below w4.drew.heap.size w4.drew w5 → ∀ j x, (ns.flatMap nc)[j]? = some x → w5.cell? ((⟨g1, 0, none⟩ : Addr).add j) = some x) := ⟨fun w5 h5 j x hx => by
          rw [Addr.add_mid, Nat.zero_add, (G5.out.below h5 G5.out.lt).cell, List.getElem?_append_left (List.getElem?_eq_some_iff.1 hx).1]
          exact hx⟩
        obtain ⟨i0, z0, hi0, hz0, hz3, hz1, hz2⟩ := node_parts
        have HI := bx hi0
        clear hi0 U3 U4 U6 B4 G4
        go_wp2_with fail
        refine wp_region_mix3 8 (.steps [(0, 0), (0, 1), (0, 3), (0, 4), (0, 5), (1, 6)] (.fork 2 (.steps [(2, 7)] .leaf) 7 (.steps [(2, 2)] .leaf))) (by kernel_rfl) (by kernel_rfl) ?_
        simp only [MixT, MT.steps, stepAt, List.getD_cons_zero, List.getD_cons_succ, List.drop_succ_cons, List.drop_zero]
        repeat (first | (with_reducible refine wpQuiet_nil ?_) | (first | go_big_quiet_skip | (go_big_quiet_want; first | (first | ((with_reducible refine quiet_cell 23 _ rfl _ _ ?_ CN.out ?_); rfl; go_big_quiet_on; (simp only [Act.put, List.setIfInBounds_toArray, List.set_cons_succ, List.set_cons_zero])) | ((with_reducible refine quiet_loadC 49 _ rfl _ (bc b) ?_ CB.out Try.underlying49 rfl ?_ ?_); rfl; exact cells_blk HB.out; go_big_quiet_on; (simp only [Act.put, List.setIfInBounds_toArray, List.set_cons_succ, List.set_cons_zero])) | ((with_reducible refine quiet_build 51 _ rfl [(0, .agg (bc b).toArray), (1, .int .i64 u), (2, .int .i64 st)] (nc ⟨b, u, st⟩) ?_ (built_node HB.out u st) ?_); rfl; go_big_quiet_on; (simp only [Act.put, List.setIfInBounds_toArray, List.set_cons_succ, List.set_cons_zero]))) | (go_big_quiet_op; first | go_big_quiet_on | ((with_reducible refine ⟨_, fun _ _ => rfl, ?_⟩); go_big_quiet_on)))))
        refine ⟨?_, ?_⟩
        · refine step_push rfl (.const (.slice none 0 0)) (.tmp 43) 23 rfl i0 z0 352 Try.underlying23 HI.out hz0 hz1 hz2 hz3 (by decide) rfl (.inl (World.ownsRow_nil w4.drew w4.drew.heap.size 51 240)) ⟨g1, 0, none⟩ n c (ns.flatMap nc) rfl hn0 HFL.out (HNEW.out _ (Below.refl _ _)) HONE.out (by unfold maxLen; omega) (by omega) (Nat.le_refl _) ?_
          intro v5 w5 hown hgr hbel _
          rw [Nat.zero_add, List.nil_append] at hown
          have OW5 := bx hown
          have T65 := bx (T6.out.below hbel T6.out.lt)
          have B5 := bx (BD.out.trans (hbel.mono BD.out.size))
          have BS5 := bx hbel.size
          refine ⟨hbel, ?_⟩
          clear hown hgr hbel T6 BD
          refine mix_run (run_bs1 (n := ⟨b, u, st⟩) HB.out rfl rfl) rfl ?_
          refine ⟨ext_alloc _ _, ?_⟩
          have OW6 := bx (OW5.out.alloc (.cells (nc ⟨b, u, st⟩).toArray 51))
          have T66 := bx (T65.out.alloc (.cells (nc ⟨b, u, st⟩).toArray 51))
          have NB := bx (Has.new w5 (nc ⟨b, u, st⟩) 51)
          have B6 := bx (B5.out.alloc B5.out.size (.cells (nc ⟨b, u, st⟩).toArray 51))
          have BS6 : Bx (w4.drew.heap.size ≤ (w5.alloc (.cells (nc ⟨b, u, st⟩).toArray 51)).heap.size) := ⟨by have := BS5.out; rw [alloc_size]; omega⟩
          clear OW5 T65 B5
          have HL1 : Bx ((nc ⟨b, u, st⟩).length = 1 * 240) := ⟨by rw [nc_len (n := ⟨b, u, st⟩) HB.out]⟩
          have HON := bx (nc_one (n := ⟨b, u, st⟩) HB.out)
          have HNB : Bx (∀ j x, (nc ⟨b, u, st⟩)[j]? = some x → (w5.alloc (.cells (nc ⟨b, u, st⟩).toArray 51)).cell? ((⟨w5.heap.size, 0, none⟩ : Addr).add j) = some x) := ⟨fun j x hx => by rw [Addr.add_mid, Nat.zero_add, NB.out.cell]; exact hx⟩
          go_wp2_with (first | (at_builtin; refine wpList_pushAt rfl (.tmp 44) (.tmp 49) 23 rfl i0 z0 352 Try.underlying23 HI.out hz0 hz1 hz2 hz3 (by decide) rfl (.inl OW6.out) ⟨w5.heap.size, 0, none⟩ 1 1 (nc ⟨b, u, st⟩) rfl (by decide) HL1.out HNB.out HON.out (by unfold maxLen; omega) (by omega) BS6.out ?_; intro v7 w7 hown hgr hbel _; obtain ⟨A7, c7, rfl⟩ := own_slice hown; have OW7 := bx hown; have T67 := bx (T66.out.below hbel HL6.out); have B7 := bx (B6.out.trans (hbel.mono (Nat.le_of_lt (Nat.lt_of_le_of_lt (Nat.le_trans (Nat.le_succ _) (Nat.le_succ _)) HL6.out)))); clear hown hgr hbel) | ((with_reducible refine wpList_storeB rfl 25 _ _ rfl _ [.slice A7 (n + 1) c7] _ ?_ ?_ T67.out rfl Try.underlying25 ?_ (slice_one _ _ _) ?_); rfl; rfl; exact cells_tree _; intro w8 hw hg hz0; have U9 := bx hw; have OW8 := bx (OW7.out.kept hg (by rcases Option.eq_none_or_eq_some (Value.ownBlock (.slice A7 (n + 1) c7)) with h | ⟨z, h⟩; exact .inl h; exact .inr (by rw [h]; intro e; injection e with e; have := (OW7.out.lt z h).1; have := HL6.out; omega))); have B9 := bx (B7.out.grown hg B7.out.size (fun k hk => by cases hk; omega)); clear hw hg hz0))
          refine NoPanic.normal ?_
          go_wp2_with fail
          exact bodyPost_ret (results_cell_tmp (by rfl) _ (by rfl) U9.out Try.underlying25 rfl (cells_tree _)) rfl ⟨.inr ⟨A7, c7, u, hu, rfl, nrow_push HROW.out.2.1 HB.out HLEN.out OW8.out, (fun ad h => by have := (OW8.out.lt ad.block (by rw [h]; rfl)).1; have := HL6.out; omega), HEQ.out, by rw [hsu]; exact HSU.out, HNO.out⟩, B9.out⟩
        · refine mix_run (run_bs1 (n := ⟨b, u, st⟩) HB.out rfl rfl) rfl ?_
          refine ⟨ext_alloc _ _, ?_⟩
          have hea := ext_alloc w4.drew (.cells (nc ⟨b, u, st⟩).toArray 51)
          have NB0 := bx (Has.new w4.drew (nc ⟨b, u, st⟩) 51)
          have T65 := bx (T6.out.below hea T6.out.lt)
          have B5 := bx (BD.out.trans (hea.mono BD.out.size))
          have HNEW2 := bx (HNEW.out _ hea)
          have BS5 := bx hea.size
          clear hea T6 BD
          refine step_push rfl (.const (.slice none 0 0)) (.tmp 43) 23 rfl i0 z0 352 Try.underlying23 HI.out hz0 hz1 hz2 hz3 (by decide) rfl (.inl (World.ownsRow_nil (w4.drew.alloc (.cells (nc ⟨b, u, st⟩).toArray 51)) (w4.drew.alloc (.cells (nc ⟨b, u, st⟩).toArray 51)).heap.size 51 240)) ⟨g1, 0, none⟩ n c (ns.flatMap nc) rfl hn0 HFL.out HNEW2.out HONE.out (by unfold maxLen; omega) (by omega) (Nat.le_refl _) ?_
          intro v5 w5 hown hgr hbel _
          rw [Nat.zero_add, List.nil_append] at hown
          have OW6 := bx (own_mono hown BS5.out)
          have T66 := bx (T65.out.below hbel T65.out.lt)
          have NB := bx (NB0.out.below hbel NB0.out.lt)
          have B6 := bx (B5.out.trans (hbel.mono B5.out.size))
          have BS6 := bx (Nat.le_trans BS5.out hbel.size)
          refine ⟨hbel, ?_⟩
          clear hown hgr hbel T65 NB0 B5
          have HL1 : Bx ((nc ⟨b, u, st⟩).length = 1 * 240) := ⟨by rw [nc_len (n := ⟨b, u, st⟩) HB.out]⟩
          have HON := bx (nc_one (n := ⟨b, u, st⟩) HB.out)
          have HNB : Bx (∀ j x, (nc ⟨b, u, st⟩)[j]? = some x → (w5).cell? ((⟨w4.drew.heap.size, 0, none⟩ : Addr).add j) = some x) := ⟨fun j x hx => by rw [Addr.add_mid, Nat.zero_add, NB.out.cell]; exact hx⟩
          go_wp2_with (first | (at_builtin; refine wpList_pushAt rfl (.tmp 44) (.tmp 49) 23 rfl i0 z0 352 Try.underlying23 HI.out hz0 hz1 hz2 hz3 (by decide) rfl (.inl OW6.out) ⟨w4.drew.heap.size, 0, none⟩ 1 1 (nc ⟨b, u, st⟩) rfl (by decide) HL1.out HNB.out HON.out (by unfold maxLen; omega) (by omega) BS6.out ?_; intro v7 w7 hown hgr hbel _; obtain ⟨A7, c7, rfl⟩ := own_slice hown; have OW7 := bx hown; have T67 := bx (T66.out.below hbel HL6.out); have B7 := bx (B6.out.trans (hbel.mono (Nat.le_of_lt (Nat.lt_of_le_of_lt (Nat.le_trans (Nat.le_succ _) (Nat.le_succ _)) HL6.out)))); clear hown hgr hbel) | ((with_reducible refine wpList_storeB rfl 25 _ _ rfl _ [.slice A7 (n + 1) c7] _ ?_ ?_ T67.out rfl Try.underlying25 ?_ (slice_one _ _ _) ?_); rfl; rfl; exact cells_tree _; intro w8 hw hg hz0; have U9 := bx hw; have OW8 := bx (OW7.out.kept hg (by rcases Option.eq_none_or_eq_some (Value.ownBlock (.slice A7 (n + 1) c7)) with h | ⟨z, h⟩; exact .inl h; exact .inr (by rw [h]; intro e; injection e with e; have := (OW7.out.lt z h).1; have := HL6.out; omega))); have B9 := bx (B7.out.grown hg B7.out.size (fun k hk => by cases hk; omega)); clear hw hg hz0))
          refine NoPanic.normal ?_
          go_wp2_with fail
          exact bodyPost_ret (results_cell_tmp (by rfl) _ (by rfl) U9.out Try.underlying25 rfl (cells_tree _)) rfl ⟨.inr ⟨A7, c7, u, hu, rfl, nrow_push HROW.out.2.1 HB.out HLEN.out OW8.out, (fun ad h => by have := (OW8.out.lt ad.block (by rw [h]; rfl)).1; have := HL6.out; omega), HEQ.out, by rw [hsu]; exact HSU.out, HNO.out⟩, B9.out⟩
  · clear heq
    go_wp2_with ((with_reducible refine wpList_storeB rfl 25 _ _ rfl _ [.slice none 0 0] _ ?_ ?_ Z6.out rfl Try.underlying25 ?_ (slice_one _ _ _) ?_); rfl; rfl; exact cells_tree _; intro w9 hw hg hz0; have U9 := bx hw; have B9 := bx (BZ.out.grown hg BZ.out.size (fun k hk => by cases hk; omega)); clear hw hg hz0)
    exact bodyPost_ret (results_cell_tmp (by rfl) _ (by rfl) U9.out Try.underlying25 rfl (cells_tree _)) rfl ⟨.inl ⟨9, by decide, rfl⟩, B9.out⟩
end Go.Proofs.Ytonkgjengplppaa
