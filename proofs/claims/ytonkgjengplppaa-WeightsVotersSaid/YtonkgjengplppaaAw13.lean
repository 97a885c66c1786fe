/- The sanity check of the laws on weights. -/
import Derived.Test.YtonkgjengplppaaLit
import Derived.Test.YtonkgjengplppaaWTot
import Derived.Test.YtonkgjengplppaaSubW
namespace Go.Proofs.Ytonkgjengplppaa
open Go.RowKit
theorem Has.cast' {w : World} {g : Nat} {cs ds : List Value} (h : Has w g cs) (e : cs = ds) : Has w g ds := e ▸ h
theorem Has.new_at' {w : World} {g : Nat} (hg : w.heap.size = g) (cs : List Value) (t : TypeId) : Has (w.alloc (.cells cs.toArray t)) g cs := hg ▸ Has.new w cs t
set_option maxRecDepth 20000 in
set_option maxHeartbeats 1000000 in
theorem chain_any (w : World) : Calls Try.prog 49 #[] w fun e w' => (∃ (A : Option Addr) (ns : List Nd), e = .returned (.agg #[.slice A 3 3]) ∧ NRow w' A 3 ns ∧ Go.Proofs.Ytonkgjengplppaa.ups ns = [-1, 0, 1]) ∧ Below w.heap.size w w' := by
  have HR1 := bx (rootL_length 1)
  have HR2 := bx (rootL_length 2)
  have HR3 := bx (rootL_length 3)
  have RA1 := bx (root_any 1)
  have RA2 := bx (root_any 2)
  have RA3 := bx (root_any 3)
  generalize rootL 1 = r1 at *
  generalize rootL 2 = r2 at *
  generalize rootL 3 = r3 at *
  have LB1 := bx (lit_r HR1.out)
  have LB2 := bx (lit_rps HR2.out HR1.out 1)
  have LB3 := bx (lit_rps HR3.out HR2.out 2)
  have K1 := bx (mkB_ok (s := 0) HR1.out (show zroot.length = 32 from rfl) (show zroot.length = 32 from rfl))
  have K2 := bx (mkB_ok (s := 1) HR2.out HR1.out (show zroot.length = 32 from rfl))
  have K3 := bx (mkB_ok (s := 2) HR3.out HR2.out (show zroot.length = 32 from rfl))
  generalize mkB 0 r1 zroot zroot = b1 at *
  generalize mkB 1 r2 r1 zroot = b2 at *
  generalize mkB 2 r3 r2 zroot = b3 at *
  have LN1 := bx (lit_nus K1.out (-1) 1)
  have LN2 := bx (lit_ns K2.out 1)
  have LN3 := bx (lit_nus K3.out 1 1)
  have LS : Bx (Try.prog.builtSlice 51 3 [(0, .agg (nc ⟨b1, -1, 1⟩).toArray), (1, .agg (nc ⟨b2, 0, 1⟩).toArray), (2, .agg (nc ⟨b3, 1, 1⟩).toArray)] = some (nc ⟨b1, -1, 1⟩ ++ (nc ⟨b2, 0, 1⟩ ++ nc ⟨b3, 1, 1⟩)).toArray) := ⟨by
    rw [built_slice3 (a := ⟨b1, -1, 1⟩) (b := ⟨b2, 0, 1⟩) (c := ⟨b3, 1, 1⟩) K1.out K2.out K3.out]; simp⟩
  have XA := bx (Has.new w [.slice none 0 0] 25)
  have BA := bx (ext_alloc w (.cells #[.slice none 0 0] 25))
  go_enter Try.func49, Try.ntmps49
  go_wp2_with fail
  refine (RA1.out _).mono ?_; rintro e w1 ⟨rfl, hb⟩
  have B1 := bx (BA.out.trans (hb.mono BA.out.size))
  have X1 := bx (XA.out.below hb XA.out.lt)
  clear hb BA XA
  go_wp2_with (first | ((with_reducible refine wpList_buildTo rfl 49 _ rfl [(2, .agg (ints .u8 r1).toArray)] (bc b1) ?_ LB1.out ?_); rfl) | ((with_reducible refine wpList_buildTo rfl 51 _ rfl [(0, .agg (bc b1).toArray), (1, .int .i64 (-1)), (2, .int .i64 1)] (nc ⟨b1, -1, 1⟩) ?_ LN1.out ?_); rfl))
  refine (RA2.out _).mono ?_; rintro e w2 ⟨rfl, hb⟩
  have B2 := bx (B1.out.trans (hb.mono B1.out.size))
  have X2 := bx (X1.out.below hb X1.out.lt)
  clear hb B1 X1
  go_wp2_with fail
  refine (RA1.out _).mono ?_; rintro e w3 ⟨rfl, hb⟩
  have B3 := bx (B2.out.trans (hb.mono B2.out.size))
  have X3 := bx (X2.out.below hb X2.out.lt)
  clear hb B2 X2
  go_wp2_with (first | ((with_reducible refine wpList_buildTo rfl 49 _ rfl [(2, .agg (ints .u8 r2).toArray), (3, .agg (ints .u8 r1).toArray), (1, .int .u64 1)] (bc b2) ?_ LB2.out ?_); rfl) | ((with_reducible refine wpList_buildTo rfl 51 _ rfl [(0, .agg (bc b2).toArray), (2, .int .i64 1)] (nc ⟨b2, 0, 1⟩) ?_ LN2.out ?_); rfl))
  refine (RA3.out _).mono ?_; rintro e w4 ⟨rfl, hb⟩
  have B4 := bx (B3.out.trans (hb.mono B3.out.size))
  have X4 := bx (X3.out.below hb X3.out.lt)
  clear hb B3 X3
  go_wp2_with fail
  refine (RA2.out _).mono ?_; rintro e w5 ⟨rfl, hb⟩
  have B5 := bx (B4.out.trans (hb.mono B4.out.size))
  have X5 := bx (X4.out.below hb X4.out.lt)
  clear hb B4 X4
  have KK : Bx (NOk [⟨b1, -1, 1⟩, ⟨b2, 0, 1⟩, ⟨b3, 1, 1⟩]) := ⟨fun x hx => by
    simp only [List.mem_cons, List.not_mem_nil, or_false] at hx
    rcases hx with rfl | rfl | rfl
    · exact K1.out
    · exact K2.out
    · exact K3.out⟩
  have EX := bx (ext_alloc w5 (.cells (nc ⟨b1, -1, 1⟩ ++ (nc ⟨b2, 0, 1⟩ ++ nc ⟨b3, 1, 1⟩)).toArray 51))
  have X6 := bx (X5.out.below EX.out X5.out.lt)
  have B6 := bx (B5.out.trans (EX.out.mono B5.out.size))
  have GL : Bx (w.heap.size < w5.heap.size) := ⟨X5.out.lt⟩
  have N6 : Bx (NRow (w5.alloc (.cells (nc ⟨b1, -1, 1⟩ ++ (nc ⟨b2, 0, 1⟩ ++ nc ⟨b3, 1, 1⟩)).toArray 51)) (some ⟨w5.heap.size, 0, none⟩) 3 [⟨b1, -1, 1⟩, ⟨b2, 0, 1⟩, ⟨b3, 1, 1⟩]) := ⟨rfl, KK.out, fun _ => ⟨_, [], rfl, (Has.new w5 _ _).cast' (by simp)⟩⟩
  clear EX X5 B5
  go_wp2_with (first | ((with_reducible refine wpList_buildTo rfl 49 _ rfl [(2, .agg (ints .u8 r3).toArray), (3, .agg (ints .u8 r2).toArray), (1, .int .u64 2)] (bc b3) ?_ LB3.out ?_); rfl) | ((with_reducible refine wpList_buildTo rfl 51 _ rfl [(0, .agg (bc b3).toArray), (1, .int .i64 1), (2, .int .i64 1)] (nc ⟨b3, 1, 1⟩) ?_ LN3.out ?_); rfl) | ((with_reducible refine Great.wpList_buildSliceTo rfl 23 51 3 _ rfl _ rfl _ rfl Try.underlying23 (nc ⟨b1, -1, 1⟩ ++ (nc ⟨b2, 0, 1⟩ ++ nc ⟨b3, 1, 1⟩)).toArray ?_ ?_); rw [Array.toList_map]; exact LS.out) | ((with_reducible refine wpList_storeB rfl 25 _ _ rfl _ [.slice (some ⟨w5.heap.size, 0, none⟩) 3 3] _ ?_ ?_ X6.out rfl Try.underlying25 ?_ (slice_one _ _ _) ?_); rfl; rfl; exact cells_tree _; intro w7 hw hg hz; have X7 := bx hw; have B7 := bx (B6.out.grown hg B6.out.size (fun k hk => by cases hk; exact Nat.le_refl _)); have N7 := bx (N6.out.grown hg (fun ad h => by cases h; exact ne_som (Nat.ne_of_gt GL.out))); clear hw hg hz))
  exact bodyPost_ret (results_cell (by rfl) _ (by rfl) X7.out Try.underlying25 rfl (cells_tree _)) rfl ⟨⟨_, _, rfl, N7.out, rfl⟩, B7.out⟩
set_option maxRecDepth 20000 in
set_option maxHeartbeats 1000000 in
theorem awake13_any (w : World) : Calls Try.prog 23 #[] w fun e w' => e = .returned (.bool true) ∧ Below w.heap.size w w' := by
  go_enter Try.func23, Try.ntmps23
  go_wp2_with fail
  refine (chain_any _).mono ?_; rintro e w1 ⟨⟨A, ns, rfl, hn, hu⟩, hb⟩
  have LK : Bx (Lk (Go.Proofs.Ytonkgjengplppaa.ups ns)) := ⟨by
    rw [hu]; intro i hi
    match i, hi with
    | 0, _ => exact .inl ⟨rfl, rfl⟩
    | 1, _ => exact .inr ⟨0, by omega, rfl⟩
    | 2, _ => exact .inr ⟨1, by omega, rfl⟩⟩
  have E124 : Bx (U64 [1, 2, 4]) := ⟨fun x hx => by simp at hx; omega⟩
  have EX := bx (ext_alloc w1 (.cells #[.int .u64 1, .int .u64 2, .int .u64 4] 35))
  have U1 : Bx (URow (w1.alloc (.cells #[.int .u64 1, .int .u64 2, .int .u64 4] 35)) (some ⟨w1.heap.size, 0, none⟩) 3 [1, 2, 4]) := ⟨rfl, fun _ => ⟨_, [], rfl, (Has.new w1 (ints .u64 [1, 2, 4]) _).cast' (by simp)⟩⟩
  have N1 := bx (hn.below EX.out)
  have B1 := bx (hb.trans (EX.out.mono hb.size))
  have HU := bx hu
  clear hn hu hb
  go_wp2_with fail
  refine (subtree_any _ _ 3 _ _ ns [1, 2, 4] E124.out LK.out (by omega) (by omega) _ N1.out U1.out).mono ?_
  rw [HU.out]
  rintro e w2 ⟨A2, c2, rfl, _, hu, hb⟩
  rw [show subR [-1, 0, 1] 3 [1, 2, 4] = [7, 6, 4] from rfl] at hu
  have EX2 := bx (ext_alloc w2 (.cells #[.int .u64 7, .int .u64 6, .int .u64 4] 35))
  have U2 := bx (hu.below EX2.out)
  have V2 : Bx (URow (w2.alloc (.cells #[.int .u64 7, .int .u64 6, .int .u64 4] 35)) (some ⟨w2.heap.size, 0, none⟩) 3 [7, 6, 4]) := ⟨rfl, fun _ => ⟨_, [], rfl, (Has.new w2 (ints .u64 [7, 6, 4]) _).cast' (by simp)⟩⟩
  have B2 := bx (B1.out.trans ((hb.trans (EX2.out.mono hb.size)).mono B1.out.size))
  clear hu hb EX EX2 B1 N1 U1
  go_wp2_with fail
  refine (sameNumbers_any _ _ _ 3 3 _ _ _ _ _ (Nat.le_refl _) U2.out.row V2.out.row (by omega) (by omega)).mono ?_
  rintro e w3 ⟨rfl, hb⟩
  have B3 := bx (B2.out.trans (hb.mono B2.out.size))
  rw [show decide (([7, 6, 4] : List Int) = [7, 6, 4]) = true from rfl]
  clear hb U2 V2 B2
  go_wp2_with fail
  have EG : Bx (GOk [1]) := ⟨fun x hx => by simp at hx; omega⟩
  have ES : Bx (SmB [5, 7, 9]) := ⟨fun x hx => by simp at hx; omega⟩
  have E1 := bx (ext_alloc w3 (.cells #[.int .i64 1] 3))
  have E2 := bx (E1.out.alloc E1.out.size (.cells #[.int .u64 5, .int .u64 7, .int .u64 9] 35))
  have G2 : Bx (GRow ((w3.alloc (.cells #[.int .i64 1] 3)).alloc (.cells #[.int .u64 5, .int .u64 7, .int .u64 9] 35)) (some ⟨w3.heap.size, 0, none⟩) 1 [1]) := ⟨rfl, fun _ => ⟨_, [], rfl, ((Has.new w3 (ints .i64 [1]) _).alloc _).cast' (by simp)⟩⟩
  have U3 : Bx (URow ((w3.alloc (.cells #[.int .i64 1] 3)).alloc (.cells #[.int .u64 5, .int .u64 7, .int .u64 9] 35)) (some ⟨w3.heap.size + 1, 0, none⟩) 3 [5, 7, 9]) := ⟨rfl, fun _ => ⟨_, [], rfl, (Has.new_at' (by simp) (ints .u64 [5, 7, 9]) _).cast' (by simp)⟩⟩
  refine (total_any none _ _ 0 0 1 1 3 3 [1] [5, 7, 9] EG.out (by omega) ES.out (by omega) _ G2.out U3.out).mono ?_
  rintro e w4 ⟨rfl, hb⟩
  have B4 := bx (B3.out.trans ((E2.out.trans (hb.mono E2.out.size)).mono B3.out.size))
  rw [show totV [1] [5, 7, 9] 3 = 14 from rfl]
  clear hb G2 U3 E1 E2 B3
  go_wp2_with fail
  go_ret
  exact ⟨rfl, B4.out⟩
end Go.Proofs.Ytonkgjengplppaa
