/- The sanity check of the laws on deltas. -/
import Derived.Test.YtonkgjengplppaaLit
import Derived.Test.YtonkgjengplppaaAppW
namespace Go.Proofs.Ytonkgjengplppaa
open Go.RowKit
theorem Has.cast {w : World} {g : Nat} {cs ds : List Value} (h : Has w g cs) (e : cs = ds) : Has w g ds := e ▸ h
theorem Has.new_at {w : World} {g : Nat} (hg : w.heap.size = g) (cs : List Value) (t : TypeId) : Has (w.alloc (.cells cs.toArray t)) g cs := hg ▸ Has.new w cs t
set_option maxRecDepth 20000 in
set_option maxHeartbeats 1000000 in
theorem awake14_any (w : World) : Calls Try.prog 32 #[] w fun e w' => e = .returned (.bool true) ∧ Below w.heap.size w w' := by
  have HR1 := bx (rootL_length 1)
  have HR2 := bx (rootL_length 2)
  have RA1 := bx (root_any 1)
  have RA2 := bx (root_any 2)
  generalize rootL 1 = r1 at *
  generalize rootL 2 = r2 at *
  have LB1 := bx (lit_r HR1.out)
  have LB2 := bx (lit_rps HR2.out HR1.out 1)
  have K1 := bx (mkB_ok (s := 0) HR1.out (show zroot.length = 32 from rfl) (show zroot.length = 32 from rfl))
  have K2 := bx (mkB_ok (s := 1) HR2.out HR1.out (show zroot.length = 32 from rfl))
  generalize mkB 0 r1 zroot zroot = b1 at *
  generalize mkB 1 r2 r1 zroot = b2 at *
  have LN1 := bx (lit_nu K1.out (-1))
  have LN2 := bx (lit_n0 K2.out)
  have LS := bx (built_slice2 (a := ⟨b1, -1, 0⟩) (b := ⟨b2, 0, 0⟩) K1.out K2.out)
  go_enter Try.func32, Try.ntmps32
  go_wp2_with fail
  refine (RA1.out _).mono ?_; rintro e w1 ⟨rfl, hb⟩
  have B1 := bx hb
  clear hb
  go_wp2_with (first | ((with_reducible refine wpList_buildTo rfl 49 _ rfl [(2, .agg (ints .u8 r1).toArray)] (bc b1) ?_ LB1.out ?_); rfl) | ((with_reducible refine wpList_buildTo rfl 51 _ rfl [(0, .agg (bc b1).toArray), (1, .int .i64 (-1))] (nc ⟨b1, -1, 0⟩) ?_ LN1.out ?_); rfl))
  refine (RA2.out _).mono ?_; rintro e w2 ⟨rfl, hb⟩
  have B2 := bx (B1.out.trans (hb.mono B1.out.size))
  clear hb B1
  go_wp2_with fail
  refine (RA1.out _).mono ?_; rintro e w3 ⟨rfl, hb⟩
  have B3 := bx (B2.out.trans (hb.mono B2.out.size))
  clear hb B2
  go_wp2_with (first | ((with_reducible refine wpList_buildTo rfl 49 _ rfl [(2, .agg (ints .u8 r2).toArray), (3, .agg (ints .u8 r1).toArray), (1, .int .u64 1)] (bc b2) ?_ LB2.out ?_); rfl) | ((with_reducible refine wpList_buildTo rfl 51 _ rfl [(0, .agg (bc b2).toArray)] (nc ⟨b2, 0, 0⟩) ?_ LN2.out ?_); rfl) | ((with_reducible refine Great.wpList_buildSliceTo rfl 23 51 2 _ rfl _ rfl _ rfl Try.underlying23 ([⟨b1, -1, 0⟩, ⟨b2, 0, 0⟩].flatMap nc).toArray ?_ ?_); rw [Array.toList_map]; exact LS.out))
  have KK : Bx (NOk [⟨b1, -1, 0⟩, ⟨b2, 0, 0⟩]) := ⟨fun x hx => by
    simp only [List.mem_cons, List.not_mem_nil, or_false] at hx
    rcases hx with rfl | rfl
    · exact K1.out
    · exact K2.out⟩
  generalize hW : (((World.alloc w3 _).alloc _).alloc _).alloc _ = w6
  have NR : Bx (NRow w6 (some ⟨w3.heap.size, 0, none⟩) 2 [⟨b1, -1, 0⟩, ⟨b2, 0, 0⟩]) := ⟨rfl, KK.out, fun _ => ⟨_, [], rfl, by
    rw [← hW]; exact ((((Has.new w3 _ _).alloc _).alloc _).alloc _).cast (by simp)⟩⟩
  have XT : Bx (Has w6 (w3.heap.size + 1) [.slice (some ⟨w3.heap.size, 0, none⟩) 2 2]) := ⟨by
    rw [← hW]; exact ((Has.new_at (alloc_size w3 _) [.slice (some ⟨w3.heap.size, 0, none⟩) 2 2] _).alloc _).alloc _⟩
  have U1 : Bx (URow w6 (some ⟨w3.heap.size + 1 + 1, 0, none⟩) 2 [5, 0]) := ⟨rfl, fun _ => ⟨_, [], rfl, by
    rw [← hW]; exact ((Has.new_at (by simp) (ints .u64 [5, 0]) _).alloc _).cast (by simp)⟩⟩
  have U2 : Bx (URow w6 (some ⟨w3.heap.size + 1 + 1 + 1, 0, none⟩) 2 [0, 5]) := ⟨rfl, fun _ => ⟨_, [], rfl, by
    rw [← hW]; exact (Has.new_at (by simp) (ints .u64 [0, 5]) _).cast (by simp)⟩⟩
  have B6 : Bx (Below w.heap.size w w6) := ⟨by
    rw [← hW]
    exact B3.out.trans (((((ext_alloc w3 _).alloc (by simp) _).alloc (by simp; omega) _).alloc (by simp; omega) _).mono B3.out.size)⟩
  have E50 : Bx (U64 [5, 0]) := ⟨fun x hx => by simp at hx; omega⟩
  have E05 : Bx (U64 [0, 5]) := ⟨fun x hx => by simp at hx; omega⟩
  have MV : Bx (mvs [5, 0] [0, 5] = [⟨0, 5⟩, ⟨5, 0⟩]) := ⟨rfl⟩
  generalize w3.heap.size = g at *
  clear hW B3 LB1 LB2 LN1 LN2 LS K1 K2 RA1 RA2 HR1 HR2
  refine (moves_any _ _ _ 2 _ _ _ [5, 0] [0, 5] E50.out E05.out (by omega) _ U1.out U2.out).mono ?_; rintro e w7 ⟨A7, c7, rfl, hd, hb⟩
  rw [MV.out] at hd
  have D7 := bx hd
  have XT7 := bx (XT.out.below hb XT.out.lt)
  have NR7 := bx (NR.out.below hb)
  have B7 := bx (B6.out.trans (hb.mono B6.out.size))
  clear hb hd XT NR U1 U2 B6
  go_wp2_with ((with_reducible refine wpList_loadG 25 _ rfl _ [.slice (some ⟨g, 0, none⟩) 2 2] ?_ ?_ XT7.out Try.underlying25 rfl ?_ ?_); rfl; rfl; exact cells_tree _)
  have BX := bx (ext_alloc w7 (.cells #[.int .u64 5, .int .u64 0] 35))
  have U3 : Bx (URow (w7.alloc (.cells #[.int .u64 5, .int .u64 0] 35)) (some ⟨w7.heap.size, 0, none⟩) 2 [5, 0]) := ⟨rfl, fun _ => ⟨_, [], rfl, (Has.new w7 (ints .u64 [5, 0]) _).cast (by simp)⟩⟩
  have DD : Bx (D64 [⟨0, 5⟩, ⟨5, 0⟩]) := ⟨fun x hx => by
    simp only [List.mem_cons, List.not_mem_nil, or_false] at hx
    rcases hx with rfl | rfl <;> decide⟩
  have HU : Bx (Ups [⟨b1, -1, 0⟩, ⟨b2, 0, 0⟩]) := ⟨fun i hi => by
    match i, hi with
    | 0, _ => exact .inl rfl
    | 1, _ => exact .inr ⟨0, by omega, rfl⟩⟩
  have RUN : Bx (runA (ups [⟨b1, -1, 0⟩, ⟨b2, 0, 0⟩]) 2 ⟨[⟨0, 5⟩, ⟨5, 0⟩], [5, 0]⟩ = some ⟨[⟨5, 5⟩, ⟨5, 0⟩], [5, 5]⟩) := ⟨rfl⟩
  refine (apply_any _ _ _ 2 _ _ _ _ [5, 0] [⟨0, 5⟩, ⟨5, 0⟩] E50.out DD.out HU.out (by omega) (by omega) _ (NR7.out.below BX.out) U3.out (D7.out.below BX.out)).mono ?_
  rintro e w8 ⟨hr, hb⟩
  have B8 := bx (B7.out.trans ((BX.out.trans (hb.mono BX.out.size)).mono B7.out.size))
  rw [RUN.out] at hr
  rcases hr with ⟨h0, _⟩ | ⟨x, A8, c8, h1, _, rfl, hu⟩
  · cases h0
  · cases h1
    have U8 := bx hu
    clear hu hb RUN HU DD U3 BX B7 D7 XT7 NR7 MV E50 E05 KK
    go_wp2_with fail
    have BX := bx (ext_alloc w8 (.cells #[.int .u64 5, .int .u64 5] 35))
    have U9 : Bx (URow (w8.alloc (.cells #[.int .u64 5, .int .u64 5] 35)) (some ⟨w8.heap.size, 0, none⟩) 2 [5, 5]) := ⟨rfl, fun _ => ⟨_, [], rfl, (Has.new w8 (ints .u64 [5, 5]) _).cast (by simp)⟩⟩
    refine (sameNumbers_any _ _ _ 2 2 _ _ _ _ _ (Nat.le_refl _) (U8.out.below BX.out).row U9.out.row (by omega) (by omega)).mono ?_
    rintro e w9 ⟨rfl, hb⟩
    have B9 := bx (B8.out.trans ((BX.out.trans (hb.mono BX.out.size)).mono B8.out.size))
    rw [show decide (([5, 5] : List Int) = [5, 5]) = true from rfl]
    clear hb U8 U9 BX B8
    go_wp2_with fail
    go_ret
    exact ⟨rfl, B9.out⟩
end Go.Proofs.Ytonkgjengplppaa
