/- Votes: the sanity check. -/
import Derived.Test.YtfkimlmfgipfjaaCast
import Derived.Test.YtfkimlmfgipfjaaVoteEq
namespace Go.Proofs.Ytfkimlmfgipfjaa
open Go.RowKit

/-- a list that was just built -/
theorem row_new (w : World) (k : IntKind) (l : List Int) (t : TypeId) (n : Nat) (hn : l.length = n) : Row (w.alloc (.cells (ints k l).toArray t)) (w.alloc (.cells (ints k l).toArray t)).heap.size 1 (some ⟨w.heap.size, 0, none⟩) n (ints k l) :=
  ⟨by simp [ints, hn], fun j u hu => ⟨⟨w.heap.size, 0, none⟩, rfl, by simp, new_cells w (ints k l) t j u hu⟩⟩
theorem CastPost.below {ep : Int} {r : List Int} {vs : List Vt} {l : List Int} {g h B : Nat} {w w0 : World} {e : Ending} {w' : World} (h1 : CastPost ep r vs l g h w e w') (hb : Below B w0 w) (hh : B ≤ h) (hB : B ≤ w.heap.size) : Below B w0 w' :=
  hb.grown h1.2.2 hB (fun k hk => by cases hk; exact hh)
def v31 : Vt := (true, 3, rootL 1)
def v32 : Vt := (true, 3, rootL 2)
theorem aw1 : castN 3 (rootL 1) (List.replicate 3 zv) [0, 1] = 2 := by decide +kernel
theorem aw2 : castV 3 (rootL 1) (List.replicate 3 zv) [0, 1] = [v31, v31, zv] := by decide +kernel
theorem aw3 : vErr [0, 1] ((List.replicate 3 zv).length : Int) = 0 := by decide +kernel
theorem aw4 : castN 3 (rootL 2) [v31, v31, zv] [1, 2] = 1 := by decide +kernel
theorem aw5 : castV 3 (rootL 2) [v31, v31, zv] [1, 2] = [v31, v31, v32] := by decide +kernel
theorem aw6 : vErr [1, 2] (([v31, v31, zv] : List Vt).length : Int) = 0 := by decide +kernel

set_option maxRecDepth 20000 in
set_option maxHeartbeats 1000000 in
theorem votes_awake (w : World) : Calls Try.prog 11 #[] w fun e w' => e = .returned (.bool true) ∧ Below w.heap.size w w' := by
  have HN := Lib.hid (newTable_any 3 (by omega))
  have HR := Lib.hid root_any
  go_enter Try.func11, Try.ntmps11
  go_wp2_with fail
  refine (HN.out _).mono ?_; rintro e w1 ⟨rfl, ht1, hb1⟩
  have T1 := Lib.hid ht1
  have B1 := Lib.hid hb1
  clear ht1 hb1
  go_wp2_with fail
  refine (HR.out _ _).mono ?_; rintro e w2 ⟨rfl, hb2⟩
  have T2 := Lib.hid (T1.out.below hb2 T1.out.1.lt T1.out.2.1.lt)
  have B2 := Lib.hid (B1.out.trans (hb2.mono B1.out.size))
  clear hb2
  go_wp2_with fail
  have C1 := cast_any 3 (rootL 1) (rootL_length 1) (some ⟨w2.heap.size, 0, none⟩) 2 2 [0, 1] (w2.alloc (.cells (ints .i64 [0, 1]).toArray 3)) (T2.out.alloc _) (row_new w2 .i64 [0, 1] 3 2 rfl) (fun ad he => by injection he with he; subst he; exact Nat.ne_of_gt T2.out.2.1.lt) (by omega)
  refine C1.mono ?_; rintro e w3 hp
  have he : e = .returned (.tuple #[.int .i64 2, .int .i64 0]) := by rw [hp.1, aw1, aw3]; rfl
  have T3 : Hid (Tab w3 (w.heap.size + 1) w.heap.size [v31, v31, zv]) := by have := hp.2.1; rw [aw2] at this; exact this
  have B3 := Lib.hid (hp.below (B2.out.alloc B2.out.size _) (Nat.le_refl _) (by have := B2.out.size; simp; omega))
  clear hp C1
  subst he
  go_wp2_with fail
  refine (HR.out _ _).mono ?_; rintro e w4 ⟨rfl, hb4⟩
  have T4 := Lib.hid (T3.out.below hb4 T3.out.1.lt T3.out.2.1.lt)
  have B4 := Lib.hid (B3.out.trans (hb4.mono B3.out.size))
  clear hb4
  go_wp2_with fail
  have C1 := cast_any 3 (rootL 2) (rootL_length 2) (some ⟨w4.heap.size, 0, none⟩) 2 2 [1, 2] (w4.alloc (.cells (ints .i64 [1, 2]).toArray 3)) (T4.out.alloc _) (row_new w4 .i64 [1, 2] 3 2 rfl) (fun ad he => by injection he with he; subst he; exact Nat.ne_of_gt T4.out.2.1.lt) (by omega)
  refine C1.mono ?_; rintro e w5 hp
  have he : e = .returned (.tuple #[.int .i64 1, .int .i64 0]) := by rw [hp.1, aw4, aw6]; rfl
  have T5 : Hid (Tab w5 (w.heap.size + 1) w.heap.size [v31, v31, v32]) := by have := hp.2.1; rw [aw5] at this; exact this
  have B5 := Lib.hid (hp.below (B4.out.alloc B4.out.size _) (Nat.le_refl _) (by have := B4.out.size; simp; omega))
  clear hp C1
  subst he
  have hv1 : voteAt [v31, v31, v32] 1 = v31 := rfl
  have hv2 : voteAt [v31, v31, v32] 2 = v32 := rfl
  have hr1 : ∀ w : World, (Instr.field 35 (.agg (vc v31).toArray) 2).run Try.prog w = .ok (.agg (ints .u8 (rootL 1)).toArray) w := fun w => vote_field v31 (rootL_length 1) w
  have hr2 : ∀ w : World, (Instr.field 35 (.agg (vc v32).toArray) 2).run Try.prog w = .ok (.agg (ints .u8 (rootL 2)).toArray) w := fun w => vote_field v32 (rootL_length 2) w
  have hq1 : ∀ w : World, (Op.equalIn 10000 32 (.agg (ints .u8 (rootL 1)).toArray) (.agg (ints .u8 (rootL 1)).toArray)).run Try.prog w = .ok true w := fun w => by
    have := root_same (rootL_length 1) (rootL_length 1) w
    rwa [decide_eq_true rfl] at this
  have hq2 : ∀ w : World, (Op.equalIn 10000 32 (.agg (ints .u8 (rootL 2)).toArray) (.agg (ints .u8 (rootL 2)).toArray)).run Try.prog w = .ok true w := fun w => by
    have := root_same (rootL_length 2) (rootL_length 2) w
    rwa [decide_eq_true rfl] at this
  have V1 := Lib.hid (vote_any 1 w5 T5.out)
  rw [hv1] at V1
  clear hv1
  go_wp2_with fail
  refine V1.out.mono ?_; rintro e w6 ⟨rfl, hb6⟩
  have T6 := Lib.hid (T5.out.below hb6 T5.out.1.lt T5.out.2.1.lt)
  have B6 := Lib.hid (B5.out.trans (hb6.mono B5.out.size))
  clear hb6
  go_wp2_with fail
  refine (HR.out _ _).mono ?_; rintro e w7 ⟨rfl, hb7⟩
  have T7 := Lib.hid (T6.out.below hb7 T6.out.1.lt T6.out.2.1.lt)
  have B7 := Lib.hid (B6.out.trans (hb7.mono B6.out.size))
  clear hb7
  have V2 := Lib.hid (vote_any 2 w7 T7.out)
  rw [hv2] at V2
  clear hv2
  go_wp2_with fail
  refine V2.out.mono ?_; rintro e w8 ⟨rfl, hb8⟩
  have B8 := Lib.hid (B7.out.trans (hb8.mono B7.out.size))
  clear hb8
  go_wp2_with fail
  refine (HR.out _ _).mono ?_; rintro e w9 ⟨rfl, hb9⟩
  have B9 := Lib.hid (B8.out.trans (hb9.mono B8.out.size))
  clear hb9
  go_wp2_with fail
  go_ret
  exact ⟨rfl, B9.out⟩
end Go.Proofs.Ytfkimlmfgipfjaa
