/- Votes: a table in memory; a small root, a new table, a vote. -/
import Derived.Test.YtekikfdlnkcenaaRootEq
import Derived.Test.YtekikfdlnkcenaaMid
namespace Go.Proofs.Ytekikfdlnkcenaa
open Go.RowKit

/-- the root of a number -/
def rootL (n : Int) : List Int := ((zroot.set 0 (n % 256)).set 1 (n / 256 % 256)).set 31 (wrap64 (n * 7) % 256)
theorem rootL_length (n : Int) : (rootL n).length = 32 := by simp [rootL, zroot]
theorem one_ints (k : IntKind) (l : List Int) : ∀ u ∈ ints k l, u.oneCell' = true := fun u hu => by
  obtain ⟨x, _, rfl⟩ := List.mem_map.1 hu
  rfl

theorem cells_root {l : List Int} (h : l.length = 32) : Try.prog.cellsOf 33 = (ints .u8 l).length := by rw [ints, List.length_map, h]; kernel_rfl
theorem zroot_len {l : List Int} (h : l.length = 32) : (ints .u8 zroot).length = (ints .u8 l).length := by rw [ints, ints, List.length_map, List.length_map, h]; rfl
theorem root_any (n : Int) (w : World) :
    Calls Try.prog 56 #[.int .i64 n] w fun e w' => e = .returned (.agg (ints .u8 (rootL n)).toArray) ∧ Below w.heap.size w w' := by
  have hz := zroot_lit
  have hr : (((ints .u8 zroot).set 0 (.int .u8 (n % 256))).set 1 (.int .u8 (n / 256 % 256))).set 31 (.int .u8 (wrap64 (n * 7) % 256)) = ints .u8 (rootL n) := by
    rw [rootL, ints, ints, List.map_set, List.map_set, List.map_set]
  have hl := rootL_length n
  generalize rootL n = R at *
  have HZ := Lib.hid (Has.new w (ints .u8 zroot) 33)
  have HL := Lib.hid hl
  have HRR := Lib.hid hr
  clear hl hr
  go_enter Try.func56, Try.ntmps56
  go_wp2_with ((with_reducible refine wpList_storeB rfl 33 _ _ rfl _ (ints .u8 R) _ ?_ ?_ HZ.out ?_ Try.underlying33 ?_ (one_ints _ _) ?_); rfl; (rw [← HRR.out]; rfl); exact zroot_len HL.out; exact cells_root HL.out; intro w1 hw1 hg1 hz1; have HR := Lib.hid hw1; have HB := Lib.hid (((Below.refl w.heap.size w).alloc (Nat.le_refl _) _).grown hg1 (by simp) (fun k hk => by cases hk; exact Nat.le_refl _)); clear hw1 hg1 hz1)
  exact bodyPost_ret (results_cell (by rfl) _ (by rfl) HR.out Try.underlying33 rfl (cells_root HL.out)) rfl ⟨rfl, HB.out⟩

/-- a vote: is there one, its epoch, its root -/
abbrev Vt := Bool × Int × List Int
def vc (v : Vt) : List Value := .bool v.1 :: .int .u64 v.2.1 :: ints .u8 v.2.2
def VL (vs : List Vt) : Prop := ∀ v ∈ vs, v.2.2.length = 32
def zv : Vt := (false, 0, zroot)
theorem vc_len {v : Vt} (h : v.2.2.length = 32) : (vc v).length = 34 := by simp [vc, ints, h]
theorem VL.len {vs : List Vt} (h : VL vs) : ∀ v ∈ vs, (vc v).length = 34 := fun v hv => vc_len (h v hv)
theorem vc_one (v : Vt) : ∀ u ∈ vc v, u.oneCell' = true := fun u hu => by
  simp only [vc, List.mem_cons] at hu
  rcases hu with rfl | rfl | hu
  · rfl
  · rfl
  · exact one_ints _ _ u hu
/-- a table of votes in memory: its variable is block g, its votes are block h -/
def Tab (w : World) (g h : Nat) (vs : List Vt) : Prop := Has w g [.slice (some ⟨h, 0, none⟩) vs.length vs.length] ∧ Has w h (vs.flatMap vc) ∧ VL vs ∧ g ≠ h
theorem Tab.below {B : Nat} {w w' : World} {g h : Nat} {vs : List Vt} (t : Tab w g h vs) (hb : Below B w w') (hg : g < B) (hh : h < B) : Tab w' g h vs := ⟨t.1.below hb hg, t.2.1.below hb hh, t.2.2⟩
theorem Tab.alloc {w : World} {g h : Nat} {vs : List Vt} (t : Tab w g h vs) (o : Obj) : Tab (w.alloc o) g h vs := ⟨t.1.alloc o, t.2.1.alloc o, t.2.2⟩
theorem Tab.drew {w : World} {g h : Nat} {vs : List Vt} (t : Tab w g h vs) : Tab w.drew g h vs := t

theorem info_vote : (Try.prog.info? 170).map (fun i => (i.zero, i.size, i.bytes)) = some (some (.agg (vc zv).toArray), 34, 48) := by kernel_rfl
theorem newTable_any (n : Nat) (hn : n ≤ 1024) (w : World) :
    Calls Try.prog 93 #[.int .i64 n] w fun e w' => e = .returned (.tuple #[.pointer (some ⟨w.heap.size + 1, 0, none⟩), .int .i64 0]) ∧ Tab w' (w.heap.size + 1) w.heap.size (List.replicate n zv) ∧ Below w.heap.size w w' := by
  have h1 : ¬ (n : Int) < 0 := by omega
  have h2 : ¬ (n : Int) > 1024 := by omega
  obtain ⟨i0, hi0, hz0, hz1, hz2⟩ := info_parts info_vote
  have hmk := run_make (P := Try.prog) w 66 170 i0 _ Try.underlying66 hi0 hz0 .i64 .i64 n n (by omega) (Int.le_refl _) (by rw [hz2]; omega) (by omega)
  rw [hz1, Int.toNat_natCast, made_flat vc zv (Value.agg (vc zv).toArray).cells (by simp [Value.cells]) (k := 34) (by rfl) (by omega) n] at hmk
  have HV : VL (List.replicate n zv) := fun v hv => by rw [List.eq_of_mem_replicate hv]; rfl
  have HL : (List.replicate n zv).length = n := List.length_replicate
  generalize (List.replicate n zv) = vs at *
  have HL' := Lib.hid HL
  have HVV := Lib.hid HV
  have hi0' := Lib.hid hi0
  clear hz0 hz1 hz2 hi0 HV HL
  go_enter Try.func93, Try.ntmps93
  go_wp2
  go_ret2
  refine ⟨rfl, ⟨?_, (Has.new w (vs.flatMap vc) 170).alloc _, HVV.out, by omega⟩, ((Below.refl _ _).alloc (Nat.le_refl _) _).alloc (by simp) _⟩
  have := Has.new (w.alloc (.cells (vs.flatMap vc).toArray 170)) [.slice (some ⟨w.heap.size, 0, none⟩) n n] 168
  rw [HL'.out]
  simpa using this

theorem newTable_bad (n : Int) (hn : n < 0 ∨ 1024 < n) (w : World) :
    Calls Try.prog 93 #[.int .i64 n] w fun e w' => e = .returned (.tuple #[.pointer none, .int .i64 3]) ∧ Below w.heap.size w w' := by
  by_cases h1 : n < 0
  · go_enter Try.func93, Try.ntmps93
    go_wp2
    go_ret2
    exact ⟨rfl, Below.refl _ _⟩
  · have h2 : n > 1024 := by omega
    clear hn
    go_enter Try.func93, Try.ntmps93
    go_wp2
    go_ret2
    exact ⟨rfl, Below.refl _ _⟩

/-- the vote of a validator -/
def voteAt (vs : List Vt) (i : Int) : Vt := if 0 ≤ i then vs.getD i.toNat zv else zv
theorem zv_lit : #[Value.bool false, Value.int .u64 0, Value.int .u8 0, Value.int .u8 0, Value.int .u8 0, Value.int .u8 0, Value.int .u8 0, Value.int .u8 0, Value.int .u8 0, Value.int .u8 0, Value.int .u8 0, Value.int .u8 0, Value.int .u8 0, Value.int .u8 0, Value.int .u8 0, Value.int .u8 0, Value.int .u8 0, Value.int .u8 0, Value.int .u8 0, Value.int .u8 0, Value.int .u8 0, Value.int .u8 0, Value.int .u8 0, Value.int .u8 0, Value.int .u8 0, Value.int .u8 0, Value.int .u8 0, Value.int .u8 0, Value.int .u8 0, Value.int .u8 0, Value.int .u8 0, Value.int .u8 0, Value.int .u8 0, Value.int .u8 0] = (vc zv).toArray := rfl
theorem cells_vote {v : Vt} (h : v.2.2.length = 32) : Try.prog.cellsOf 170 = (vc v).length := by rw [vc_len h]; kernel_rfl
theorem cells_vote' : Try.prog.cellsOf 170 = 34 := by kernel_rfl
theorem vote_fold (ep : Int) {r : List Int} (lr : r.length = 32) : List.foldl (fun (cs : Array Value) x => cs.setIfInBounds (2 + x.snd) x.fst) (((vc zv).set 0 (Value.bool true)).set 1 (Value.int IntKind.u64 ep)).toArray (ints IntKind.u8 r).zipIdx = (vc (true, ep, r)).toArray := by
  have := fold_set 2 (ints .u8 r) (ints .u8 zroot) [.bool true, .int .u64 ep] [] 0 (by simp [ints, lr, zroot]) rfl
  have e1 : ((vc zv).set 0 (Value.bool true)).set 1 (Value.int IntKind.u64 ep) = [.bool true, .int .u64 ep] ++ ints .u8 zroot ++ [] := rfl
  have e2 : [Value.bool true, .int .u64 ep] ++ ints .u8 r ++ [] = vc (true, ep, r) := by simp [vc]
  rw [e1, this, e2]
theorem vote_zero_len : (vc zv).length = 34 := rfl
theorem vote_zero_ne : ¬ vc zv = [] := by intro h; cases h
end Go.Proofs.Ytekikfdlnkcenaa
