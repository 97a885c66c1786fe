/- The walk of RootsOrder. -/
import Derived.Test.YthfiiikanpagiaaRootsWalks
namespace Go.Proofs.Ythfiiikanpagiaa
open Go.RowKit

theorem rootsOrder_walk (a b c : List Int) (w : World) (la : a.length = 32) (ha : Fit .u8 a) (lb : b.length = 32) (hb : Fit .u8 b) (lc : c.length = 32) (hc : Fit .u8 c) :
    Calls Try.prog 3 #[.agg (ints .u8 a).toArray, .agg (ints .u8 b).toArray, .agg (ints .u8 c).toArray] w fun e w' => e = .returned (.bool true) ∧ Below w.heap.size w w' := by
  have hz := zroot_lit
  obtain ⟨W, hW⟩ : ∃ W, W = ((w.alloc (.cells (ints .u8 a).toArray 23)).alloc (.cells (ints .u8 b).toArray 23)).alloc (.cells (ints .u8 c).toArray 23) := ⟨_, rfl⟩
  have hsz : W.heap.size = w.heap.size + 3 := by subst hW; simp
  have k1 : Has W w.heap.size (ints .u8 a) := by subst hW; exact ((Has.new _ _ _).alloc _).alloc _
  have k2 : Has W (w.heap.size + 1) (ints .u8 b) := by subst hW; have := (Has.new (w.alloc (.cells (ints .u8 a).toArray 23)) (ints .u8 b) 23).alloc (.cells (ints .u8 c).toArray 23); simpa using this
  have k3 : Has W (w.heap.size + 2) (ints .u8 c) := by subst hW; have := Has.new ((w.alloc (.cells (ints .u8 a).toArray 23)).alloc (.cells (ints .u8 b).toArray 23)) (ints .u8 c) 23; simpa using this
  have hbW : Hid (Below w.heap.size w W) := by show Below _ _ _; subst hW; exact (((Below.refl _ _).alloc (Nat.le_refl _) _).alloc (by simp) _).alloc (by simp; omega) _
  have Ha := Lib.hid (fun (w1 : World) (h : Cls W.heap.size W w1) => k1.below h.out k1.lt)
  have Hb := Lib.hid (fun (w1 : World) (h : Cls W.heap.size W w1) => k2.below h.out k2.lt)
  have Hc := Lib.hid (fun (w1 : World) (h : Cls W.heap.size W w1) => k3.below h.out k3.lt)
  have hka : Hid (Try.prog.cellsOf 23 = (ints .u8 a).length) := by show _ = _; rw [ints, List.length_map, la]; kernel_rfl
  have hkb : Hid (Try.prog.cellsOf 23 = (ints .u8 b).length) := by show _ = _; rw [ints, List.length_map, lb]; kernel_rfl
  have hkc : Hid (Try.prog.cellsOf 23 = (ints .u8 c).length) := by show _ = _; rw [ints, List.length_map, lc]; kernel_rfl
  have C1 := Lib.hid (fun (w1 : World) (h : Cls W.heap.size W w1) => h.calls (Nat.le_refl _) (compare_any ha hb la lb w1))
  have C2 := Lib.hid (fun (w1 : World) (h : Cls W.heap.size W w1) => h.calls (Nat.le_refl _) (compare_any hb hc lb lc w1))
  have C3 := Lib.hid (fun (w1 : World) (h : Cls W.heap.size W w1) => h.calls (Nat.le_refl _) (compare_any ha hc la lc w1))
  have C4 := Lib.hid (fun (w1 : World) (h : Cls W.heap.size W w1) => h.calls (Nat.le_refl _) (compare_any hb ha lb la w1))
  have C5 := Lib.hid (fun (w1 : World) (h : Cls W.heap.size W w1) => h.calls (Nat.le_refl _) (ref_compareRoots ha hb la lb w1))
  have C6 := Lib.hid (fun (w1 : World) (h : Cls W.heap.size W w1) => h.calls (Nat.le_refl _) (isZero_any la w1))
  have C7 := Lib.hid (fun (w1 : World) (h : Cls W.heap.size W w1) => h.calls (Nat.le_refl _) (roots_awake w1))
  have q1 := fun w => root_same la lb w
  have q2 := fun w => root_same la (b := zroot) (by rfl) w
  have hneg : (cmpI b a == -cmpI a b) = true := by rw [cmpI_neg a b (by omega)]; simp
  have heq : ((cmpI a b == 0) == decide (a = b)) = true := by
    have := cmpI_zero a b (by omega)
    by_cases h : a = b <;> simp [h] at this ⊢ <;> simp [this]
  have htr : Hid (cmpI a b ≤ 0 → cmpI b c ≤ 0 → cmpI a c ≤ 0) := cmpI_trans a b c (by omega) (by omega)
  have r1 := cmpI_cases a b
  have r1a : -1 ≤ cmpI a b := by omega
  have r1b : cmpI a b ≤ 1 := by omega
  have HSZ := Lib.hid hsz
  have HWW := Lib.hid hW
  clear r1 hsz k1 k2 k3 hW
  go_enter Try.func3, Try.ntmps3
  go_wp2
  rw [← HWW.out]
  refine region_cls W.heap.size (by kernel_rfl) (by kernel_rfl) ?_
  repeat (first | go_big_quiet_skip | (go_big_quiet_want; first | ((with_reducible refine quiet_loadC 23 _ rfl _ _ ?_ Ha.out Try.underlying23 ?_ ?_ ?_); rfl; rfl; exact hka.out; go_big_quiet_on; (simp only [Act.put, List.setIfInBounds_toArray, List.set_cons_succ, List.set_cons_zero])) | ((with_reducible refine quiet_loadC 23 _ rfl _ _ ?_ Hb.out Try.underlying23 ?_ ?_ ?_); rfl; rfl; exact hkb.out; go_big_quiet_on; (simp only [Act.put, List.setIfInBounds_toArray, List.set_cons_succ, List.set_cons_zero])) | ((with_reducible refine quiet_loadC 23 _ rfl _ _ ?_ Hc.out Try.underlying23 ?_ ?_ ?_); rfl; rfl; exact hkc.out; go_big_quiet_on; (simp only [Act.put, List.setIfInBounds_toArray, List.set_cons_succ, List.set_cons_zero])) | (go_big_quiet_op; first | go_big_quiet_on | ((with_reducible refine ⟨_, fun _ _ => rfl, ?_⟩); go_big_quiet_on) | (apply Exists.intro; refine ⟨fun w1 hw1 => ?_, ?_⟩; (first | (go_at_call 9; first | (with_reducible exact C1.out w1 hw1) | (with_reducible exact C2.out w1 hw1) | (with_reducible exact C3.out w1 hw1) | (with_reducible exact C4.out w1 hw1)) | (go_at_call 10; (with_reducible exact C5.out w1 hw1)) | (go_at_call 11; (with_reducible exact C6.out w1 hw1)) | (go_at_call 12; (with_reducible exact C7.out w1 hw1))); go_big_quiet_on))))
  refine wpQuiet_nil ?_
  intro w1 hw1
  have HW1 := Lib.hid hw1
  clear hw1
  by_cases h1 : cmpI a b ≤ 0
  · by_cases h2 : cmpI b c ≤ 0
    · have h3 : cmpI a c ≤ 0 := htr.out h1 h2
      have h3d : decide (cmpI a c > 0) = false := decide_eq_false (by omega)
      go_wp2
      refine region_clsAt W.heap.size HW1.out (by kernel_rfl) (by kernel_rfl) ?_
      repeat (first | go_big_quiet_skip | (go_big_quiet_want; first | ((with_reducible refine quiet_loadC 23 _ rfl _ _ ?_ Ha.out Try.underlying23 ?_ ?_ ?_); rfl; rfl; exact hka.out; go_big_quiet_on; (simp only [Act.put, List.setIfInBounds_toArray, List.set_cons_succ, List.set_cons_zero])) | ((with_reducible refine quiet_loadC 23 _ rfl _ _ ?_ Hb.out Try.underlying23 ?_ ?_ ?_); rfl; rfl; exact hkb.out; go_big_quiet_on; (simp only [Act.put, List.setIfInBounds_toArray, List.set_cons_succ, List.set_cons_zero])) | ((with_reducible refine quiet_loadC 23 _ rfl _ _ ?_ Hc.out Try.underlying23 ?_ ?_ ?_); rfl; rfl; exact hkc.out; go_big_quiet_on; (simp only [Act.put, List.setIfInBounds_toArray, List.set_cons_succ, List.set_cons_zero])) | (go_big_quiet_op; first | go_big_quiet_on | ((with_reducible refine ⟨_, fun _ _ => rfl, ?_⟩); go_big_quiet_on) | (apply Exists.intro; refine ⟨fun w1 hw1 => ?_, ?_⟩; (first | (go_at_call 9; first | (with_reducible exact C1.out w1 hw1) | (with_reducible exact C2.out w1 hw1) | (with_reducible exact C3.out w1 hw1) | (with_reducible exact C4.out w1 hw1)) | (go_at_call 10; (with_reducible exact C5.out w1 hw1)) | (go_at_call 11; (with_reducible exact C6.out w1 hw1)) | (go_at_call 12; (with_reducible exact C7.out w1 hw1))); go_big_quiet_on))))
      refine wpQuiet_nil ?_
      intro w2 hw2
      have HW2 := Lib.hid hw2
      clear hw2
      go_wp2
      go_ret
      exact ⟨rfl, hbW.out.trans (HW2.out.out.mono hbW.out.size)⟩
    · have h2d : decide (cmpI b c ≤ 0) = false := decide_eq_false h2
      go_wp2
      refine region_clsAt W.heap.size HW1.out (by kernel_rfl) (by kernel_rfl) ?_
      repeat (first | go_big_quiet_skip | (go_big_quiet_want; first | ((with_reducible refine quiet_loadC 23 _ rfl _ _ ?_ Ha.out Try.underlying23 ?_ ?_ ?_); rfl; rfl; exact hka.out; go_big_quiet_on; (simp only [Act.put, List.setIfInBounds_toArray, List.set_cons_succ, List.set_cons_zero])) | ((with_reducible refine quiet_loadC 23 _ rfl _ _ ?_ Hb.out Try.underlying23 ?_ ?_ ?_); rfl; rfl; exact hkb.out; go_big_quiet_on; (simp only [Act.put, List.setIfInBounds_toArray, List.set_cons_succ, List.set_cons_zero])) | ((with_reducible refine quiet_loadC 23 _ rfl _ _ ?_ Hc.out Try.underlying23 ?_ ?_ ?_); rfl; rfl; exact hkc.out; go_big_quiet_on; (simp only [Act.put, List.setIfInBounds_toArray, List.set_cons_succ, List.set_cons_zero])) | (go_big_quiet_op; first | go_big_quiet_on | ((with_reducible refine ⟨_, fun _ _ => rfl, ?_⟩); go_big_quiet_on) | (apply Exists.intro; refine ⟨fun w1 hw1 => ?_, ?_⟩; (first | (go_at_call 9; first | (with_reducible exact C1.out w1 hw1) | (with_reducible exact C2.out w1 hw1) | (with_reducible exact C3.out w1 hw1) | (with_reducible exact C4.out w1 hw1)) | (go_at_call 10; (with_reducible exact C5.out w1 hw1)) | (go_at_call 11; (with_reducible exact C6.out w1 hw1)) | (go_at_call 12; (with_reducible exact C7.out w1 hw1))); go_big_quiet_on))))
      refine wpQuiet_nil ?_
      intro w2 hw2
      have HW2 := Lib.hid hw2
      clear hw2
      go_wp2
      go_ret
      exact ⟨rfl, hbW.out.trans (HW2.out.out.mono hbW.out.size)⟩
  · have h1d : decide (cmpI a b ≤ 0) = false := decide_eq_false h1
    · go_wp2
      refine region_clsAt W.heap.size HW1.out (by kernel_rfl) (by kernel_rfl) ?_
      repeat (first | go_big_quiet_skip | (go_big_quiet_want; first | ((with_reducible refine quiet_loadC 23 _ rfl _ _ ?_ Ha.out Try.underlying23 ?_ ?_ ?_); rfl; rfl; exact hka.out; go_big_quiet_on; (simp only [Act.put, List.setIfInBounds_toArray, List.set_cons_succ, List.set_cons_zero])) | ((with_reducible refine quiet_loadC 23 _ rfl _ _ ?_ Hb.out Try.underlying23 ?_ ?_ ?_); rfl; rfl; exact hkb.out; go_big_quiet_on; (simp only [Act.put, List.setIfInBounds_toArray, List.set_cons_succ, List.set_cons_zero])) | ((with_reducible refine quiet_loadC 23 _ rfl _ _ ?_ Hc.out Try.underlying23 ?_ ?_ ?_); rfl; rfl; exact hkc.out; go_big_quiet_on; (simp only [Act.put, List.setIfInBounds_toArray, List.set_cons_succ, List.set_cons_zero])) | (go_big_quiet_op; first | go_big_quiet_on | ((with_reducible refine ⟨_, fun _ _ => rfl, ?_⟩); go_big_quiet_on) | (apply Exists.intro; refine ⟨fun w1 hw1 => ?_, ?_⟩; (first | (go_at_call 9; first | (with_reducible exact C1.out w1 hw1) | (with_reducible exact C2.out w1 hw1) | (with_reducible exact C3.out w1 hw1) | (with_reducible exact C4.out w1 hw1)) | (go_at_call 10; (with_reducible exact C5.out w1 hw1)) | (go_at_call 11; (with_reducible exact C6.out w1 hw1)) | (go_at_call 12; (with_reducible exact C7.out w1 hw1))); go_big_quiet_on))))
      refine wpQuiet_nil ?_
      intro w2 hw2
      have HW2 := Lib.hid hw2
      clear hw2
      go_wp2
      go_ret
      exact ⟨rfl, hbW.out.trans (HW2.out.out.mono hbW.out.size)⟩
end Go.Proofs.Ythfiiikanpagiaa
