/- Two lists of deltas are compared. -/
import Derived.Test.YtonkgjengplppaaDeltR
namespace Go.Proofs.Ytonkgjengplppaa
open Go.RowKit
theorem EqT.mono {P : Program} {m m' : Nat} {t : TypeId} {K : List Value} (h : EqT P m t K) (hm : m ≤ m') : EqT P m' t K := ⟨h.1, fun d hd => h.2 d (Nat.le_trans hm hd)⟩
theorem eqDl : EqT Try.prog 3 94 [.int .u64 0, .int .u64 0] := by
  refine EqT.struct Try.underlying94 (by kernel_rfl) (by kernel_rfl) (by kernel_rfl) ?_
  refine ⟨[.int .u64 0], _, rfl, by decide, rfl, (EqT.int Try.underlying35 (by kernel_rfl)).mono (by omega), ?_⟩
  exact ⟨[.int .u64 0], [], by simp, by decide, rfl, (EqT.int Try.underlying35 (by kernel_rfl)).mono (by omega), rfl⟩
theorem dc_inj {a b : Dl} : dc a = dc b ↔ a = b := by
  constructor
  · intro h
    cases a; cases b
    simpa [dc] using h
  · rintro rfl; rfl
theorem fits_dl (a : Dl) : Fits [.int .u64 0, .int .u64 0] (dc a) := ⟨rfl, rfl, trivial⟩
theorem dl_same (a b : Dl) (w : World) : (Op.equalIn 10000 94 (.agg (dc a).toArray) (.agg (dc b).toArray)).run Try.prog w = .ok (decide (a = b)) w :=
  eqDl.same (by omega) (agg_of_struct Try.underlying94) (size_of_underlying Try.underlying94) (fits_dl a) (fits_dl b) rfl rfl (by simp [dc_inj]) w
theorem cells_dl2 : Try.prog.cellsOf 94 = 2 := by kernel_rfl
theorem takeV_more {a b : List Dl} {k : Nat} (ha : k < a.length) (hb : k < b.length) (h : a.take k = b.take k) (he : a[k] = b[k]) : a.take (k + 1) = b.take (k + 1) := by
  rw [List.take_succ_eq_append_getElem ha, List.take_succ_eq_append_getElem hb, h, he]

set_option maxRecDepth 20000 in
set_option maxHeartbeats 800000 in
theorem sameDeltas_any (A A' : Option Addr) (n n' c c' : Nat) (a b : List Dl) (w : World) (ha : DRow w A n a) (hb : DRow w A' n' b) (hn : n ≤ 4096) (hn' : n' ≤ 4096) :
    Calls Try.prog 29 #[.slice A n c, .slice A' n' c'] w fun e w' => e = .returned (.bool (decide (a = b))) ∧ Below w.heap.size w w' := by
  have la := ha.1
  have lb := hb.1
  have HA := bx ha
  have HB := bx hb
  clear ha hb
  by_cases hnn : n = n'
  · subst hnn
    have LA := bx la
    have LB := bx lb
    clear la lb
    go_enter Try.func29, Try.ntmps29
    go_wp2
    go_loopw [5] (fun i wr => ∃ k : Nat, k ≤ n ∧ i = .int .i64 k ∧ a.take k = b.take k ∧ Below w.heap.size w wr) (fun i _ => n - (intOf i).toNat)
    case atStart => exact ⟨0, Nat.zero_le _, rfl, rfl, Below.refl _ _⟩
    case round =>
      obtain ⟨k, hk, rfl, htk, hbel⟩ := hrel
      have HTK := bx htk
      have HBEL := bx hbel
      clear htk hbel
      by_cases hkn : k < n
      · have hka : k < a.length := by rw [LA.out]; exact hkn
        have hkb : k < b.length := by rw [LB.out]; exact hkn
        obtain ⟨g1, p1, rfl, hg1⟩ := (HA.out.below HBEL.out).2 (by omega)
        obtain ⟨g2, p2, rfl, hg2⟩ := (HB.out.below HBEL.out).2 (by omega)
        have H1 := bx (fun (w1 : World) (h : Cls wr.heap.size wr w1) => hg1.below h.out hg1.lt)
        have H2 := bx (fun (w1 : World) (h : Cls wr.heap.size wr w1) => hg2.below h.out hg2.lt)
        clear hg1 hg2
        have hki : (k : Int) < (n : Int) := by omega
        have hk0 : 0 ≤ (k : Int) := by omega
        have HTM := bx (takeV_more hka hkb HTK.out)
        by_cases hxy : a[k] = b[k]
        · have hq : ∀ w : World, (Op.equalIn 10000 94 (.agg (dc a[k]).toArray) (.agg (dc b[k]).toArray)).run Try.prog w = .ok true w := fun w => by
            have := dl_same a[k] b[k] w
            rwa [decide_eq_true hxy] at this
          have HXY := bx hxy
          clear hxy
          go_wp2_with fail
          refine region_cls wr.heap.size (by kernel_rfl) (by kernel_rfl) ?_
          repeat (first | go_big_quiet_skip | (go_big_quiet_want; first | ((with_reducible refine quiet_loadP (f := dc) (k := 2) 94 _ rfl g1 a k ?_ p1 H1.out dcs_len hka Try.underlying94 ?_ ?_ ?_); rfl; rfl; exact cells_dl2; go_big_quiet_on; (simp only [Act.put, List.setIfInBounds_toArray, List.set_cons_succ, List.set_cons_zero])) | ((with_reducible refine quiet_loadP (f := dc) (k := 2) 94 _ rfl g2 b k ?_ p2 H2.out dcs_len hkb Try.underlying94 ?_ ?_ ?_); rfl; rfl; exact cells_dl2; go_big_quiet_on; (simp only [Act.put, List.setIfInBounds_toArray, List.set_cons_succ, List.set_cons_zero])) | (go_big_quiet_op; first | go_big_quiet_on | ((with_reducible refine ⟨_, fun _ _ => rfl, ?_⟩); go_big_quiet_on))))
          refine wpQuiet_nil ?_
          intro w4 hw4
          have HW4 := bx hw4
          clear hw4
          go_wp2_with fail
          go_roundw
          case rel => exact ⟨k + 1, by omega, by go_num, HTM.out HXY.out, HBEL.out.trans (HW4.out.out.mono HBEL.out.size)⟩
          case measure => simp [intOf]; omega
        · have hq : ∀ w : World, (Op.equalIn 10000 94 (.agg (dc a[k]).toArray) (.agg (dc b[k]).toArray)).run Try.prog w = .ok false w := fun w => by
            have := dl_same a[k] b[k] w
            rwa [decide_eq_false hxy] at this
          have HD : Bx (decide (a = b) = false) := ⟨decide_eq_false (fun h => hxy (by subst h; rfl))⟩
          clear hxy
          go_wp2_with fail
          refine region_cls wr.heap.size (by kernel_rfl) (by kernel_rfl) ?_
          repeat (first | go_big_quiet_skip | (go_big_quiet_want; first | ((with_reducible refine quiet_loadP (f := dc) (k := 2) 94 _ rfl g1 a k ?_ p1 H1.out dcs_len hka Try.underlying94 ?_ ?_ ?_); rfl; rfl; exact cells_dl2; go_big_quiet_on; (simp only [Act.put, List.setIfInBounds_toArray, List.set_cons_succ, List.set_cons_zero])) | ((with_reducible refine quiet_loadP (f := dc) (k := 2) 94 _ rfl g2 b k ?_ p2 H2.out dcs_len hkb Try.underlying94 ?_ ?_ ?_); rfl; rfl; exact cells_dl2; go_big_quiet_on; (simp only [Act.put, List.setIfInBounds_toArray, List.set_cons_succ, List.set_cons_zero])) | (go_big_quiet_op; first | go_big_quiet_on | ((with_reducible refine ⟨_, fun _ _ => rfl, ?_⟩); go_big_quiet_on))))
          refine wpQuiet_nil ?_
          intro w4 hw4
          have HW4 := bx hw4
          clear hw4
          go_wp2_with fail
          go_ret
          exact ⟨by rw [HD.out]; rfl, HBEL.out.trans (HW4.out.out.mono HBEL.out.size)⟩
      · have hkk : k = n := by omega
        subst hkk
        have he : a = b := by
          have h1 : a.take k = a := List.take_of_length_le (by rw [LA.out]; exact Nat.le_refl _)
          have h2 : b.take k = b := List.take_of_length_le (by rw [LB.out]; exact Nat.le_refl _)
          rw [← h1, ← h2]; exact HTK.out
        have HD : Bx (decide (a = b) = true) := ⟨decide_eq_true he⟩
        clear he
        go_wp2
        go_ret
        exact ⟨by rw [HD.out]; rfl, HBEL.out⟩
  · have hne : ¬ (n : Int) = (n' : Int) := by omega
    have hD : decide (a = b) = false := decide_eq_false (fun h => hnn (by rw [← la, ← lb, h]))
    have HD := bx hD
    have hne' : ((n : Int) != (n' : Int)) = true := by simp; omega
    clear la lb hD
    go_enter Try.func29, Try.ntmps29
    go_wp2
    go_ret
    exact ⟨by rw [HD.out]; rfl, Below.refl _ _⟩
end Go.Proofs.Ytonkgjengplppaa
