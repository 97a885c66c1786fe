/- BalancesTables, walked. -/
import Derived.Test.YtfkimlmfgipfjaaAw7
namespace Go.Proofs.Ytfkimlmfgipfjaa
open Go.RowKit Go.Maps
set_option maxRecDepth 20000 in
set_option maxHeartbeats 1000000 in
theorem balancesTables_walk (c : Ck) (A : Option Addr) (n cap : Nat) (l : List Int) (v : Int) (w : World) (hc : c.2.length = 32) (hl : Fit .u64 l) (hn : l.length = n) (hr : Row w w.heap.size 1 A n (ints .u64 l)) (hnc : n ≤ cap) (hcm : cap ≤ maxLen) (_ : (Lit.int .i64 v).wf = true) :
    Calls Try.prog 7 #[.agg (tbc c (.slice A n cap)).toArray, .int .i64 v] w fun e w' => e = .returned (.bool true) ∧ Below w.heap.size w w' := by
  have HC := bx hc
  have UL : Bx (U64 l) := ⟨fun x hx => by have := u64_of_wf (hl x hx); omega⟩
  have XB := bx (Has.new w (tbc c (.slice A n cap)) 55)
  have hcs : (w.alloc (.cells (tbc c (.slice A n cap)).toArray 55)).cell? ⟨w.heap.size, 33, none⟩ = some (.slice A n cap) := (XB.out.cell 33).trans (tbc_slice hc _)
  have EB := bx (ext_alloc w (.cells (tbc c (.slice A n cap)).toArray 55))
  have HR := bx hr
  clear hr hl hc
  go_enter Try.func7, Try.ntmps7
  by_cases hb : 300 < n
  · have hbi : (300 : Int) < (n : Int) := by omega
    go_wp2_with fail
    refine (awake7_any _).mono ?_; rintro e w11 ⟨rfl, hb⟩
    have B11 := bx (EB.out.trans (hb.mono EB.out.size))
    clear hb
    go_wp2_with fail
    go_ret
    exact ⟨rfl, B11.out⟩
  · have hbi : ¬ (300 : Int) < (n : Int) := by omega
    have X1 : Bx (Has (w.alloc (.cells (tbc c (.slice A n cap)).toArray 55)).drew w.heap.size (tbc c (.slice A n cap))) := ⟨XB.out⟩
    have E1 : Bx (Below w.heap.size w (w.alloc (.cells (tbc c (.slice A n cap)).toArray 55)).drew) := ⟨EB.out.drew⟩
    have CT := bx (Has.cls X1.out)
    have VA := bx (fun w' (hb : Below w.heap.size w w') => validate_any w.heap.size c HC.out A n cap v l w' hb.size (HR.out.below hb) UL.out (by omega))
    have RV := bx (fun w' (hb : Below w.heap.size w w') => refValidate_any w.heap.size c HC.out A n cap v l w' hb.size (HR.out.below hb) UL.out (by omega))
    generalize valE l n v = V at *
    go_wp2_with fail
    refine wp_region_mix3 10 (.steps [(0, 0), (0, 1), (0, 3), (0, 4), (2, 2), (2, 5), (1, 6), (1, 7), (2, 8), (1, 9)] .leaf) (by kernel_rfl) (by kernel_rfl) ?_
    simp only [MixT, MT.steps, stepAt, List.getD_cons_zero, List.getD_cons_succ, List.drop_succ_cons, List.drop_zero]
    repeat (first | (with_reducible refine wpQuiet_nil ?_) | (first | go_big_quiet_skip | (go_big_quiet_want; first | ((with_reducible refine quiet_loadC 55 _ rfl _ (tbc c (.slice A n cap)) ?_ CT.out Try.underlying55 rfl ?_ ?_); rfl; exact cells_tb HC.out _; go_big_quiet_on; (simp only [Act.put, List.setIfInBounds_toArray, List.set_cons_succ, List.set_cons_zero])) | (go_big_quiet_op; first | go_big_quiet_on | ((with_reducible refine ⟨_, fun _ _ => rfl, ?_⟩); go_big_quiet_on)))))
    refine mix_call (VA.out _ E1.out) Try.func25 rfl rfl _ _ rfl rfl rfl ?_
    rintro e w2 ⟨rfl, hb2⟩
    refine ⟨_, rfl, hb2, ?_⟩
    have E2 := bx (E1.out.trans (hb2.mono E1.out.size))
    clear hb2
    refine mix_call (RV.out _ E2.out) Try.func26 rfl rfl _ _ rfl rfl rfl ?_
    rintro e w3 ⟨rfl, hb3⟩
    refine ⟨_, rfl, hb3, ?_⟩
    have E3 := bx (E2.out.trans (hb3.mono E2.out.size))
    clear hb3
    simp only [Act.put, List.setIfInBounds_toArray, List.set_cons_succ, List.set_cons_zero]
    repeat (first | (with_reducible refine wpQuiet_nil ?_) | (first | go_big_quiet_skip | (go_big_quiet_want; first | fail | (go_big_quiet_op; first | go_big_quiet_on | ((with_reducible refine ⟨_, fun _ _ => rfl, ?_⟩); go_big_quiet_on)))))
    refine mix_call (awake7_any _) Try.func24 rfl rfl _ _ rfl rfl rfl ?_
    rintro e w4 ⟨rfl, hb4⟩
    refine ⟨_, rfl, hb4, ?_⟩
    have E4 := bx (E3.out.trans (hb4.mono E3.out.size))
    clear hb4
    simp only [Act.put, List.setIfInBounds_toArray, List.set_cons_succ, List.set_cons_zero]
    repeat (first | (with_reducible refine wpQuiet_nil ?_) | (first | go_big_quiet_skip | (go_big_quiet_want; first | fail | (go_big_quiet_op; first | go_big_quiet_on | ((with_reducible refine ⟨_, fun _ _ => rfl, ?_⟩); go_big_quiet_on)))))
    go_wp2_with fail
    refine NoPanic.normal ?_
    go_wp2_with fail
    go_ret
    exact ⟨rfl, E4.out⟩
end Go.Proofs.Ytfkimlmfgipfjaa
