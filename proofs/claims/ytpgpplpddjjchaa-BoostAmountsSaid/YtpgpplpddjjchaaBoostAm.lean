/- The walk of BoostAmounts. -/
import Derived.Test.YtpgpplpddjjchaaBoostA
namespace Go.Proofs.Ytpgpplpddjjchaa
open Go.RowKit

def confL (a b : Int) : List Value := [.int .i64 0, .int .i64 0, .int .i64 0, .int .i64 0, .int .i64 0, .int .u64 0, .int .u64 a, .int .u64 b, .int .u64 0, .int .u64 0, .int .u64 0, .int .u64 0] ++ List.replicate 32 (.int .u8 0) ++ [.slice none 0 0]
theorem conf_lit (a b : Int) : (#[.int .i64 0, .int .i64 0, .int .i64 0, .int .i64 0, .int .i64 0, .int .u64 0, .int .u64 a, .int .u64 b, .int .u64 0, .int .u64 0, .int .u64 0, .int .u64 0, .int .u8 0, .int .u8 0, .int .u8 0, .int .u8 0, .int .u8 0, .int .u8 0, .int .u8 0, .int .u8 0, .int .u8 0, .int .u8 0, .int .u8 0, .int .u8 0, .int .u8 0, .int .u8 0, .int .u8 0, .int .u8 0, .int .u8 0, .int .u8 0, .int .u8 0, .int .u8 0, .int .u8 0, .int .u8 0, .int .u8 0, .int .u8 0, .int .u8 0, .int .u8 0, .int .u8 0, .int .u8 0, .int .u8 0, .int .u8 0, .int .u8 0, .int .u8 0, .slice none 0 0] : Array Value) = (confL a b).toArray := rfl
theorem conf_one (a b : Int) : ∀ u ∈ confL a b, u.oneCell' = true := by
  intro u hu
  simp only [confL, List.mem_append, List.mem_cons, List.mem_replicate, List.mem_nil_iff] at hu
  rcases hu with (hu | hu) | hu
  · repeat' (first | (rcases hu with rfl | hu) | cases hu)
    all_goals rfl
  · rw [hu.2]; rfl
  · rcases hu with rfl | hu
    · rfl
    · cases hu
theorem conf_len (a b : Int) : (confL a b).length = 45 := rfl
theorem cells_conf (a b : Int) : Try.prog.cellsOf 40 = (confL a b).length := by
  rw [conf_len]; kernel_rfl
set_option maxRecDepth 20000 in
set_option maxHeartbeats 1000000 in
theorem boostAmounts_walk (s p t : Int) (w : World) (ws : (Lit.int .u64 s).wf = true) (wp : (Lit.int .u64 p).wf = true) (wt : (Lit.int .u64 t).wf = true) :
    Calls Try.prog 5 #[.int .u64 s, .int .u64 p, .int .u64 t] w fun e w' => e = .returned (.bool true) ∧ Below w.heap.size w w' := by
  obtain ⟨s0, s1⟩ := u64_of_wf ws
  obtain ⟨p0, p1⟩ := u64_of_wf wp
  obtain ⟨t0, t1⟩ := u64_of_wf wt
  clear ws wp wt
  have hl := conf_lit s p
  have hz := conf_lit 0 0
  have HZ := Lib.hid (Has.new w (confL 0 0) 40)
  have HO := Lib.hid (conf_one s p)
  go_enter Try.func5, Try.ntmps5
  go_wp2_with (first | ((with_reducible refine wpList_storeB rfl 40 _ _ rfl _ (confL s p) _ ?_ ?_ HZ.out rfl Try.underlying40 ?_ HO.out ?_); rfl; rfl; exact cells_conf s p; intro w1 hw1 hg1 hz1; have C1 := Lib.hid hw1; have B1 := Lib.hid (((Below.refl w.heap.size w).alloc (Nat.le_refl _) _).grown hg1 (by simp) (fun k hk => by cases hk; exact Nat.le_refl _)); clear hw1 hg1 hz1) | ((with_reducible refine wpList_loadB rfl 40 _ rfl _ (confL s p) ?_ C1.out Try.underlying40 rfl ?_ ?_); rfl; exact cells_conf s p))
  refine (amount_any (confL s p) s p t _ rfl rfl s0 s1 p0 p1 t0 t1).mono ?_; rintro e w2 ⟨rfl, hb2⟩
  have C2 := Lib.hid (C1.out.below hb2 C1.out.lt)
  have B2 := Lib.hid (B1.out.trans (hb2.mono B1.out.size))
  clear hb2
  go_wp2_with ((with_reducible refine wpList_loadB rfl 40 _ rfl _ (confL s p) ?_ C2.out Try.underlying40 rfl ?_ ?_); rfl; exact cells_conf s p)
  refine (refAmount_any (confL s p) s p t _ rfl rfl s0 s1 p0 p1 t0 t1).mono ?_; rintro e w3 ⟨rfl, hb3⟩
  have B3 := Lib.hid (B2.out.trans (hb3.mono B2.out.size))
  clear hb3
  go_wp2_with fail
  refine (boost_awake _).mono ?_; rintro e w4 ⟨rfl, hb4⟩
  have B4 := Lib.hid (B3.out.trans (hb4.mono B3.out.size))
  clear hb4
  go_wp2_with fail
  go_ret
  exact ⟨rfl, B4.out⟩
end Go.Proofs.Ytpgpplpddjjchaa
