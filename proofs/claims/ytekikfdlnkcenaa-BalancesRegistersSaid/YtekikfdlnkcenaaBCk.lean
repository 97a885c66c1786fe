/- The laws' checkpoints. -/
import Derived.Test.YtekikfdlnkcenaaBkN
import Derived.Test.YtekikfdlnkcenaaAw7
import Derived.Test.YtekikfdlnkcenaaMasks
namespace Go.Proofs.Ytekikfdlnkcenaa
open Go.RowKit Go.Maps
theorem rootL_btA (n : Int) : ∀ x ∈ rootL n, 0 ≤ x ∧ x < 256 := fun x hx => by
  unfold rootL at hx
  rcases List.mem_or_eq_of_mem_set hx with hx | rfl
  · rcases List.mem_or_eq_of_mem_set hx with hx | rfl
    · rcases List.mem_or_eq_of_mem_set hx with hx | rfl
      · have := List.eq_of_mem_replicate (show x ∈ List.replicate 32 0 from hx)
        omega
      · omega
    · omega
  · omega
def rootR (n : Int) : Rt := ⟨rootL n, by simp [rootL, zroot], rootL_btA n⟩
theorem rootR_any (n : Int) (w : World) : Calls Try.prog 56 #[.int .i64 n] w fun e w' => e = .returned (.agg (rc (rootR n)).toArray) ∧ Below w.heap.size w w' := root_any n w
theorem built_cp (e : U) (r : Rt) : Try.prog.built 35 [(0, .int .u64 (e.n : Int)), (1, .agg (rc r).toArray)] = some (fl (cpP ⟨e, r⟩)).toArray := built_ck _ r.len
set_option maxRecDepth 20000 in
set_option maxHeartbeats 1000000 in
theorem checkpoint_any (k : Int) (w : World) : Calls Try.prog 36 #[.int .i64 k] w fun e w' => ∃ c : Cp, e = .returned (.agg (fl (cpP c)).toArray) ∧ Below w.heap.size w w' := by
  have M := bx (MM.start (ok_g0 w))
  have h3 : bits .and .i64 k 3 = k % 4 := and_ones k 2 (by decide)
  have h0 : 0 ≤ k % 4 := by omega
  have h4 : k % 4 < 4 := by omega
  obtain ⟨m, hm⟩ : ∃ m : Nat, k % 4 = (m : Int) := ⟨(k % 4).toNat, by omega⟩
  rw [hm] at h3 h0 h4
  have HM : Bx (m < 18446744073709551616) := ⟨by omega⟩
  have LC := bx (fun r => built_cp ⟨m, HM.out⟩ r)
  clear hm
  go_enter Try.func36, Try.ntmps36
  go_wp2_with ((with_reducible apply wpList_alc M.out); rfl; rfl; exact ztCk; intro w' g M' hb'; (clear M; have M := bx M'; clear M'); clear hb')
  refine (rootR_any _ _).mono ?_; rintro e w1 ⟨rfl, hb⟩
  have M' := M.out.below hb
  (clear M; have M := bx M'; clear M')
  clear hb
  generalize rootR _ = r
  go_wp2_with (first | ((with_reducible refine wpList_buildTo rfl 35 _ rfl [(0, .int .u64 (m : Int)), (1, .agg (rc r).toArray)] (fl (cpP ⟨⟨m, HM.out⟩, r⟩)) ?_ (LC.out r) ?_); rfl) | ((with_reducible apply wpList_sts M.out 0 (cpP ⟨⟨m, HM.out⟩, r⟩) (cpP ⟨⟨m, HM.out⟩, r⟩)); rfl; rfl; rfl; rfl; rfl; (first | exact rtRoot | exact rtCk | exact rtTb); rfl; exact cpP_len _; exact cp_one _; rfl; intro w' M' hg'; (simp only [List.set_cons_zero, List.set_cons_succ] at M'); (clear M; have M := bx M'; clear M'); clear hg'))
  exact bodyPost_ret (results_L (by rfl) _ M.out.at0 (by rfl) rtCk rfl) rfl ⟨_, rfl, M.out.ext.bel⟩
end Go.Proofs.Ytekikfdlnkcenaa
