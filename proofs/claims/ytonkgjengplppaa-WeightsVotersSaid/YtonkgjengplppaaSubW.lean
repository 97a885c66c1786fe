/- weights.Subtree, walked. -/
import Derived.Test.YtonkgjengplppaaAncD
import Derived.Test.YtonkgjengplppaaAppW
namespace Go.Proofs.Ytonkgjengplppaa
open Go.RowKit
/-- the program's subtree weights: the nodes below k, except the root, are added to their parents -/
def subR (us : List Int) : Nat → List Int → List Int
  | 0, o => o
  | k + 1, o => if k = 0 then o else subR us k (o.set (us.getD k 0).toNat ((o.getD (us.getD k 0).toNat 0 + o.getD k 0) % 18446744073709551616))
theorem subR_one (us o : List Int) : subR us 1 o = o := rfl
theorem subR_next {us o : List Int} {i u : Nat} (hi : 0 < i) (hu : us.getD i 0 = u) : subR us (i + 1) o = subR us i (o.set u ((o.getD u 0 + o.getD i 0) % 18446744073709551616)) := by
  rw [subR, if_neg (by omega), hu, Int.toNat_natCast]
/-- what a maker of numbers answers -/
def UP (n : Nat) (xs : List Int) (w : World) (e : Ending) (w' : World) : Prop :=
  ∃ (A : Option Addr) (c : Nat), e = .returned (.slice A n c) ∧ U64 xs ∧ URow w' A n xs ∧ Below w.heap.size w w'
set_option maxRecDepth 20000 in
set_option maxHeartbeats 1000000 in
theorem subtree_any (A0 A1 : Option Addr) (n c0 c1 : Nat) (ns : List Nd) (ws : List Int) (hw : U64 ws) (hk : Lk (Go.Proofs.Ytonkgjengplppaa.ups ns)) (hn : n ≤ 4096) (hn0 : 0 < n) (w : World) (h0 : NRow w A0 n ns) (h1 : URow w A1 n ws) :
    Calls Try.prog 19 #[.agg #[.slice A0 n c0], .slice A1 n c1] w (UP n (subR (Go.Proofs.Ytonkgjengplppaa.ups ns) n ws) w) := by
  obtain ⟨g1, p1, rfl, hg1⟩ := h1.2 hn0
  have LW := bx h1.1
  have LN := bx h0.1
  have HW := bx hw
  have HK := bx hk
  have N0 := bx h0
  have HN0 := bx hn0
  clear h1 hw hk h0
  have EA := bx (ext_alloc w (.cells #[.slice A0 n c0] 25))
  have XB := bx (Has.new w [.slice A0 n c0] 25)
  have G1 := bx (hg1.below EA.out hg1.lt)
  clear hg1
  go_enter Try.func19, Try.ntmps19
  go_wp2_with fail
  refine (cloneU g1 n c1 _ _ _ G1.out (by rw [ints_len, LW.out, Nat.mul_one]) (one_ints _ _) hn hn0).mono ?_; rintro e w2 ⟨Au, cu, rfl, ho, hb⟩
  obtain ⟨go, co, po, hv, hgo, hs⟩ := own_block ho hn0
  injection hv with hv1 hv2 hv3
  subst hv1; subst hv3
  have O1 := bx hs
  have HGO : Bx (w.heap.size < go) := ⟨Nat.lt_of_lt_of_le XB.out.lt hgo⟩
  have E2 := bx (EA.out.trans (hb.mono EA.out.size))
  have XD := bx (XB.out.below hb XB.out.lt)
  have hcb : w2.cell? ⟨w.heap.size, 0, none⟩ = some (.slice A0 n c0) := XD.out.cell 0
  clear hs hb ho hgo XB EA G1
  go_wp2_with fail
  go_loopw [6] (fun i wr => ∃ (k : Nat) (o : List Int), 0 < k ∧ k ≤ n ∧ i = .int .i64 ((k : Int) - 1) ∧ subR (ups ns) n ws = subR (ups ns) k o ∧ o.length = n ∧ U64 o ∧ Has wr go (ints .u64 o ++ po) ∧ Has wr w.heap.size [.slice A0 n c0] ∧ Below w.heap.size w wr) (fun i _ => (intOf i + 1).toNat)
  case atStart => exact ⟨n, ws, HN0.out, Nat.le_refl _, rfl, rfl, LW.out, HW.out, O1.out, XD.out, E2.out⟩
  case round =>
    obtain ⟨k, o, hk0, hk, rfl, hrun, hol, ho64, hxo, hxb, hbel⟩ := hrel
    have RUN := bx hrun
    have OL := bx hol
    have O64 := bx ho64
    have YO := bx hxo
    have YB := bx hxb
    have BY := bx hbel
    clear hrun hol ho64 hxo hxb hbel O1 XD E2 hcb
    obtain ⟨i, rfl⟩ : ∃ i, k = i + 1 := ⟨k - 1, by omega⟩
    have hii : ((i + 1 : Nat) : Int) - 1 = (i : Int) := by omega
    rw [hii]
    clear hii
    rcases Nat.eq_zero_or_pos i with h0 | h0
    · subst h0
      have hng : ¬ ((0 : Nat) : Int) > 0 := by omega
      have RUN0 : Bx (subR (ups ns) n ws = o) := ⟨RUN.out⟩
      go_wp2_with fail
      go_ret
      exact ⟨_, _, rfl, by rw [RUN0.out]; exact O64.out, by rw [RUN0.out]; exact ⟨OL.out, fun _ => ⟨go, po, rfl, YO.out⟩⟩, BY.out⟩
    · have hi1 : (i : Int) > 0 := by omega
      have hin : i < n := by omega
      have hini : (i : Int) < (n : Int) := by omega
      have hi0 : (0 : Int) ≤ (i : Int) := by omega
      have hnl : i < ns.length := by rw [LN.out]; exact hin
      obtain ⟨u, hui, hue⟩ := HK.out.up (i := i) (by rw [ups_len]; exact hnl) h0
      have RUN1 := bx (RUN.out.trans (subR_next h0 hue))
      rw [ups_at hnl] at hue
      have hun : u < n := by omega
      have huni : (u : Int) < (n : Int) := by omega
      have hu0 : (0 : Int) ≤ (u : Int) := by omega
      have hio : Bx (i < o.length) := ⟨by rw [OL.out]; exact hin⟩
      have huo : Bx (u < o.length) := ⟨by rw [OL.out]; exact hun⟩
      obtain ⟨g0, p0, hA0, hg0⟩ := (N0.out.below BY.out).2.2 HN0.out
      subst hA0
      have CU := bx (fun w5 (h5 : Cls wr.drew.heap.size wr.drew w5) => run_int1 ((hg0.drew.below h5.out hg0.lt).nodeCell N0.out.2.1 i hnl 238 _ (nc_up (N0.out.2.1 _ (List.getElem_mem hnl)))))
      rw [hue] at CU
      have CN := bx (fun w5 (h5 : Cls wr.drew.heap.size wr.drew w5) => run_nodes1 ((YB.out.drew.below h5.out YB.out.lt).cell 0))
      have CX := bx (fun w5 (h5 : Cls wr.drew.heap.size wr.drew w5) => run_u641 (URow.cell (YO.out.drew.below h5.out YO.out.lt) huo.out))
      have CY := bx (fun w5 (h5 : Cls wr.drew.heap.size wr.drew w5) => run_u641 (URow.cell (YO.out.drew.below h5.out YO.out.lt) hio.out))
      have hc5 : wr.drew.cell? ⟨go, u, none⟩ = some (.int .u64 (o.getD u 0)) := URow.cell YO.out huo.out
      have hf5 : wr.drew.frozen? ⟨go, u, none⟩ = false := YO.out.frozen u
      have SETU := bx (fun v => set_u o po u v huo.out)
      have SET64 := bx (fun v hv => O64.out.set (v := v) hv u)
      have hwr : IntKind.u64.wrap (o.getD u 0 + o.getD i 0) = (o.getD u 0 + o.getD i 0) % 18446744073709551616 := rfl
      generalize o.getD u 0 = x at *
      generalize o.getD i 0 = y at *
      have SS : Bx (0 ≤ (x + y) % 18446744073709551616 ∧ (x + y) % 18446744073709551616 < 18446744073709551616) := ⟨by omega⟩
      generalize (x + y) % 18446744073709551616 = s at *
      have S9 := bx (YO.out.drew.set u (.int .u64 s))
      rw [SETU.out] at S9
      have X9 : Bx (Has (wr.drew.setCell ⟨go, u, none⟩ (.int .u64 s)) w.heap.size [.slice (some ⟨g0, 0, none⟩) n c0]) := ⟨YB.out.drew.far (Nat.ne_of_lt HGO.out) _⟩
      have B9 : Bx (Below w.heap.size w (wr.drew.setCell ⟨go, u, none⟩ (.int .u64 s))) := ⟨BY.out.drew.grown (grown_setCell wr.drew go u (.int .u64 s)) BY.out.drew.size (fun k hk => by cases hk; exact Nat.le_of_lt HGO.out)⟩
      have SO := bx (SET64.out s SS.out)
      clear hg0 hue SETU SET64 YO YB BY RUN
      go_wp2_with fail
      refine wp_region_mix3 15 (.steps [(0, 0), (0, 1), (0, 2), (0, 3), (0, 4), (0, 5), (0, 6), (0, 7), (0, 8), (0, 9), (0, 10), (0, 11), (0, 12), (0, 13), (0, 14)] .leaf) (by kernel_rfl) (by kernel_rfl) ?_
      simp only [MixT, MT.steps, stepAt, List.getD_cons_zero, List.getD_cons_succ, List.drop_succ_cons, List.drop_zero]
      repeat (first | (with_reducible refine wpQuiet_nil ?_) | (first | go_big_quiet_skip | (go_big_quiet_want; first | (first | ((with_reducible refine quiet_cell 23 _ rfl _ _ ?_ CN.out ?_); rfl; go_big_quiet_on; (simp only [Act.put, List.setIfInBounds_toArray, List.set_cons_succ, List.set_cons_zero])) | ((with_reducible refine quiet_cell 3 _ rfl _ _ ?_ CU.out ?_); rfl; go_big_quiet_on; (simp only [Act.put, List.setIfInBounds_toArray, List.set_cons_succ, List.set_cons_zero])) | ((with_reducible refine quiet_cell 35 _ rfl _ _ ?_ CX.out ?_); rfl; go_big_quiet_on; (simp only [Act.put, List.setIfInBounds_toArray, List.set_cons_succ, List.set_cons_zero])) | ((with_reducible refine quiet_cell 35 _ rfl _ _ ?_ CY.out ?_); rfl; go_big_quiet_on; (simp only [Act.put, List.setIfInBounds_toArray, List.set_cons_succ, List.set_cons_zero]))) | (go_big_quiet_op; first | go_big_quiet_on | ((with_reducible refine ⟨_, fun _ _ => rfl, ?_⟩); go_big_quiet_on)))))
      clear CU CN CX CY
      generalize wr.drew = w9 at *
      go_wp2_with fail
      refine NoPanic.normal ?_
      clear hc5 hf5
      generalize w9.setCell ⟨go, u, none⟩ (.int .u64 s) = w10 at *
      go_wp2_with fail
      go_roundw
      case rel => exact ⟨i, o.set u s, h0, by omega, rfl, RUN1.out, by rw [List.length_set, OL.out], SO.out, S9.out, X9.out, B9.out⟩
      case measure => simp [intOf]
end Go.Proofs.Ytonkgjengplppaa
