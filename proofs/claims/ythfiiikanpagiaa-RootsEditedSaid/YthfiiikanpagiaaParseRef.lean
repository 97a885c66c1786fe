/- Contracts of ParseRoot, the reference of Parse, and of its helper. -/
import Derived.Test.YthfiiikanpagiaaParse
namespace Go.Proofs.Ythfiiikanpagiaa
open Go.RowKit

theorem run_index_str {P : Program} {t : TypeId} (ht : P.underlying t = some .string) (s : ByteArray) (i : Nat) (hi : i < s.size) (w : World) :
    (Instr.index t (.string s) (.int .i64 (i : Int))).run P w = .ok (.int .u8 ((s[i].toNat : Nat) : Int)) w := by
  have h0 : (0 : Int) ≤ (i : Int) := by omega
  simp only [Instr.index, asIntOf, Sem.run_bind, Sem.run_pure, Result.andThen_ok, run_underlying ht]
  rw [if_pos h0, Int.toNat_natCast, getElem?_pos s i hi]
  rfl

def digV (c : Int) : Int := if hexD c < 0 then 16 else hexD c
theorem hexC_hexD (q : Int) (h0 : 0 ≤ q) (h1 : q < 16) : hexD (hexC q) = q := by unfold hexC hexD; split <;> (try split) <;> omega
theorem hexD_hexC (c q : Int) (h : hexD c = q) (h0 : 0 ≤ q) : hexC q = c := by unfold hexD at h; unfold hexC; split at h <;> (try split at h) <;> (try split) <;> omega

theorem digit_any (c : Int) (h0 : 0 ≤ c) (h1 : c < 256) (w : World) :
    Calls Try.prog 34 #[.int .u8 c] w fun e w' => e = .returned (.int .u8 (digV c)) ∧ w = w' := by
  have hidx : ∀ (k : Nat), k < 16 → ∀ w : World, (Instr.index 9 (.string { data := #[48, 49, 50, 51, 52, 53, 54, 55, 56, 57, 97, 98, 99, 100, 101, 102] }) (.int .i64 (k : Int))).run Try.prog w = .ok (.int .u8 (hexC k)) w := by
    intro k hk w
    have : k = 0 ∨ k = 1 ∨ k = 2 ∨ k = 3 ∨ k = 4 ∨ k = 5 ∨ k = 6 ∨ k = 7 ∨ k = 8 ∨ k = 9 ∨ k = 10 ∨ k = 11 ∨ k = 12 ∨ k = 13 ∨ k = 14 ∨ k = 15 := by omega
    rcases this with rfl | rfl | rfl | rfl | rfl | rfl | rfl | rfl | rfl | rfl | rfl | rfl | rfl | rfl | rfl | rfl <;> rfl
  have HI := Lib.hid hidx
  clear hidx
  go_enter Try.func34, Try.ntmps34
  go_wp2
  go_loop [3] (fun i => ∃ k : Nat, k ≤ 16 ∧ i = .int .i64 k ∧ ∀ j : Nat, j < k → hexC j ≠ c) (fun i => 16 - (intOf i).toNat)
  case atStart => exact ⟨0, by omega, rfl, fun j hj => by omega⟩
  case round =>
    obtain ⟨k, hk, rfl, hall⟩ := hrel
    have HALL := Lib.hid hall
    clear hall
    by_cases hlt : k < 16
    · have hi := HI.out k hlt
      have hh := hexC_hexD k (by omega) (by omega)
      have HH := Lib.hid hh
      clear hh
      by_cases he : hexC k = c
      · have HE := Lib.hid he
        have hb : (hexC (k : Int) == c) = true := by simpa using he
        clear he
        go_wp2
        go_ret
        refine ⟨?_, rfl⟩
        have h1 := HH.out
        rw [HE.out] at h1
        unfold digV
        rw [h1, if_neg (by omega)]
        rfl
      · have hb : (hexC (k : Int) == c) = false := by simpa using he
        have HE := Lib.hid he
        clear he
        go_wp2
        go_round
        case rel => exact ⟨k + 1, by omega, by go_num, fun j hj => by
          rcases Nat.lt_or_ge j k with h | h
          · exact HALL.out j h
          · obtain rfl : j = k := by omega
            exact HE.out⟩
        case measure => simp [intOf]; omega
    · obtain rfl : k = 16 := by omega
      go_wp2
      go_ret
      refine ⟨?_, rfl⟩
      unfold digV
      rw [if_pos]
      · rfl
      · have h2 := hexD_ge c
        have h3 := hexD_le c
        rcases Int.lt_or_le (hexD c) 0 with h | h
        · exact h
        · obtain ⟨n, hn⟩ := Int.eq_ofNat_of_zero_le h
          exact absurd (hexD_hexC c n hn (by omega)) (HALL.out n (by omega))

theorem refParse_size {s : ByteArray} (hs : s.size ≤ 9223372036854775807) (h : s.size ≠ 66) (w : World) :
    Calls Try.prog 15 #[.string s] w fun e w' => e = .returned (.tuple #[.agg (ints .u8 zroot).toArray, .int .i64 1]) ∧ Below w.heap.size w w' := by
  have hne : ((s.size : Int) != 66) = true := by simp; omega
  have hz := zroot_lit
  have HR := Lib.hid ((Has.new w (ints .u8 zroot) 23).alloc (.cells (ints .u8 zroot).toArray 23))
  have HR1 := Lib.hid (show Has ((w.alloc (.cells (ints .u8 zroot).toArray 23)).alloc (.cells (ints .u8 zroot).toArray 23)) (w.heap.size + 1) (ints .u8 zroot) from by have := Has.new (w.alloc (.cells (ints .u8 zroot).toArray 23)) (ints .u8 zroot) 23; simpa using this)
  have hb0 : Hid (Below w.heap.size w ((w.alloc (.cells (ints .u8 zroot).toArray 23)).alloc (.cells (ints .u8 zroot).toArray 23))) := ((Below.refl _ _).alloc (Nat.le_refl _) _).alloc (by simp) _
  go_enter Try.func15, Try.ntmps15
  go_wp2_with (first | ((with_reducible refine wpList_storeB rfl 23 _ _ rfl _ (ints .u8 zroot) _ ?_ ?_ HR.out ?_ Try.underlying23 ?_ (one_ints _ _) ?_); rfl; rfl; rfl; kernel_rfl; intro w1 hw1 hg1 hz1) | ((with_reducible refine wpList_loadB rfl 23 _ rfl _ _ ?_ HR1.out Try.underlying23 ?_ ?_ ?_); rfl; rfl; kernel_rfl))
  exact bodyPost_ret (results_cell_tmp (by rfl) _ (by rfl) hw1 Try.underlying23 rfl (by kernel_rfl)) rfl ⟨rfl, hb0.out.grown hg1 (by simp; omega) (fun k hk => by cases hk; exact Nat.le_refl _)⟩

theorem refParse_prefix {s : ByteArray} (h : s.size = 66) (hp : (!(s.extract 0 2).toList == [48, 120]) = true) (w : World) :
    Calls Try.prog 15 #[.string s] w fun e w' => e = .returned (.tuple #[.agg (ints .u8 zroot).toArray, .int .i64 1]) ∧ Below w.heap.size w w' := by
  have hne : ((s.size : Int) != 66) = false := by simp; omega
  have h1 : 2 ≤ s.size := by omega
  clear h
  have hz := zroot_lit
  have HR := Lib.hid ((Has.new w (ints .u8 zroot) 23).alloc (.cells (ints .u8 zroot).toArray 23))
  have HR1 := Lib.hid (show Has ((w.alloc (.cells (ints .u8 zroot).toArray 23)).alloc (.cells (ints .u8 zroot).toArray 23)) (w.heap.size + 1) (ints .u8 zroot) from by have := Has.new (w.alloc (.cells (ints .u8 zroot).toArray 23)) (ints .u8 zroot) 23; simpa using this)
  have hb0 : Hid (Below w.heap.size w ((w.alloc (.cells (ints .u8 zroot).toArray 23)).alloc (.cells (ints .u8 zroot).toArray 23))) := ((Below.refl _ _).alloc (Nat.le_refl _) _).alloc (by simp) _
  go_enter Try.func15, Try.ntmps15
  go_wp2_with (first | ((with_reducible refine wpList_storeB rfl 23 _ _ rfl _ (ints .u8 zroot) _ ?_ ?_ HR.out ?_ Try.underlying23 ?_ (one_ints _ _) ?_); rfl; rfl; rfl; kernel_rfl; intro w1 hw1 hg1 hz1) | ((with_reducible refine wpList_loadB rfl 23 _ rfl _ _ ?_ HR1.out Try.underlying23 ?_ ?_ ?_); rfl; rfl; kernel_rfl))
  exact bodyPost_ret (results_cell_tmp (by rfl) _ (by rfl) hw1 Try.underlying23 rfl (by kernel_rfl)) rfl ⟨rfl, hb0.out.grown hg1 (by simp; omega) (fun k hk => by cases hk; exact Nat.le_refl _)⟩

theorem digs_at {s : ByteArray} (h : s.size = 66) (j : Nat) (hj : j < 64) : ((s[2 + j]'(by omega)).toNat : Int) = (digs s).getD j 0 := by
  have h2 : 2 + j < s.data.size := by have : s.data.size = 66 := h; omega
  simp [digs, numsOf, List.getD_eq_getElem?_getD, Array.getElem?_eq_getElem h2]
  rfl

theorem packL_even (d : List Int) (k : Nat) (hk : k < 32) : packL d (2 * (k + 1)) = (packL d (2 * k)).set k (hexD (d.getD (2 * k) 0) * 16 + hexD (d.getD (2 * k + 1) 0)) := by
  have e1 := packL_step d (2 * k + 1) (by omega)
  have e2 := packL_step d (2 * k) (by omega)
  rw [if_neg (by omega), show (2 * k + 1) / 2 = k by omega] at e1
  rw [if_pos (by omega), show 2 * k / 2 = k by omega] at e2
  rw [show 2 * (k + 1) = 2 * k + 1 + 1 by omega, e1, e2]
  have : ((packL d (2 * k)).set k (hexD (d.getD (2 * k) 0))).getD k 0 = hexD (d.getD (2 * k) 0) := by
    rw [getD_get _ _ (by simp [packL_length]; omega)]; simp
  rw [this, List.set_set]

set_option maxHeartbeats 400000 in
theorem refParse_run {s : ByteArray} (h : s.size = 66) (hp : (!(s.extract 0 2).toList == [48, 120]) = false) (w : World) :
    Calls Try.prog 15 #[.string s] w (ParsePost (digs s) w) := by
  have hne : ((s.size : Int) != 66) = false := by simp; omega
  have h1 : 66 ≤ s.size := by omega
  have h1' : s.size ≤ 66 := by omega
  have hdl := Lib.hid (digs_length h)
  have hdb : Hid (∀ c ∈ digs s, 0 ≤ c ∧ c < 256) := fun c hc => digs_byte hc
  have hda := Lib.hid (show ∀ (j : Nat) (_ : j < 64) (hj : 2 + j < s.size), ((s[2 + j]'hj).toNat : Int) = (digs s).getD j 0 from fun j h64 _ => digs_at h j h64)
  clear h
  have hz := zroot_lit
  have HR := Lib.hid ((Has.new w (ints .u8 zroot) 23).alloc (.cells (ints .u8 zroot).toArray 23))
  have HR1 := Lib.hid (show Has ((w.alloc (.cells (ints .u8 zroot).toArray 23)).alloc (.cells (ints .u8 zroot).toArray 23)) (w.heap.size + 1) (ints .u8 zroot) from by have := Has.new (w.alloc (.cells (ints .u8 zroot).toArray 23)) (ints .u8 zroot) 23; simpa using this)
  have hb0 : Hid (Below w.heap.size w ((w.alloc (.cells (ints .u8 zroot).toArray 23)).alloc (.cells (ints .u8 zroot).toArray 23))) := ((Below.refl _ _).alloc (Nat.le_refl _) _).alloc (by simp) _
  generalize hd : digs s = d at *
  clear hd
  go_enter Try.func15, Try.ntmps15
  go_wp2
  go_loopw [5] (fun i wr => ∃ k : Nat, k ≤ 32 ∧ i = .int .i64 k ∧ (∀ j, j < 2 * k → 0 ≤ hexD (d.getD j 0)) ∧ Has wr (w.heap.size + 1) (ints .u8 (packL d (2 * k))) ∧ Has wr w.heap.size (ints .u8 zroot) ∧ Below w.heap.size w wr) (fun i _ => 32 - (intOf i).toNat)
  case atStart => exact ⟨0, by omega, rfl, fun j hj => by omega, by rw [packL_zero]; exact HR1.out, HR.out, hb0.out⟩
  case round =>
    obtain ⟨k, hk, rfl, hall, hr1, hr0, hbel⟩ := hrel
    have HALL := Lib.hid hall
    have HR1' := Lib.hid hr1
    have HR0' := Lib.hid hr0
    have HBEL := Lib.hid hbel
    clear hall hr1 hr0 hbel
    by_cases hlt : k < 32
    · have ha := hda.out (2 * k) (by omega) (by omega)
      have hb := hda.out (2 * k + 1) (by omega) (by omega)
      have hia : ∀ w : World, (Instr.index 9 (.string s) (.int .i64 (2 + 2 * (k : Int)))).run Try.prog w = .ok (.int .u8 (d.getD (2 * k) 0)) w := fun w => by
        rw [← ha, show (2 : Int) + 2 * (k : Int) = ((2 + 2 * k : Nat) : Int) by omega]
        exact run_index_str Try.underlying9 s (2 + 2 * k) (by omega) w
      have hib : ∀ w : World, (Instr.index 9 (.string s) (.int .i64 (3 + 2 * (k : Int)))).run Try.prog w = .ok (.int .u8 (d.getD (2 * k + 1) 0)) w := fun w => by
        have e : s[2 + (2 * k + 1)]'(by omega) = s[3 + 2 * k]'(by omega) := by congr 1; omega
        rw [← hb, e, show (3 : Int) + 2 * (k : Int) = ((3 + 2 * k : Nat) : Int) by omega]
        exact run_index_str Try.underlying9 s (3 + 2 * k) (by omega) w
      have hab := hdb.out (d.getD (2 * k) 0) (by rw [getD_get _ _ (by rw [hdl.out]; omega)]; exact List.getElem_mem _)
      have hbb := hdb.out (d.getD (2 * k + 1) 0) (by rw [getD_get _ _ (by rw [hdl.out]; omega)]; exact List.getElem_mem _)
      have hma : Hid (d.getD (2 * k) 0 ∈ d) := by rw [getD_get _ _ (by rw [hdl.out]; omega)]; exact List.getElem_mem _
      have hmb : Hid (d.getD (2 * k + 1) 0 ∈ d) := by rw [getD_get _ _ (by rw [hdl.out]; omega)]; exact List.getElem_mem _
      have hst := Lib.hid (packL_even d k hlt)
      clear ha hb
      have HDA := Lib.hid (digit_any (d.getD (2 * k) 0) hab.1 hab.2)
      have HDB := Lib.hid (digit_any (d.getD (2 * k + 1) 0) hbb.1 hbb.2)
      have hla := hexD_le (d.getD (2 * k) 0)
      have hlb := hexD_le (d.getD (2 * k + 1) 0)
      generalize hca : d.getD (2 * k) 0 = a at *
      generalize hcb : d.getD (2 * k + 1) 0 = b at *
      have HCA := Lib.hid hca
      have HCB := Lib.hid hcb
      clear hca hcb
      have hcell : ∀ n : Nat, (wr.drewN n).cell? ⟨w.heap.size + 1, k, none⟩ = some (.int .u8 ((packL d (2 * k)).getD k 0)) := fun n => by
        rw [(HR1'.out.drewN n).cell k, ints, List.getElem?_map, List.getElem?_eq_getElem (by rw [packL_length]; omega), getD_get _ _ (by rw [packL_length]; omega)]; rfl
      have hfro : ∀ n : Nat, (wr.drewN n).frozen? ⟨w.heap.size + 1, k, none⟩ = false := fun n => (HR1'.out.drewN n).frozen k
      generalize (packL d (2 * k)).getD k 0 = old at *
      have hw1 : IntKind.i64.wrap (2 * (k : Int)) = 2 * (k : Int) := IntWalk.i64_in _ (by omega)
      have hw2 : IntKind.i64.wrap (2 + 2 * (k : Int)) = 2 + 2 * (k : Int) := IntWalk.i64_in _ (by omega)
      have hw3 : IntKind.i64.wrap (3 + 2 * (k : Int)) = 3 + 2 * (k : Int) := IntWalk.i64_in _ (by omega)
      by_cases c1 : hexD a < 0
      · have hv1 : digV a = 16 := by unfold digV; rw [if_pos c1]
        rw [hv1] at HDA
        clear hv1
        go_wp2
        go_quiet ((go_at_call 34; first | (with_reducible exact quietL (HDA.out _)) | (with_reducible exact quietL (HDB.out _))))
        go_wp2_with ((with_reducible refine wpList_storeB rfl 23 _ _ rfl _ (ints .u8 zroot) _ ?_ ?_ (HR0'.out.drewN _) ?_ Try.underlying23 ?_ (one_ints _ _) ?_); rfl; rfl; rfl; kernel_rfl; intro w2 hw2 hg2 _; have HW2 := Lib.hid hw2; have HG2 := Lib.hid hg2; clear hw2 hg2)
        refine bodyPost_ret (results_cell_tmp (by rfl) _ (by rfl) HW2.out Try.underlying23 rfl (by kernel_rfl)) rfl ⟨?_, (below_dN HBEL.out _).grown HG2.out (Nat.le_trans HBEL.out.size (Nat.le_refl _)) (fun k hk => by cases hk; exact Nat.le_refl _)⟩
        rw [if_neg (fun hh => by have := hh a hma.out; omega)]
        rfl
      by_cases c2 : hexD b < 0
      · have hv1 : digV a = hexD a := by unfold digV; rw [if_neg c1]
        have hv2 : digV b = 16 := by unfold digV; rw [if_pos c2]
        rw [hv1] at HDA
        rw [hv2] at HDB
        clear hv1 hv2
        go_wp2
        go_quiet ((go_at_call 34; first | (with_reducible exact quietL (HDA.out _)) | (with_reducible exact quietL (HDB.out _))))
        go_wp2_with ((with_reducible refine wpList_storeB rfl 23 _ _ rfl _ (ints .u8 zroot) _ ?_ ?_ (HR0'.out.drewN _) ?_ Try.underlying23 ?_ (one_ints _ _) ?_); rfl; rfl; rfl; kernel_rfl; intro w2 hw2 hg2 _; have HW2 := Lib.hid hw2; have HG2 := Lib.hid hg2; clear hw2 hg2)
        refine bodyPost_ret (results_cell_tmp (by rfl) _ (by rfl) HW2.out Try.underlying23 rfl (by kernel_rfl)) rfl ⟨?_, (below_dN HBEL.out _).grown HG2.out (Nat.le_trans HBEL.out.size (Nat.le_refl _)) (fun k hk => by cases hk; exact Nat.le_refl _)⟩
        rw [if_neg (fun hh => by have := hh b hmb.out; omega)]
        rfl
      have hv1 : digV a = hexD a := by unfold digV; rw [if_neg c1]
      have hv2 : digV b = hexD b := by unfold digV; rw [if_neg c2]
      rw [hv1] at HDA
      rw [hv2] at HDB
      have HOR := Lib.hid (or_join (hexD a) (hexD b) (by omega) hla (by omega) hlb)
      clear hv1 hv2
      go_wp2
      go_quiet ((go_at_call 34; first | (with_reducible exact quietL (HDA.out _)) | (with_reducible exact quietL (HDB.out _))))
      go_wp2
      go_roundw
      case rel =>
        refine ⟨k + 1, by omega, by go_num, fun j hj => ?_, ?_, ?_, ?_⟩
        · rcases Nat.lt_or_ge j (2 * k) with h | h
          · exact HALL.out j h
          · rcases Nat.lt_or_ge j (2 * k + 1) with h' | h'
            · obtain rfl : j = 2 * k := by omega
              rw [HCA.out]; omega
            · obtain rfl : j = 2 * k + 1 := by omega
              rw [HCB.out]; omega
        · have h2 := (HR1'.out.drewN nq).set k (.int .u8 (bits .or .u8 (hexD a * 16) (hexD b)))
          rw [ints_set, HOR.out] at h2
          rw [hst.out, HOR.out]
          exact h2
        · exact (HR0'.out.drewN nq).far (by simp) _
        · exact (below_dN HBEL.out _).setCell (by simp) _
      case measure => simp [intOf]; omega
    · obtain rfl : k = 32 := by omega
      go_wp2_with (first | ((with_reducible refine wpList_storeB rfl 23 _ _ rfl _ (ints .u8 (packL d (2 * 32))) _ ?_ ?_ HR0'.out ?_ Try.underlying23 ?_ (one_ints _ _) ?_); rfl; rfl; simp [ints, zroot, packL]; simp [ints, packL]; kernel_rfl; intro w2 hw2 hg2 _; have HW2 := Lib.hid hw2; have HG2 := Lib.hid hg2; clear hw2 hg2) | ((with_reducible refine wpList_loadB rfl 23 _ rfl _ _ ?_ HR1'.out Try.underlying23 ?_ ?_ ?_); rfl; rfl; simp [ints, packL]; kernel_rfl))
      refine bodyPost_ret (results_cell_tmp (by rfl) _ (by rfl) HW2.out Try.underlying23 rfl (by simp [ints, packL]; kernel_rfl)) rfl ⟨?_, HBEL.out.grown HG2.out HBEL.out.size (fun k hk => by cases hk; exact Nat.le_refl _)⟩
      rw [if_pos (fun c hc => ?_)]
      · rfl
      · obtain ⟨j, hj, rfl⟩ := List.getElem_of_mem hc
        have := HALL.out j (by have := hdl.out; omega)
        rwa [getD_get d j hj] at this
end Go.Proofs.Ythfiiikanpagiaa
