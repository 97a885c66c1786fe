/- Numbers of 256 bits: their bytes. -/
import Derived.Test.YtpgpplpddjjchaaDoorWideI
import Derived.Test.YtpgpplpddjjchaaDoorMidP
namespace Go.Proofs.YtpgpplpddjjchaaDoor
open Go.RowKit

def byN (n i : Nat) : Nat := n / 2 ^ (8 * i) % 256
/-- the i lowest bytes of a number, at the end of 32 cells -/
def byP (n i : Nat) : List Int := (List.range 32).map fun j => if 32 - i ≤ j then ((byN n (31 - j) : Nat) : Int) else 0
def byl (n : Nat) : List Int := byP n 32
theorem byP_len (n i : Nat) : (ints .u8 (byP n i)).length = 32 := by simp [ints, byP]
theorem byP_at (n i j : Nat) (hj : j < 32) : (ints .u8 (byP n i))[j]? = some (.int .u8 (if 32 - i ≤ j then ((byN n (31 - j) : Nat) : Int) else 0)) := by
  unfold ints byP
  rw [List.getElem?_map, List.getElem?_map, List.getElem?_range hj]
  rfl
theorem byP_set (n i : Nat) (hi : i < 32) : (ints .u8 (byP n i)).set (31 - i) (.int .u8 ((byN n i : Nat) : Int)) = ints .u8 (byP n (i + 1)) := by
  apply List.ext_getElem?
  intro j
  rw [List.getElem?_set]
  by_cases hj : j < 32
  · rw [byP_at n (i + 1) j hj]
    by_cases h : 31 - i = j
    · rw [if_pos h, if_pos (by rw [byP_len]; omega), if_pos (by omega), show 31 - j = i by omega]
    · rw [if_neg h, byP_at n i j hj]
      by_cases h2 : 32 - i ≤ j
      · rw [if_pos h2, if_pos (by omega)]
      · rw [if_neg h2, if_neg (by omega)]
  · rw [if_neg (by omega), List.getElem?_eq_none (by rw [byP_len]; omega), List.getElem?_eq_none (by rw [byP_len]; omega)]
theorem limb_byte (n i : Nat) : IntKind.u8.wrap (limb n (i / 8) / 2 ^ (8 * (i % 8))) = (byN n i : Int) := by
  unfold limb byN
  have hc : (2 : Int) ^ (8 * (i % 8)) = ((2 ^ (8 * (i % 8)) : Nat) : Int) := by rw [Int.natCast_pow]; rfl
  have e : (2 : Nat) ^ 64 = 2 ^ (8 * (i % 8)) * 2 ^ (64 - 8 * (i % 8)) := by rw [← Nat.pow_add]; congr 1; omega
  have e2 : (2 : Nat) ^ (64 - 8 * (i % 8)) = 2 ^ 8 * 2 ^ (56 - 8 * (i % 8)) := by rw [← Nat.pow_add]; congr 1; omega
  have e3 : 2 ^ (8 * i) = 2 ^ (64 * (i / 8)) * 2 ^ (8 * (i % 8)) := by rw [← Nat.pow_add]; congr 1; omega
  rw [hc, ← Int.natCast_ediv, e, Nat.mod_mul_right_div_self, e2, e3, ← Nat.div_div_eq_div_mul]
  generalize n / 2 ^ (64 * (i / 8)) / 2 ^ (8 * (i % 8)) = x
  have h8 : (2 : Nat) ^ 8 = 256 := rfl
  rw [h8]
  have h : x % (256 * 2 ^ (56 - 8 * (i % 8))) % 256 = x % 256 := Nat.mod_mul_right_mod x 256 _
  generalize x % (256 * 2 ^ (56 - 8 * (i % 8))) = y at *
  show ((y : Nat) : Int) % 256 = _
  omega
theorem byP_zero (n : Nat) : ints .u8 (byP n 0) = List.replicate 32 (.int .u8 0) := by
  unfold ints byP
  rw [List.map_map, List.eq_replicate_iff]
  refine ⟨by simp, fun b hb => ?_⟩
  obtain ⟨j, hj, rfl⟩ := List.mem_map.1 hb
  have := List.mem_range.1 hj
  show Value.int .u8 (if 32 - 0 ≤ j then _ else 0) = _
  rw [if_neg (by omega)]
theorem byl_one (n i : Nat) : ∀ u ∈ ints .u8 (byP n i), u.oneCell' = true := fun u hu => by
  obtain ⟨x, _, rfl⟩ := List.mem_map.1 hu; rfl
theorem cells_b32 (n i : Nat) : Tryd.prog.cellsOf 36 = (ints .u8 (byP n i)).length := by rw [byP_len]; kernel_rfl
theorem bz_lit (n : Nat) : #[Value.int .u8 0, Value.int .u8 0, Value.int .u8 0, Value.int .u8 0, Value.int .u8 0, Value.int .u8 0, Value.int .u8 0, Value.int .u8 0, Value.int .u8 0, Value.int .u8 0, Value.int .u8 0, Value.int .u8 0, Value.int .u8 0, Value.int .u8 0, Value.int .u8 0, Value.int .u8 0, Value.int .u8 0, Value.int .u8 0, Value.int .u8 0, Value.int .u8 0, Value.int .u8 0, Value.int .u8 0, Value.int .u8 0, Value.int .u8 0, Value.int .u8 0, Value.int .u8 0, Value.int .u8 0, Value.int .u8 0, Value.int .u8 0, Value.int .u8 0, Value.int .u8 0, Value.int .u8 0] = (ints .u8 (byP n 0)).toArray := by rw [byP_zero]; rfl
theorem wpList_storeB1 {ops : Array Oper} {rest : List Oper} {o : Oper} {a : Act} {w : World} {Q : Exit → Act → World → Prop} (hgd : o.guard = none) (x y : Operand) (ho : o.op = .store 5 x y)
    (g i : Nat) (v : Int) (cs : List Value) (hx : a.eval x = .pointer (some ⟨g, i, none⟩)) (hy : a.eval y = .int .u8 v) (hg : Has w g cs) (hi : i < cs.length)
    (h : ∀ w', Has w' g (cs.set i (.int .u8 v)) → w.grownBy w' (some g) → w'.heap.size = w.heap.size → wpList Tryd.prog ops Q rest (a.put o.dst undef) w') : wpList Tryd.prog ops Q (o :: rest) a w := by
  have ht : w.there g i (#[Value.int .u8 v] : Array Value).size := fun j hj => by
    have hj0 : j = 0 := by simpa using hj
    subst hj0
    rw [Nat.add_zero, hg.cell i, hg.frozen i, List.getElem?_eq_getElem hi]
    exact ⟨rfl, rfl⟩
  have hr : (Instr.storeAt 5 (.pointer (some ⟨g, i, none⟩)) (.int .u8 v)).run Tryd.prog w = .ok () (w.setCells g i [.int .u8 v]) :=
    run_storeAt_mid (P := Tryd.prog) w g i 5 #[.int .u8 v] ht (info_size Tryd.underlying5 (by kernel_rfl)) (all_oneCell_toArray (cs := [Value.int .u8 v]) (fun u hu => by simp at hu; subst hu; rfl))
  refine wpList_plain hgd fun K hK => ?_
  unfold Oper.wp execOp
  simp only [ho, hx, hy, hr, Sem.run_bind, Sem.run_pure, Result.andThen_ok, Oper.upon]
  exact hK _ _ (h _ (hg.set i _) (grown_setCell w g i _) (by simp [World.setCells, World.setCell]))
set_option maxRecDepth 20000 in
set_option maxHeartbeats 1000000 in
theorem toBytesP_any (n : Nat) (w : World) :
    Calls Tryd.prog 22 #[.agg (ints .u64 (wl n)).toArray] w fun e w' => e = .returned (.agg (ints .u8 (byl n)).toArray) ∧ Below w.heap.size w w' := by
  have hz := bz_lit n
  obtain ⟨wA, hwA⟩ : ∃ wA, wA = ((w.alloc (.cells (ints .u64 (wl n)).toArray 24)).alloc (.cells (ints .u8 (byP n 0)).toArray 36)).alloc (.cells (ints .u8 (byP n 0)).toArray 36) := ⟨_, rfl⟩
  have X0 : Bx (Has wA w.heap.size (ints .u64 (wl n))) := ⟨by rw [hwA]; exact ((Has.new w _ _).alloc _).alloc _⟩
  have X1 : Bx (Has wA (w.heap.size + 1) (ints .u8 (byP n 0))) := ⟨by rw [hwA]; have := (Has.new (w.alloc (.cells (ints .u64 (wl n)).toArray 24)) (ints .u8 (byP n 0)) 36).alloc (.cells (ints .u8 (byP n 0)).toArray 36); rwa [alloc_size] at this⟩
  have X2 : Bx (Has wA (w.heap.size + 1 + 1) (ints .u8 (byP n 0))) := ⟨by rw [hwA]; have := Has.new ((w.alloc (.cells (ints .u64 (wl n)).toArray 24)).alloc (.cells (ints .u8 (byP n 0)).toArray 36)) (ints .u8 (byP n 0)) 36; rwa [alloc_size, alloc_size] at this⟩
  have BA : Bx (Below w.heap.size w wA) := ⟨by rw [hwA]; exact (((Below.refl w.heap.size w).alloc (Nat.le_refl _) _).alloc (by simp) _).alloc (by simp; omega) _⟩
  have HWA := bx hwA
  clear hwA
  go_enter Tryd.func22, Tryd.ntmps22
  go_wp2_with fail
  rw [← HWA.out]
  go_loopw [5] (fun i wr => ∃ k : Nat, k ≤ 32 ∧ i = .int .i64 k ∧ Has wr w.heap.size (ints .u64 (wl n)) ∧ Has wr (w.heap.size + 1) (ints .u8 (byP n 0)) ∧ Has wr (w.heap.size + 1 + 1) (ints .u8 (byP n k)) ∧ Below w.heap.size w wr) (fun i _ => 32 - (intOf i).toNat)
  case atStart => exact ⟨0, Nat.zero_le _, rfl, X0.out, X1.out, X2.out, BA.out⟩
  case round =>
    obtain ⟨k, hk, rfl, hx0, hx1, hx2, hbel⟩ := hrel
    have Y0 := bx hx0
    have Y1 := bx hx1
    have Y2 := bx hx2
    have BY := bx hbel
    clear hx0 hx1 hx2 hbel X0 X1 X2 BA HWA hz
    by_cases hk32 : k < 32
    · have hc : wr.cell? ⟨w.heap.size, k / 8, none⟩ = some (.int .u64 (limb n (k / 8))) := by rw [Y0.out.cell, wl_at n (k / 8) (by omega)]
      have HSET := bx (byP_set n k hk32)
      have hb := limb_byte n k
      obtain ⟨l0, l1⟩ := limb_bd n (k / 8)
      have HLL : Bx (31 - k < (ints .u8 (byP n k)).length) := ⟨by rw [byP_len]; omega⟩
      have hw4 : ((ints .u64 (wl n)).length : Int) = 4 := rfl
      have hkl : (k : Int) < 32 := by omega
      go_wp2_with ((with_reducible refine wpList_storeB1 rfl _ _ rfl _ (31 - k) ((byN n k : Nat) : Int) _ ?_ ?_ Y2.out HLL.out ?_); rfl; rfl; intro w4 hw hg hz4; rw [HSET.out] at hw; have V2 := bx hw; have V0 := bx (Y0.out.grown hg (fun e => by injection e with e; omega)); have V1 := bx (Y1.out.grown hg (fun e => by injection e with e; omega)); have BV := bx (BY.out.grown hg BY.out.size (fun k hk => by cases hk; omega)); clear hw hg hz4)
      go_roundw
      case rel => exact ⟨k + 1, by omega, by go_num, V0.out, V1.out, V2.out, BV.out⟩
      case measure => simp [intOf]; omega
    · obtain rfl : k = 32 := by omega
      go_wp2_with (first | ((with_reducible refine wpList_loadG 36 _ rfl _ (ints .u8 (byP n 32)) ?_ ?_ Y2.out Tryd.underlying36 rfl ?_ ?_); rfl; rfl; exact cells_b32 _ _) | ((with_reducible refine wpList_storeB rfl 36 _ _ rfl _ (ints .u8 (byP n 32)) _ ?_ ?_ Y1.out ((byP_len n 0).trans (byP_len n 32).symm) Tryd.underlying36 ?_ (byl_one n 32) ?_); rfl; rfl; exact cells_b32 _ _; intro w9 hw hg hz0; have U9 := bx hw; have B9 := bx (BY.out.grown hg BY.out.size (fun k hk => by cases hk; omega)); clear hw hg hz0))
      exact bodyPost_ret (results_cell (by rfl) _ (by rfl) U9.out Tryd.underlying36 rfl (cells_b32 _ _)) rfl ⟨rfl, B9.out⟩
set_option maxRecDepth 20000 in
set_option maxHeartbeats 1000000 in
theorem toBytesR_any (n : Nat) (w : World) :
    Calls Tryd.prog 23 #[.agg (ints .u64 (wl n)).toArray] w fun e w' => e = .returned (.agg (ints .u8 (byl n)).toArray) ∧ Below w.heap.size w w' := by
  have hz := bz_lit n
  obtain ⟨wA, hwA⟩ : ∃ wA, wA = ((w.alloc (.cells (ints .u64 (wl n)).toArray 24)).alloc (.cells (ints .u8 (byP n 0)).toArray 36)).alloc (.cells (ints .u8 (byP n 0)).toArray 36) := ⟨_, rfl⟩
  have X0 : Bx (Has wA w.heap.size (ints .u64 (wl n))) := ⟨by rw [hwA]; exact ((Has.new w _ _).alloc _).alloc _⟩
  have X1 : Bx (Has wA (w.heap.size + 1) (ints .u8 (byP n 0))) := ⟨by rw [hwA]; have := (Has.new (w.alloc (.cells (ints .u64 (wl n)).toArray 24)) (ints .u8 (byP n 0)) 36).alloc (.cells (ints .u8 (byP n 0)).toArray 36); rwa [alloc_size] at this⟩
  have X2 : Bx (Has wA (w.heap.size + 1 + 1) (ints .u8 (byP n 0))) := ⟨by rw [hwA]; have := Has.new ((w.alloc (.cells (ints .u64 (wl n)).toArray 24)).alloc (.cells (ints .u8 (byP n 0)).toArray 36)) (ints .u8 (byP n 0)) 36; rwa [alloc_size, alloc_size] at this⟩
  have BA : Bx (Below w.heap.size w wA) := ⟨by rw [hwA]; exact (((Below.refl w.heap.size w).alloc (Nat.le_refl _) _).alloc (by simp) _).alloc (by simp; omega) _⟩
  have HWA := bx hwA
  clear hwA
  go_enter Tryd.func23, Tryd.ntmps23
  go_wp2_with fail
  rw [← HWA.out]
  go_loopw [4] (fun i wr => ∃ k : Nat, k ≤ 32 ∧ i = .int .i64 k ∧ Has wr w.heap.size (ints .u64 (wl n)) ∧ Has wr (w.heap.size + 1) (ints .u8 (byP n 0)) ∧ Has wr (w.heap.size + 1 + 1) (ints .u8 (byP n k)) ∧ Below w.heap.size w wr) (fun i _ => 32 - (intOf i).toNat)
  case atStart => exact ⟨0, Nat.zero_le _, rfl, X0.out, X1.out, X2.out, BA.out⟩
  case round =>
    obtain ⟨k, hk, rfl, hx0, hx1, hx2, hbel⟩ := hrel
    have Y0 := bx hx0
    have Y1 := bx hx1
    have Y2 := bx hx2
    have BY := bx hbel
    clear hx0 hx1 hx2 hbel X0 X1 X2 BA HWA hz
    by_cases hk32 : k < 32
    · have hc : wr.cell? ⟨w.heap.size, k / 8, none⟩ = some (.int .u64 (limb n (k / 8))) := by rw [Y0.out.cell, wl_at n (k / 8) (by omega)]
      have HSET := bx (byP_set n k hk32)
      have hb := limb_byte n k
      obtain ⟨l0, l1⟩ := limb_bd n (k / 8)
      have HLL : Bx (31 - k < (ints .u8 (byP n k)).length) := ⟨by rw [byP_len]; omega⟩
      have hw4 : ((ints .u64 (wl n)).length : Int) = 4 := rfl
      have hkl : (k : Int) < 32 := by omega
      go_wp2_with ((with_reducible refine wpList_storeB1 rfl _ _ rfl _ (31 - k) ((byN n k : Nat) : Int) _ ?_ ?_ Y2.out HLL.out ?_); rfl; rfl; intro w4 hw hg hz4; rw [HSET.out] at hw; have V2 := bx hw; have V0 := bx (Y0.out.grown hg (fun e => by injection e with e; omega)); have V1 := bx (Y1.out.grown hg (fun e => by injection e with e; omega)); have BV := bx (BY.out.grown hg BY.out.size (fun k hk => by cases hk; omega)); clear hw hg hz4)
      go_roundw
      case rel => exact ⟨k + 1, by omega, by go_num, V0.out, V1.out, V2.out, BV.out⟩
      case measure => simp [intOf]; omega
    · obtain rfl : k = 32 := by omega
      go_wp2_with (first | ((with_reducible refine wpList_loadG 36 _ rfl _ (ints .u8 (byP n 32)) ?_ ?_ Y2.out Tryd.underlying36 rfl ?_ ?_); rfl; rfl; exact cells_b32 _ _) | ((with_reducible refine wpList_storeB rfl 36 _ _ rfl _ (ints .u8 (byP n 32)) _ ?_ ?_ Y1.out ((byP_len n 0).trans (byP_len n 32).symm) Tryd.underlying36 ?_ (byl_one n 32) ?_); rfl; rfl; exact cells_b32 _ _; intro w9 hw hg hz0; have U9 := bx hw; have B9 := bx (BY.out.grown hg BY.out.size (fun k hk => by cases hk; omega)); clear hw hg hz0))
      exact bodyPost_ret (results_cell (by rfl) _ (by rfl) U9.out Tryd.underlying36 rfl (cells_b32 _ _)) rfl ⟨rfl, B9.out⟩
end Go.Proofs.YtpgpplpddjjchaaDoor
