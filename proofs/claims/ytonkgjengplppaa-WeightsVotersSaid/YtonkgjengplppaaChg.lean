/- A change of a weight, a sum of deltas. -/
import Derived.Test.YtonkgjengplppaaSameD
import Derived.Shelf.Spec.BitsCarry
namespace Go.Proofs.Ytonkgjengplppaa
open Go.RowKit
theorem run_add64 (x y c : Nat) (hc : c ≤ 1) (w : World) :
    (callFunc 71 #[.int .u64 x, .int .u64 y, .int .u64 c]).run Try.prog w =
      .ok (.value (.tuple #[.int .u64 (((x + y + c) % 18446744073709551616 : Nat) : Int), .int .u64 (((x + y + c) / 18446744073709551616 : Nat) : Int)])) w := by
  rw [run_callFunc_extern Try.func71 (by kernel_rfl) (by kernel_rfl) (by kernel_rfl) (e := add64Entry) (by kernel_rfl), Go.run_add64 x y c (by omega) (by omega) (by omega) (by omega)]
  simp only [Result.andThen]
  congr 5 <;> omega
theorem run_add64_zero (x y : Nat) (w : World) :
    (callFunc 71 #[.int .u64 x, .int .u64 y, .int .u64 0]).run Try.prog w =
      .ok (.value (.tuple #[.int .u64 (((x + y) % 18446744073709551616 : Nat) : Int), .int .u64 (((x + y) / 18446744073709551616 : Nat) : Int)])) w :=
  run_add64 x y 0 (Nat.zero_le _) w
/-- a checked sum: the value, and the error number -/
def addV (a b : Int) : Int := if a + b < 18446744073709551616 then a + b else 0
def addE (a b : Int) : Int := if a + b < 18446744073709551616 then 0 else 4
/-- a checked difference -/
def subV (a b : Int) : Int := if a < b then 0 else a - b
def subE (a b : Int) : Int := if a < b then 4 else 0
theorem add_any (a b : Int) (ha : 0 ≤ a) (hb : 0 ≤ b) (ha' : a < 18446744073709551616) (hb' : b < 18446744073709551616) (w : World) :
    Calls Try.prog 65 #[.int .u64 a, .int .u64 b] w fun e w' => e = .returned (.tuple #[.int .u64 (addV a b), .int .i64 (addE a b)]) ∧ w = w' := by
  by_cases h : a + b < 18446744073709551616
  · have hr : ∀ w : World, (callFunc 71 #[.int .u64 a, .int .u64 b, .int .u64 0]).run Try.prog w = .ok (.value (.tuple #[.int .u64 (addV a b), .int .u64 0])) w := by
      intro w
      obtain ⟨m, rfl⟩ := Int.eq_ofNat_of_zero_le ha
      obtain ⟨n, rfl⟩ := Int.eq_ofNat_of_zero_le hb
      rw [run_add64_zero, Nat.mod_eq_of_lt (by omega), Nat.div_eq_of_lt (by omega), addV, if_pos h]; rfl
    have he : addE a b = 0 := by rw [addE, if_pos h]
    rw [he]
    clear he h
    go_enter Try.func65, Try.ntmps65
    go_wp2
    go_ret2
    exact ⟨rfl, rfl⟩
  · have hr : ∀ w : World, (callFunc 71 #[.int .u64 a, .int .u64 b, .int .u64 0]).run Try.prog w = .ok (.value (.tuple #[.int .u64 (a + b - 18446744073709551616), .int .u64 1])) w := by
      intro w
      obtain ⟨m, rfl⟩ := Int.eq_ofNat_of_zero_le ha
      obtain ⟨n, rfl⟩ := Int.eq_ofNat_of_zero_le hb
      rw [run_add64_zero, show (m + n) / 18446744073709551616 = 1 by omega, show (((m + n) % 18446744073709551616 : Nat) : Int) = (m : Int) + (n : Int) - 18446744073709551616 by omega]; rfl
    have he : addE a b = 4 := by rw [addE, if_neg h]
    have hv : addV a b = 0 := by rw [addV, if_neg h]
    rw [he, hv]
    clear he h hv
    go_enter Try.func65, Try.ntmps65
    go_wp2
    go_ret2
    exact ⟨rfl, rfl⟩
theorem sub_any (a b : Int) (w : World) :
    Calls Try.prog 66 #[.int .u64 a, .int .u64 b] w fun e w' => e = .returned (.tuple #[.int .u64 (subV a b % 18446744073709551616), .int .i64 (subE a b)]) ∧ w = w' := by
  unfold subV subE
  by_cases h : a < b
  · rw [if_pos h, if_pos h]
    go_enter Try.func66, Try.ntmps66
    go_wp2
    go_ret2
    exact ⟨rfl, rfl⟩
  · rw [if_neg h, if_neg h]
    go_enter Try.func66, Try.ntmps66
    go_wp2
    go_ret2
    exact ⟨rfl, rfl⟩
/-- a weight behind a delta -/
def chgV (n : Int) (d : Dl) : Int := if d.m ≤ d.p then addV n (d.p - d.m) else subV n (d.m - d.p)
def chgE (n : Int) (d : Dl) : Int := if d.m ≤ d.p then addE n (d.p - d.m) else subE n (d.m - d.p)
def D1 (d : Dl) : Prop := (0 ≤ d.p ∧ d.p < 18446744073709551616) ∧ (0 ≤ d.m ∧ d.m < 18446744073709551616)
theorem change_any (n : Int) (d : Dl) (h0 : 0 ≤ n) (h1 : n < 18446744073709551616) (hd : D1 d) (w : World) :
    Calls Try.prog 54 #[.int .u64 n, .agg (dc d).toArray] w fun e w' => e = .returned (.tuple #[.int .u64 (chgV n d), .int .i64 (chgE n d)]) ∧ Below w.heap.size w w' := by
  obtain ⟨p, m⟩ := d
  obtain ⟨⟨hp0, hp1⟩, ⟨hm0, hm1⟩⟩ := hd
  have HB := bx ((Below.refl w.heap.size w).alloc (Nat.le_refl _) (.cells #[.int .u64 p, .int .u64 m] 94))
  unfold chgV chgE
  simp only [dc] at *
  by_cases h : m ≤ p
  · rw [if_pos h, if_pos h]
    have hd1 : 0 ≤ p - m := by omega
    have hd2 : (p - m) % 18446744073709551616 = p - m := by omega
    have hd3 : p - m < 18446744073709551616 := by omega
    go_enter Try.func54, Try.ntmps54
    go_wp2_with fail
    refine (add_any n (p - m) h0 hd1 h1 hd3 _).mono ?_; rintro e w1 ⟨rfl, rfl⟩
    go_wp2_with fail
    go_ret2
    exact ⟨rfl, HB.out⟩
  · rw [if_neg h, if_neg h]
    have hd1 : 0 ≤ m - p := by omega
    have hd2 : (m - p) % 18446744073709551616 = m - p := by omega
    have hd3 : m - p < 18446744073709551616 := by omega
    have hs : Bx (subV n (m - p) % 18446744073709551616 = subV n (m - p)) := ⟨by unfold subV; split <;> omega⟩
    go_enter Try.func54, Try.ntmps54
    go_wp2_with fail
    refine (sub_any n (m - p) _).mono ?_; rintro e w1 ⟨rfl, rfl⟩
    rw [hs.out]
    go_wp2_with fail
    go_ret2
    exact ⟨rfl, HB.out⟩
/-- a sum of deltas -/
def addDV (a b : Dl) : Dl := if a.p + b.p < 18446744073709551616 then ⟨a.p + b.p, addV a.m b.m⟩ else ⟨0, 0⟩
def addDE (a b : Dl) : Int := if a.p + b.p < 18446744073709551616 then addE a.m b.m else 4
theorem new_2 (w : World) (o1 o2 : Obj) (cs : List Value) (t : TypeId) : Has (((w.alloc o1).alloc o2).alloc (.cells cs.toArray t)) (w.heap.size + 1 + 1) cs := by
  have := Has.new ((w.alloc o1).alloc o2) cs t
  rwa [alloc_size, alloc_size] at this
theorem addD_any (a b : Dl) (ha : D1 a) (hb : D1 b) (w : World) :
    Calls Try.prog 55 #[.agg (dc a).toArray, .agg (dc b).toArray] w fun e w' => e = .returned (.tuple #[.agg (dc (addDV a b)).toArray, .int .i64 (addDE a b)]) ∧ Below w.heap.size w w' := by
  obtain ⟨p, m⟩ := a
  obtain ⟨q, n⟩ := b
  obtain ⟨⟨hp0, hp1⟩, ⟨hm0, hm1⟩⟩ := ha
  obtain ⟨⟨hq0, hq1⟩, ⟨hn0, hn1⟩⟩ := hb
  unfold addDV addDE
  simp only [dc] at *
  by_cases h : p + q < 18446744073709551616
  · have h1 : addV p q = p + q ∧ addE p q = 0 := ⟨if_pos h, if_pos h⟩
    rw [if_pos h, if_pos h]
    go_enter Try.func55, Try.ntmps55
    go_wp2_with fail
    refine (add_any p q hp0 hq0 hp1 hq1 _).mono ?_; rintro e w1 ⟨rfl, rfl⟩
    rw [h1.1, h1.2]
    go_wp2_with fail
    refine (add_any m n hm0 hn0 hm1 hn1 _).mono ?_; rintro e w1 ⟨rfl, rfl⟩
    go_wp2_with fail
    exact bodyPost_ret (results_cell_tmp (by rfl) _ (by rfl) (new_2 w _ _ [.int .u64 (p + q), .int .u64 (addV m n)] _) Try.underlying94 rfl (cells_dl ⟨p + q, addV m n⟩)) rfl ⟨rfl, ((((Below.refl w.heap.size w).alloc (Nat.le_refl _) _).alloc (by simp) _).alloc (by simp; omega) _)⟩
  · have h1 : addV p q = 0 ∧ addE p q = 4 := ⟨if_neg h, if_neg h⟩
    rw [if_neg h, if_neg h]
    go_enter Try.func55, Try.ntmps55
    go_wp2_with fail
    refine (add_any p q hp0 hq0 hp1 hq1 _).mono ?_; rintro e w1 ⟨rfl, rfl⟩
    rw [h1.1, h1.2]
    go_wp2_with fail
    exact bodyPost_ret (results_cell_tmp (by rfl) _ (by rfl) (new_2 w _ _ [.int .u64 0, .int .u64 0] _) Try.underlying94 rfl (cells_dl ⟨0, 0⟩)) rfl ⟨rfl, ((((Below.refl w.heap.size w).alloc (Nat.le_refl _) _).alloc (by simp) _).alloc (by simp; omega) _)⟩
end Go.Proofs.Ytonkgjengplppaa
