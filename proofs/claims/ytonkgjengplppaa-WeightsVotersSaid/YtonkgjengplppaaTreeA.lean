/- A number taken out of the law's list. -/
import Derived.Test.YtonkgjengplppaaMasks
import Derived.Test.YtonkgjengplppaaInsertW
namespace Go.Proofs.Ytonkgjengplppaa
open Go.RowKit
theorem and_24 (n : Int) : bits .and .i64 n 16777215 = n % 16777216 := and_ones n 24 (by decide)
/-- At's answer is a small natural number -/
def AtP (i : Nat) (w : World) (e : Ending) (w' : World) : Prop := (∃ k : Nat, k ≤ 16777215 + i ∧ e = .returned (.int .i64 (k : Int))) ∧ Below w.heap.size w w'
set_option maxRecDepth 20000 in
set_option maxHeartbeats 1000000 in
theorem at_any (B : Nat) (A : Option Addr) (n c : Nat) (l : List Int) (i : Nat) (hi : i ≤ 65535) (w : World) (hr : Row w B 1 A n (ints .i64 l)) (hn : n ≤ maxLen) (hB : B ≤ w.heap.size) :
    Calls Try.prog 44 #[.slice A n c, .int .i64 i] w (AtP i w) := by
  have hnm : n ≤ 9223372036854775807 := hn
  have HL : l.length = n := by have := hr.1; simpa [ints] using this
  rcases Nat.eq_zero_or_pos n with h0 | h0
  · subst h0
    have BB := bx (Below.refl w.heap.size w)
    have ha := and_65535 (i : Int)
    have hm : (i : Int) % 65536 = i := by omega
    rw [hm] at ha
    have hz : ((0 : Int) == 0) = true := rfl
    clear hr HL hm
    go_enter Try.func44, Try.ntmps44
    go_wp2_with fail
    go_ret
    exact ⟨⟨i, by omega, rfl⟩, BB.out⟩
  · have him : i % n < n := Nat.mod_lt _ h0
    obtain ⟨x, hx⟩ : ∃ x, (ints .i64 l)[i % n]? = some (.int .i64 x) := ⟨_, by rw [ints, List.getElem?_map, List.getElem?_eq_getElem (by rw [HL]; exact him)]; rfl⟩
    obtain ⟨ad, rfl, hab, hc⟩ := hr.2 _ _ hx
    have hcell : ∀ w1 : World, Cls w.heap.size w w1 → w1.cell? (ad.add (i % n)) = some (.int .i64 x) := fun w1 h1 => by
      rw [h1.out.cell (by unfold Addr.add; split <;> (show ad.block < _; omega))]; exact hc
    have CX := bx (fun w1 h1 => run_int1 (hcell w1 h1))
    have ha := and_24 x
    have hx0 : 0 ≤ x % 16777216 := Int.emod_nonneg _ (by decide)
    have hx1 : x % 16777216 < 16777216 := Int.emod_lt_of_pos _ (by decide)
    obtain ⟨y, hy⟩ : ∃ y : Nat, x % 16777216 = (y : Int) := ⟨(x % 16777216).toNat, by omega⟩
    rw [hy] at ha
    have hq : i / n ≤ i := Nat.div_le_self _ _
    have hm1 : ((i : Int) % (n : Int)) = ((i % n : Nat) : Int) := by omega
    have hq1 : ((i : Int) / (n : Int)) = ((i / n : Nat) : Int) := by omega
    have hnn : ((n : Int) == 0) = false := by rw [beq_eq_false_iff_ne]; omega
    have h1 : ((i % n : Nat) : Int) < (n : Int) := by omega
    have h2 : (0 : Int) ≤ ((i % n : Nat) : Int) := by omega
    clear hr HL hc hx hcell hab
    rw [hy] at hx0 hx1
    clear hy
    generalize i % n = r at *
    generalize hqq : i / n = q at *
    go_enter Try.func44, Try.ntmps44
    go_wp2_with fail
    refine region_cls w.heap.size (by kernel_rfl) (by kernel_rfl) ?_
    repeat (first | go_big_quiet_skip | (go_big_quiet_want; first | ((with_reducible refine quiet_cell 3 _ rfl _ _ ?_ CX.out ?_); rfl; go_big_quiet_on; (simp only [Act.put, List.setIfInBounds_toArray, List.set_cons_succ, List.set_cons_zero])) | (go_big_quiet_op; first | go_big_quiet_on | ((with_reducible refine ⟨_, fun _ _ => rfl, ?_⟩); go_big_quiet_on))))
    refine wpQuiet_nil ?_
    intro w4 hw4
    have B4 := bx hw4.out
    clear hw4
    go_wp2_with fail
    go_ret
    exact ⟨⟨y + q, by omega, rfl⟩, B4.out⟩
end Go.Proofs.Ytonkgjengplppaa
