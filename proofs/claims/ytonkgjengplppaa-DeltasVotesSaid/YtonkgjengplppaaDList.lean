/- The laws' list of deltas. -/
import Derived.Test.YtonkgjengplppaaDeltR
import Derived.Test.YtonkgjengplppaaPush
namespace Go.Proofs.Ytonkgjengplppaa
open Go.RowKit
def SmallD (ds : List Dl) : Prop := ∀ d ∈ ds, (0 ≤ d.p ∧ d.p ≤ 63) ∧ (0 ≤ d.m ∧ d.m ≤ 63)
theorem and_63 (n : Int) : bits .and .i64 n 63 = n % 64 := and_ones n 6 (by decide)
theorem and_15 (n : Int) : bits .and .i64 n 15 = n % 16 := and_ones n 4 (by decide)
theorem and_3 (n : Int) : bits .and .i64 n 3 = n % 4 := and_ones n 2 (by decide)
theorem and_1 (n : Int) : bits .and .i64 n 1 = n % 2 := and_ones n 1 (by decide)
/-- what the list answers -/
def ListP (n : Nat) (wild : Bool) (w : World) (e : Ending) (w' : World) : Prop :=
  ∃ (A : Option Addr) (c : Nat) (ds : List Dl), ds.length = n ∧ D64 ds ∧ (wild = false → SmallD ds) ∧ e = .returned (.slice A n c) ∧ w'.ownsRow w.heap.size 94 2 (.slice A n c) n (ds.flatMap dc) ∧ Below w.heap.size w w'
theorem D64.push {ds : List Dl} (h : D64 ds) {p m : Int} (hp : 0 ≤ p ∧ p < 18446744073709551616) (hm : 0 ≤ m ∧ m < 18446744073709551616) : D64 (ds ++ [⟨p, m⟩]) := fun d hd => by
  rcases List.mem_append.1 hd with hd | hd
  · exact h d hd
  · simp only [List.mem_cons, List.not_mem_nil, or_false] at hd
    subst hd; exact ⟨hp, hm⟩
theorem SmallD.push {ds : List Dl} (h : SmallD ds) {p m : Int} (hp : 0 ≤ p ∧ p ≤ 63) (hm : 0 ≤ m ∧ m ≤ 63) : SmallD (ds ++ [⟨p, m⟩]) := fun d hd => by
  rcases List.mem_append.1 hd with hd | hd
  · exact h d hd
  · simp only [List.mem_cons, List.not_mem_nil, or_false] at hd
    subst hd; exact ⟨hp, hm⟩
theorem flat_push (ds : List Dl) (p m : Int) : (ds ++ [(⟨p, m⟩ : Dl)]).flatMap dc = ds.flatMap dc ++ [.int .u64 p, .int .u64 m] := by simp [dc]
set_option maxRecDepth 20000 in
set_option maxHeartbeats 1000000 in
theorem list_any (wild : Bool) (B : Nat) (A : Option Addr) (m c : Nat) (l : List Int) (n : Nat) (hn : n ≤ 4096) (w : World) (hr : Row w B 1 A m (ints .i64 l)) (hm : m ≤ maxLen) (hB : B ≤ w.heap.size) :
    Calls Try.prog 33 #[.slice A m c, .int .i64 n, .bool wild] w (ListP n wild w) := by
  obtain ⟨i0, hi0, hz0, hz1, hz2⟩ := info_parts info_dl
  have HI := bx (show Try.prog.info? 94 = some i0 from hi0)
  have HAT := bx (fun (i : Nat) (hi : i ≤ 65535) w' (hb : Below w.heap.size w w') => at_any B A m c l i hi w' (hr.below (hb.mono hB)) hm (Nat.le_trans hB hb.size))
  have HN := bx hn
  have H63 : Bx (∀ n : Int, bits .and .i64 n 63 = n % 64) := ⟨and_63⟩
  have H15 : Bx (∀ n : Int, bits .and .i64 n 15 = n % 16) := ⟨and_15⟩
  have H3 : Bx (∀ n : Int, bits .and .i64 n 3 = n % 4) := ⟨and_3⟩
  have H1 : Bx (∀ n : Int, bits .and .i64 n 1 = n % 2) := ⟨and_1⟩
  clear hi0 hr hm hB
  go_enter Try.func33, Try.ntmps33
  go_wp2_with fail
  go_loopw [7, 8] (fun s i wr => ∃ (k : Nat) (ds : List Dl), k ≤ n ∧ i = .int .i64 k ∧ ds.length = k ∧ D64 ds ∧ (wild = false → SmallD ds) ∧ wr.ownsRow w.heap.size 94 2 s k (ds.flatMap dc) ∧ Below w.heap.size w wr) (fun _ i _ => n - (intOf i).toNat)
  case atStart => exact ⟨0, [], Nat.zero_le _, rfl, rfl, fun x hx => by simp at hx, fun _ x hx => by simp at hx, World.ownsRow_nil _ _ _ _, Below.refl _ _⟩
  case round =>
    obtain ⟨k, ds, hk, rfl, hxl, hd64, hsm, hown, hbel⟩ := hrel
    have HOWN := bx hown
    have HBEL := bx hbel
    have HSM := bx hsm
    have HD := bx hd64
    have HXL := bx hxl
    clear hown hbel hsm hd64 hxl
    obtain ⟨A1, c1, hv⟩ := own_slice HOWN.out
    subst hv
    by_cases hkn : k < n
    · have hki : (k : Int) < (n : Int) := by omega
      have hk5 : k ≤ 65535 := by omega
      have HM1 : Bx (k + 1 ≤ maxLen) := ⟨by unfold maxLen; omega⟩
      have HM2 : Bx ((k + 1) * 16 ≤ 140737488355328) := ⟨by omega⟩
      have HKN := bx hkn
      go_wp2_with fail
      refine (HAT.out k hk5 _ HBEL.out).mono ?_; rintro e w1 ⟨⟨q, hq, rfl⟩, hb⟩
      have O1 := bx (own_ext HOWN.out hb)
      have B1 := bx (HBEL.out.trans (hb.mono HBEL.out.size))
      clear hb HOWN HBEL
      have a1 := H63.out (q : Int)
      have a2 := H63.out ((q : Int) / 64)
      have b1 : (q : Int) % 64 % 18446744073709551616 = (q : Int) % 64 := by omega
      have b2 : (q : Int) / 64 % 64 % 18446744073709551616 = (q : Int) / 64 % 64 := by omega
      have p1 : 0 ≤ (q : Int) % 64 ∧ (q : Int) % 64 ≤ 63 := by omega
      have p2 : 0 ≤ (q : Int) / 64 % 64 ∧ (q : Int) / 64 % 64 ≤ 63 := by omega
      cases wild with
      | false =>
        have P1 := bx p1
        have P2 := bx p2
        clear p1 p2
        go_wp2_with (at_builtin; (with_reducible refine wpList_pushG rfl (.tmp 51) (.tmp 53) 61 rfl w.heap.size 94 i0 _ 2 16 Try.underlying61 HI.out hz0 hz1 hz2 ?_ (by omega) _ _ _ ?_ (own_ext O1.out (ext_alloc w1 (.cells #[.int .u64 ((q : Int) % 64), .int .u64 ((q : Int) / 64 % 64)] 94))) (w1.heap.size + 1) ?_ [.int .u64 ((q : Int) % 64), .int .u64 ((q : Int) / 64 % 64)] ?_ ?_ (dc_one2 _ _) HM1.out HM2.out ?_ ?_); rfl; rfl; simp; rfl; rfl; exact (Nat.le_trans B1.out.size (by simp)); intro v' w' hown' hg' hbel' _; have HOWN3 := bx hown'; have HB3 := bx (B1.out.trans (((ext_alloc w1 _).mono B1.out.size).trans hbel')); clear hown' hg' hbel')
        (go_roundw; (case rel => exact ⟨k + 1, ds ++ [⟨(q : Int) % 64, (q : Int) / 64 % 64⟩], HKN.out, by go_num, by rw [List.length_append, HXL.out]; rfl, HD.out.push (by have := P1.out; omega) (by have := P2.out; omega), (fun h => (HSM.out h).push P1.out P2.out), by rw [flat_push]; exact HOWN3.out, HB3.out⟩); (case measure => (simp [intOf]; omega)))
      | true =>
        have P1 := bx p1
        have P2 := bx p2
        clear p1 p2
        have a3 := H15.out ((q : Int) / 4096)
        have a4 := H15.out ((q : Int) / 65536)
        have a5 := H3.out (q : Int)
        have a6 := H1.out (q : Int)
        have b3 : (q : Int) % 4 % 18446744073709551616 = (q : Int) % 4 := by omega
        have b4 : (q : Int) % 2 % 18446744073709551616 = (q : Int) % 2 := by omega
        have c3 : (18446744073709551615 - (q : Int) % 4) % 18446744073709551616 = 18446744073709551615 - (q : Int) % 4 := by omega
        have c4 : (18446744073709551615 - (q : Int) % 2) % 18446744073709551616 = 18446744073709551615 - (q : Int) % 2 := by omega
        have P3 : Bx (0 ≤ 18446744073709551615 - (q : Int) % 4 ∧ 18446744073709551615 - (q : Int) % 4 < 18446744073709551616) := ⟨by omega⟩
        have P4 : Bx (0 ≤ 18446744073709551615 - (q : Int) % 2 ∧ 18446744073709551615 - (q : Int) % 2 < 18446744073709551616) := ⟨by omega⟩
        have d1 : 0 ≤ (q : Int) % 4 := by omega
        have d2 : 0 ≤ (q : Int) % 2 := by omega
        have d3 : (q : Int) % 4 ≤ 18446744073709551615 := by omega
        have d4 : (q : Int) % 2 ≤ 18446744073709551615 := by omega
        by_cases h12 : (q : Int) / 4096 % 16 = 15
        · have t12 : ((q : Int) / 4096 % 16 == 15) = true := by simpa using h12
          clear h12
          by_cases h16 : (q : Int) / 65536 % 16 = 15
          · have t16 : ((q : Int) / 65536 % 16 == 15) = true := by simpa using h16
            clear h16
            go_wp2_with (at_builtin; (with_reducible refine wpList_pushG rfl (.tmp 51) (.tmp 53) 61 rfl w.heap.size 94 i0 _ 2 16 Try.underlying61 HI.out hz0 hz1 hz2 ?_ (by omega) _ _ _ ?_ (own_ext O1.out (ext_alloc w1 (.cells #[.int .u64 (18446744073709551615 - (q : Int) % 4), .int .u64 (18446744073709551615 - (q : Int) % 2)] 94))) (w1.heap.size + 1) ?_ [.int .u64 (18446744073709551615 - (q : Int) % 4), .int .u64 (18446744073709551615 - (q : Int) % 2)] ?_ ?_ (dc_one2 _ _) HM1.out HM2.out ?_ ?_); rfl; rfl; simp; rfl; rfl; exact (Nat.le_trans B1.out.size (by simp)); intro v' w' hown' hg' hbel' _; have HOWN3 := bx hown'; have HB3 := bx (B1.out.trans (((ext_alloc w1 _).mono B1.out.size).trans hbel')); clear hown' hg' hbel')
            (go_roundw; (case rel => exact ⟨k + 1, ds ++ [⟨18446744073709551615 - (q : Int) % 4, 18446744073709551615 - (q : Int) % 2⟩], HKN.out, by go_num, by rw [List.length_append, HXL.out]; rfl, HD.out.push P3.out P4.out, (fun h => by cases h), by rw [flat_push]; exact HOWN3.out, HB3.out⟩); (case measure => (simp [intOf]; omega)))
          · have t16 : ((q : Int) / 65536 % 16 == 15) = false := by simpa using h16
            clear h16
            go_wp2_with (at_builtin; (with_reducible refine wpList_pushG rfl (.tmp 51) (.tmp 53) 61 rfl w.heap.size 94 i0 _ 2 16 Try.underlying61 HI.out hz0 hz1 hz2 ?_ (by omega) _ _ _ ?_ (own_ext O1.out (ext_alloc w1 (.cells #[.int .u64 (18446744073709551615 - (q : Int) % 4), .int .u64 ((q : Int) / 64 % 64)] 94))) (w1.heap.size + 1) ?_ [.int .u64 (18446744073709551615 - (q : Int) % 4), .int .u64 ((q : Int) / 64 % 64)] ?_ ?_ (dc_one2 _ _) HM1.out HM2.out ?_ ?_); rfl; rfl; simp; rfl; rfl; exact (Nat.le_trans B1.out.size (by simp)); intro v' w' hown' hg' hbel' _; have HOWN3 := bx hown'; have HB3 := bx (B1.out.trans (((ext_alloc w1 _).mono B1.out.size).trans hbel')); clear hown' hg' hbel')
            (go_roundw; (case rel => exact ⟨k + 1, ds ++ [⟨18446744073709551615 - (q : Int) % 4, (q : Int) / 64 % 64⟩], HKN.out, by go_num, by rw [List.length_append, HXL.out]; rfl, HD.out.push P3.out (by have := P2.out; omega), (fun h => by cases h), by rw [flat_push]; exact HOWN3.out, HB3.out⟩); (case measure => (simp [intOf]; omega)))
        · have t12 : ((q : Int) / 4096 % 16 == 15) = false := by simpa using h12
          clear h12
          by_cases h16 : (q : Int) / 65536 % 16 = 15
          · have t16 : ((q : Int) / 65536 % 16 == 15) = true := by simpa using h16
            clear h16
            go_wp2_with (at_builtin; (with_reducible refine wpList_pushG rfl (.tmp 51) (.tmp 53) 61 rfl w.heap.size 94 i0 _ 2 16 Try.underlying61 HI.out hz0 hz1 hz2 ?_ (by omega) _ _ _ ?_ (own_ext O1.out (ext_alloc w1 (.cells #[.int .u64 ((q : Int) % 64), .int .u64 (18446744073709551615 - (q : Int) % 2)] 94))) (w1.heap.size + 1) ?_ [.int .u64 ((q : Int) % 64), .int .u64 (18446744073709551615 - (q : Int) % 2)] ?_ ?_ (dc_one2 _ _) HM1.out HM2.out ?_ ?_); rfl; rfl; simp; rfl; rfl; exact (Nat.le_trans B1.out.size (by simp)); intro v' w' hown' hg' hbel' _; have HOWN3 := bx hown'; have HB3 := bx (B1.out.trans (((ext_alloc w1 _).mono B1.out.size).trans hbel')); clear hown' hg' hbel')
            (go_roundw; (case rel => exact ⟨k + 1, ds ++ [⟨(q : Int) % 64, 18446744073709551615 - (q : Int) % 2⟩], HKN.out, by go_num, by rw [List.length_append, HXL.out]; rfl, HD.out.push (by have := P1.out; omega) P4.out, (fun h => by cases h), by rw [flat_push]; exact HOWN3.out, HB3.out⟩); (case measure => (simp [intOf]; omega)))
          · have t16 : ((q : Int) / 65536 % 16 == 15) = false := by simpa using h16
            clear h16
            go_wp2_with (at_builtin; (with_reducible refine wpList_pushG rfl (.tmp 51) (.tmp 53) 61 rfl w.heap.size 94 i0 _ 2 16 Try.underlying61 HI.out hz0 hz1 hz2 ?_ (by omega) _ _ _ ?_ (own_ext O1.out (ext_alloc w1 (.cells #[.int .u64 ((q : Int) % 64), .int .u64 ((q : Int) / 64 % 64)] 94))) (w1.heap.size + 1) ?_ [.int .u64 ((q : Int) % 64), .int .u64 ((q : Int) / 64 % 64)] ?_ ?_ (dc_one2 _ _) HM1.out HM2.out ?_ ?_); rfl; rfl; simp; rfl; rfl; exact (Nat.le_trans B1.out.size (by simp)); intro v' w' hown' hg' hbel' _; have HOWN3 := bx hown'; have HB3 := bx (B1.out.trans (((ext_alloc w1 _).mono B1.out.size).trans hbel')); clear hown' hg' hbel')
            (go_roundw; (case rel => exact ⟨k + 1, ds ++ [⟨(q : Int) % 64, (q : Int) / 64 % 64⟩], HKN.out, by go_num, by rw [List.length_append, HXL.out]; rfl, HD.out.push (by have := P1.out; omega) (by have := P2.out; omega), (fun h => by cases h), by rw [flat_push]; exact HOWN3.out, HB3.out⟩); (case measure => (simp [intOf]; omega)))
    · have hkk : k = n := by omega
      subst hkk
      go_wp2_with fail
      go_ret
      exact ⟨A1, c1, ds, HXL.out, HD.out, HSM.out, rfl, HOWN.out, HBEL.out⟩
end Go.Proofs.Ytonkgjengplppaa
