/- Contracts of Format of roots and of its reference. -/
import Derived.Test.YthfiiikanpagiaaRoots
import Derived.Lib.SlBytesConst
import Derived.Laws.BytesArg
import Derived.StillTailTactics
import Derived.RegionTactic
import Derived.Deep.RegionLaw
import Derived.Deep.AppendLies
import Derived.Deep.RegionHeld3
namespace Go.Proofs.Ythfiiikanpagiaa
open Go.RowKit
theorem info_u8 : (Try.prog.info? 5).map (fun i => (i.zero, i.size, i.bytes)) = some (some (.int .u8 0), 1, 1) := by kernel_rfl

/-- a hexadecimal digit -/
def hexC (x : Int) : Int := if x < 10 then 48 + x else 87 + x
/-- the text of a root, as numbers -/
def fmtL (l : List Int) : List Int := 48 :: 120 :: l.flatMap fun x => [hexC (x / 16), hexC (x % 16)]

theorem hexIdx0 (w : World) : (Instr.index 9 (.string { data := #[48, 49, 50, 51, 52, 53, 54, 55, 56, 57, 97, 98, 99, 100, 101, 102] }) (.int .u8 0)).run Try.prog w = .ok (.int .u8 48) w := by kernel_rfl
theorem hexIdx1 (w : World) : (Instr.index 9 (.string { data := #[48, 49, 50, 51, 52, 53, 54, 55, 56, 57, 97, 98, 99, 100, 101, 102] }) (.int .u8 1)).run Try.prog w = .ok (.int .u8 49) w := by kernel_rfl
theorem hexIdx2 (w : World) : (Instr.index 9 (.string { data := #[48, 49, 50, 51, 52, 53, 54, 55, 56, 57, 97, 98, 99, 100, 101, 102] }) (.int .u8 2)).run Try.prog w = .ok (.int .u8 50) w := by kernel_rfl
theorem hexIdx3 (w : World) : (Instr.index 9 (.string { data := #[48, 49, 50, 51, 52, 53, 54, 55, 56, 57, 97, 98, 99, 100, 101, 102] }) (.int .u8 3)).run Try.prog w = .ok (.int .u8 51) w := by kernel_rfl
theorem hexIdx4 (w : World) : (Instr.index 9 (.string { data := #[48, 49, 50, 51, 52, 53, 54, 55, 56, 57, 97, 98, 99, 100, 101, 102] }) (.int .u8 4)).run Try.prog w = .ok (.int .u8 52) w := by kernel_rfl
theorem hexIdx5 (w : World) : (Instr.index 9 (.string { data := #[48, 49, 50, 51, 52, 53, 54, 55, 56, 57, 97, 98, 99, 100, 101, 102] }) (.int .u8 5)).run Try.prog w = .ok (.int .u8 53) w := by kernel_rfl
theorem hexIdx6 (w : World) : (Instr.index 9 (.string { data := #[48, 49, 50, 51, 52, 53, 54, 55, 56, 57, 97, 98, 99, 100, 101, 102] }) (.int .u8 6)).run Try.prog w = .ok (.int .u8 54) w := by kernel_rfl
theorem hexIdx7 (w : World) : (Instr.index 9 (.string { data := #[48, 49, 50, 51, 52, 53, 54, 55, 56, 57, 97, 98, 99, 100, 101, 102] }) (.int .u8 7)).run Try.prog w = .ok (.int .u8 55) w := by kernel_rfl
theorem hexIdx8 (w : World) : (Instr.index 9 (.string { data := #[48, 49, 50, 51, 52, 53, 54, 55, 56, 57, 97, 98, 99, 100, 101, 102] }) (.int .u8 8)).run Try.prog w = .ok (.int .u8 56) w := by kernel_rfl
theorem hexIdx9 (w : World) : (Instr.index 9 (.string { data := #[48, 49, 50, 51, 52, 53, 54, 55, 56, 57, 97, 98, 99, 100, 101, 102] }) (.int .u8 9)).run Try.prog w = .ok (.int .u8 57) w := by kernel_rfl
theorem hexIdx10 (w : World) : (Instr.index 9 (.string { data := #[48, 49, 50, 51, 52, 53, 54, 55, 56, 57, 97, 98, 99, 100, 101, 102] }) (.int .u8 10)).run Try.prog w = .ok (.int .u8 97) w := by kernel_rfl
theorem hexIdx11 (w : World) : (Instr.index 9 (.string { data := #[48, 49, 50, 51, 52, 53, 54, 55, 56, 57, 97, 98, 99, 100, 101, 102] }) (.int .u8 11)).run Try.prog w = .ok (.int .u8 98) w := by kernel_rfl
theorem hexIdx12 (w : World) : (Instr.index 9 (.string { data := #[48, 49, 50, 51, 52, 53, 54, 55, 56, 57, 97, 98, 99, 100, 101, 102] }) (.int .u8 12)).run Try.prog w = .ok (.int .u8 99) w := by kernel_rfl
theorem hexIdx13 (w : World) : (Instr.index 9 (.string { data := #[48, 49, 50, 51, 52, 53, 54, 55, 56, 57, 97, 98, 99, 100, 101, 102] }) (.int .u8 13)).run Try.prog w = .ok (.int .u8 100) w := by kernel_rfl
theorem hexIdx14 (w : World) : (Instr.index 9 (.string { data := #[48, 49, 50, 51, 52, 53, 54, 55, 56, 57, 97, 98, 99, 100, 101, 102] }) (.int .u8 14)).run Try.prog w = .ok (.int .u8 101) w := by kernel_rfl
theorem hexIdx15 (w : World) : (Instr.index 9 (.string { data := #[48, 49, 50, 51, 52, 53, 54, 55, 56, 57, 97, 98, 99, 100, 101, 102] }) (.int .u8 15)).run Try.prog w = .ok (.int .u8 102) w := by kernel_rfl
theorem hexIdx (q : Int) (h0 : 0 ≤ q) (h1 : q < 16) (w : World) :
    (Instr.index 9 (.string { data := #[48, 49, 50, 51, 52, 53, 54, 55, 56, 57, 97, 98, 99, 100, 101, 102] }) (.int .u8 q)).run Try.prog w = .ok (.int .u8 (hexC q)) w := by
  have : q = 0 ∨ q = 1 ∨ q = 2 ∨ q = 3 ∨ q = 4 ∨ q = 5 ∨ q = 6 ∨ q = 7 ∨ q = 8 ∨ q = 9 ∨ q = 10 ∨ q = 11 ∨ q = 12 ∨ q = 13 ∨ q = 14 ∨ q = 15 := by omega
  rcases this with rfl | rfl | rfl | rfl | rfl | rfl | rfl | rfl | rfl | rfl | rfl | rfl | rfl | rfl | rfl | rfl
  · exact hexIdx0 w
  · exact hexIdx1 w
  · exact hexIdx2 w
  · exact hexIdx3 w
  · exact hexIdx4 w
  · exact hexIdx5 w
  · exact hexIdx6 w
  · exact hexIdx7 w
  · exact hexIdx8 w
  · exact hexIdx9 w
  · exact hexIdx10 w
  · exact hexIdx11 w
  · exact hexIdx12 w
  · exact hexIdx13 w
  · exact hexIdx14 w
  · exact hexIdx15 w

theorem format_any {a : List Int} (ha : Fit .u8 a) (la : a.length = 32) (w : World) :
    Calls Try.prog 13 #[.agg (ints .u8 a).toArray] w fun e w' => e = .returned (.string (strOfNums (fmtL a))) ∧ Below w.heap.size w w' := by
  obtain ⟨i0, hi0, hz0, hz1, hz2⟩ := info_parts info_u8
  have kc : (convert 33 33 (.slice (some ⟨w.heap.size + 1, 0, none⟩) 2 2)).run Try.prog ((w.alloc (.cells (ints .u8 a).toArray 23)).alloc (.cells #[.int .u8 48, .int .u8 120] 5)) =
      .ok (.slice (some ⟨w.heap.size + 1, 0, none⟩) 2 2) ((w.alloc (.cells (ints .u8 a).toArray 23)).alloc (.cells #[.int .u8 48, .int .u8 120] 5 (2, 3))) := by
    have := Lib.run_convert_bytes_const (P := Try.prog) (w.alloc (.cells (ints .u8 a).toArray 23)) 33 5 #[.int .u8 48, .int .u8 120] 2 2 Try.underlying33 Try.underlying5
    simpa using this
  have HB := Lib.hid ((Has.new w (ints .u8 a) 23).alloc (.cells #[.int .u8 48, .int .u8 120] 5 (2, 3)))
  have HS : Hid (Try.prog.cellsOf 23 = (ints .u8 a).length) := by rw [ints, List.length_map, la]; exact (by kernel_rfl : Try.prog.cellsOf 23 = 32)
  have HA := Lib.hid la
  clear la
  go_enter Try.func13, Try.ntmps13
  go_wp2_with (refine wpList_loadB rfl 23 _ rfl _ _ rfl HB.out Try.underlying23 rfl HS.out ?_)
  go_loopw [3, 9] (fun v i wr => ∃ k : Nat, k ≤ 32 ∧ i = .int .i64 k ∧ Apd wr w.heap.size 5 1 v (2 + 2 * k) (ints .u8 (fmtL (a.take k))) ∧ Below w.heap.size w wr) (fun _ i _ => 32 - (intOf i).toNat)
  case atStart =>
    refine ⟨0, by omega, rfl, .inr ⟨w.heap.size + 1, 0, rfl, by simp, by simp [ints, fmtL], fun j u hu => ?_⟩, ((Below.refl _ _).alloc (Nat.le_refl _) _).alloc (by simp) _⟩
    rw [Nat.zero_add, cell_of_row _ _ _ #[.int .u8 48, .int .u8 120] 5 (2, 3) (by have := heap_alloc_new (w.alloc (.cells (ints .u8 a).toArray 23)) (.cells #[.int .u8 48, .int .u8 120] 5 (2, 3)); simpa using this)]
    simpa [ints, fmtL] using hu
  case round =>
    obtain ⟨k, hk, rfl, happ, hbel⟩ := hrel
    by_cases hlt : k < 32
    · have hx := fit_u8 ha (a.getD k 0) (by rw [getD_get a k (by rw [HA.out]; exact hlt)]; exact List.getElem_mem _)
      have hidx : ∀ w : World, (Instr.index 23 (.agg (ints .u8 a).toArray) (.int .i64 (k : Int))).run Try.prog w = .ok (.int .u8 (a.getD k 0)) w := run_index_ints Try.underlying23 Try.underlying5 (by kernel_rfl) HA.out k hlt
      have h1 := hexIdx (a.getD k 0 / 16) (by omega) (by omega)
      have h2 := hexIdx (a.getD k 0 % 16) (by omega) (by omega)
      have hlen : 2 + 2 * k + 2 ≤ 100 := by omega
      have hbase := hbel.size
      have hstep : Hid (ints .u8 (fmtL (a.take (k + 1))) = ints .u8 (fmtL (a.take k)) ++ [.int .u8 (hexC (a.getD k 0 / 16)), .int .u8 (hexC (a.getD k 0 % 16))]) := by
        show _ = _
        rw [List.take_succ_eq_append_getElem (by rw [HA.out]; exact hlt), ← getD_get a k (by rw [HA.out]; exact hlt)]
        simp [ints, fmtL, List.flatMap_append]
      generalize a.getD k 0 = x at *
      have hand : bits .and .u8 x 15 = x % 16 := by
        rw [u8_and x 15 hx.1 hx.2 (by omega) (by omega)]
        have : x.toNat &&& (15 : Int).toNat = x.toNat % 16 := Nat.and_two_pow_sub_one_eq_mod x.toNat 4
        rw [this]; omega
      have hs1 := Lib.hid hx
      go_wp2
      go_region_held3 (fun _ => True) (trivial)
        ((refine step_push (by rfl) _ _ 33 (by rfl) i0 _ 1 Try.underlying33 hi0 hz0 hz1 hz2 rfl (by omega) (by rfl) ((happ.alloc _).drew) ⟨wr.heap.size, 0, none⟩ 2 2 [.int .u8 (hexC (x / 16)), .int .u8 (hexC (x % 16))] (by rfl) (by omega) (by rfl) (fun j u hu => new_cells wr _ 5 j u hu) (by simp [Value.oneCell']) (by unfold maxLen; omega) (by omega) (by simp; omega) ?_; intro v' w' hown' hg' hbel' hat'))
      all_goals
        go_wp2
        go_roundw
        case rel => exact ⟨k + 1, by omega, by go_num, by rw [hstep.out, show 2 + 2 * (k + 1) = 2 + 2 * k + 2 by omega]; exact .inl hown', (hbel.trans (((Below.refl _ _).alloc hbase _).drew)).trans hbel'⟩
        case measure => simp [intOf]; omega
    · have hkk : k = 32 := by omega
      subst hkk
      have hfull : a.take 32 = a := List.take_of_length_le (by rw [HA.out]; exact Nat.le_refl _)
      rw [hfull] at happ
      obtain ⟨g, o, c, hv, hc⟩ := happ.slice (by omega)
      have hfl : (fmtL a).length = 66 := by
        have : (ints .u8 (fmtL a)).length = (2 + 2 * 32) * 1 := by
          rcases happ with h | ⟨_, _, _, _, h, _⟩
          · exact h.1
          · exact h
        simpa [ints] using this
      have hconv := run_convert_bytes_arg (P := Try.prog) wr 33 5 Try.underlying33 Try.underlying5 g o 66 c (fmtL a) hfl (fun i hi => hc i _ (by rw [ints, List.getElem?_map, List.getElem?_eq_getElem (by omega)]; simp [List.getD_eq_getElem?_getD, List.getElem?_eq_getElem (show i < (fmtL a).length by omega)])) 9 Try.underlying9
      clear hc happ hfull hfl
      go_wp2
      go_ret
      exact ⟨rfl, hbel⟩
theorem ref_formatRoot {a : List Int} (ha : Fit .u8 a) (la : a.length = 32) (w : World) :
    Calls Try.prog 16 #[.agg (ints .u8 a).toArray] w fun e w' => e = .returned (.string (strOfNums (fmtL a))) ∧ Below w.heap.size w w' := by
  obtain ⟨i0, hi0, hz0, hz1, hz2⟩ := info_parts info_u8
  have kc : (convert 33 33 (.slice (some ⟨w.heap.size + 1, 0, none⟩) 2 2)).run Try.prog ((w.alloc (.cells (ints .u8 a).toArray 23)).alloc (.cells #[.int .u8 48, .int .u8 120] 5)) =
      .ok (.slice (some ⟨w.heap.size + 1, 0, none⟩) 2 2) ((w.alloc (.cells (ints .u8 a).toArray 23)).alloc (.cells #[.int .u8 48, .int .u8 120] 5 (2, 3))) := by
    have := Lib.run_convert_bytes_const (P := Try.prog) (w.alloc (.cells (ints .u8 a).toArray 23)) 33 5 #[.int .u8 48, .int .u8 120] 2 2 Try.underlying33 Try.underlying5
    simpa using this
  have HA := Lib.hid la
  clear la
  go_enter Try.func16, Try.ntmps16
  go_wp2
  go_loopw [3, 4] (fun v i wr => ∃ k : Nat, k ≤ 32 ∧ i = .int .i64 k ∧ Apd wr (w.heap.size + 1) 5 1 v (2 + 2 * k) (ints .u8 (fmtL (a.take k))) ∧ Below (w.heap.size + 1) (w.alloc (.cells (ints .u8 a).toArray 23)) wr) (fun _ i _ => 32 - (intOf i).toNat)
  case atStart =>
    refine ⟨0, by omega, rfl, .inr ⟨w.heap.size + 1, 0, rfl, by simp, by simp [ints, fmtL], fun j u hu => ?_⟩, (Below.refl _ _).alloc (by simp) _⟩
    rw [Nat.zero_add, cell_of_row _ _ _ #[.int .u8 48, .int .u8 120] 5 (2, 3) (by have := heap_alloc_new (w.alloc (.cells (ints .u8 a).toArray 23)) (.cells #[.int .u8 48, .int .u8 120] 5 (2, 3)); simpa using this)]
    simpa [ints, fmtL] using hu
  case round =>
    obtain ⟨k, hk, rfl, happ, hbel⟩ := hrel
    by_cases hlt : k < 32
    · have hx := fit_u8 ha (a.getD k 0) (by rw [getD_get a k (by rw [HA.out]; exact hlt)]; exact List.getElem_mem _)
      have hcell : wr.cell? ⟨w.heap.size, k, none⟩ = some (.int .u8 (a.getD k 0)) := by
        have h := ((Has.new w (ints .u8 a) 23).below hbel (by omega)).cell k
        rw [h, ints, List.getElem?_map, List.getElem?_eq_getElem (by rw [HA.out]; exact hlt), getD_get a k (by rw [HA.out]; exact hlt)]; rfl
      have hk0 : (0 : Int) ≤ (k : Int) := by omega
      have hk1 : (k : Int) < 32 := by omega
      have h1 := hexIdx (a.getD k 0 / 16) (by omega) (by omega)
      have h2 := hexIdx (a.getD k 0 % 16) (by omega) (by omega)
      have hlen : 2 + 2 * k + 2 ≤ 100 := by omega
      have hbase : w.heap.size + 1 ≤ wr.heap.size := by have := hbel.size; simpa using this
      have hstep : Hid (ints .u8 (fmtL (a.take (k + 1))) = ints .u8 (fmtL (a.take k)) ++ [.int .u8 (hexC (a.getD k 0 / 16)), .int .u8 (hexC (a.getD k 0 % 16))]) := by
        show _ = _
        rw [List.take_succ_eq_append_getElem (by rw [HA.out]; exact hlt), ← getD_get a k (by rw [HA.out]; exact hlt)]
        simp [ints, fmtL, List.flatMap_append]
      generalize a.getD k 0 = x at *
      have hand : bits .and .u8 x 15 = x % 16 := by
        rw [u8_and x 15 hx.1 hx.2 (by omega) (by omega)]
        have : x.toNat &&& (15 : Int).toNat = x.toNat % 16 := Nat.and_two_pow_sub_one_eq_mod x.toNat 4
        rw [this]; omega
      have hs1 := Lib.hid hx
      go_wp2
      go_region_held3 (fun w' => w'.cell? ⟨w.heap.size, k, none⟩ = some (.int .u8 x)) (first | go_keep | (rw [hbel'.cell (by simp)]; go_keep))
        ((refine step_push (by rfl) _ _ 33 (by rfl) i0 _ 1 Try.underlying33 hi0 hz0 hz1 hz2 rfl (by omega) (by rfl) ((happ.alloc _).drew) ⟨wr.heap.size, 0, none⟩ 2 2 [.int .u8 (hexC (x / 16)), .int .u8 (hexC (x % 16))] (by rfl) (by omega) (by rfl) (fun j u hu => new_cells wr _ 5 j u hu) (by simp [Value.oneCell']) (by unfold maxLen; omega) (by omega) (by simp; omega) ?_; intro v' w' hown' hg' hbel' hat'))
      all_goals
        go_wp2
        go_roundw
        case rel => exact ⟨k + 1, by omega, by go_num, by rw [hstep.out, show 2 + 2 * (k + 1) = 2 + 2 * k + 2 by omega]; exact .inl hown', (hbel.trans (((Below.refl _ _).alloc hbase _).drew)).trans hbel'⟩
        case measure => simp [intOf]; omega
    · have hkk : k = 32 := by omega
      subst hkk
      have hfull : a.take 32 = a := List.take_of_length_le (by rw [HA.out]; exact Nat.le_refl _)
      rw [hfull] at happ
      obtain ⟨g, o, c, hv, hc⟩ := happ.slice (by omega)
      have hfl : (fmtL a).length = 66 := by
        have : (ints .u8 (fmtL a)).length = (2 + 2 * 32) * 1 := by
          rcases happ with h | ⟨_, _, _, _, h, _⟩
          · exact h.1
          · exact h
        simpa [ints] using this
      have hconv := run_convert_bytes_arg (P := Try.prog) wr 33 5 Try.underlying33 Try.underlying5 g o 66 c (fmtL a) hfl (fun i hi => hc i _ (by rw [ints, List.getElem?_map, List.getElem?_eq_getElem (by omega)]; simp [List.getD_eq_getElem?_getD, List.getElem?_eq_getElem (show i < (fmtL a).length by omega)])) 9 Try.underlying9
      clear hc happ hfull hfl
      go_wp2
      go_ret
      exact ⟨rfl, ((Below.refl _ _).alloc (Nat.le_refl _) _).trans (hbel.mono (by omega))⟩
end Go.Proofs.Ythfiiikanpagiaa
