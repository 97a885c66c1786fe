/- Parse and its reference answer alike, and read back what Format writes. -/
import Derived.Test.YthfiiikanpagiaaParseRef
namespace Go.Proofs.Ythfiiikanpagiaa
open Go.RowKit

theorem parse_join {f : FuncId} {s : ByteArray} {w : World} (hs : s.size ≤ 9223372036854775807)
    (h1 : s.size ≠ 66 → Calls Try.prog f #[.string s] w fun e w' => e = .returned (.tuple #[.agg (ints .u8 zroot).toArray, .int .i64 1]) ∧ Below w.heap.size w w')
    (h2 : s.size = 66 → (!(s.extract 0 2).toList == [48, 120]) = true → Calls Try.prog f #[.string s] w fun e w' => e = .returned (.tuple #[.agg (ints .u8 zroot).toArray, .int .i64 1]) ∧ Below w.heap.size w w')
    (h3 : s.size = 66 → (!(s.extract 0 2).toList == [48, 120]) = false → Calls Try.prog f #[.string s] w (ParsePost (digs s) w)) :
    Calls Try.prog f #[.string s] w fun e w' => e = .returned (.tuple #[.agg (ints .u8 (parseV s)).toArray, .int .i64 (parseE s)]) ∧ Below w.heap.size w w' := by
  by_cases c1 : s.size = 66
  · cases c2 : (!(s.extract 0 2).toList == [48, 120]) with
    | true =>
      have : ¬ parseOk s := fun h => by have := h.2.1; rw [this] at c2; simp at c2
      unfold parseV parseE
      rw [if_neg this, if_neg this]
      exact h2 c1 c2
    | false =>
      have hb : ((s.extract 0 2).toList == [48, 120]) = true := by simpa using c2
      refine (h3 c1 c2).mono fun e w' h => ?_
      unfold ParsePost at h
      refine ⟨?_, h.2⟩
      by_cases c3 : ∀ c ∈ digs s, 0 ≤ hexD c
      · have hk : parseOk s := ⟨c1, hb, c3⟩
        unfold parseV parseE
        rw [if_pos hk, if_pos hk]
        have := h.1
        rwa [if_pos c3] at this
      · have hk : ¬ parseOk s := fun h => c3 h.2.2
        unfold parseV parseE
        rw [if_neg hk, if_neg hk]
        have := h.1
        rwa [if_neg c3] at this
  · have : ¬ parseOk s := fun h => c1 h.1
    unfold parseV parseE
    rw [if_neg this, if_neg this]
    exact h1 c1

theorem parse_any {s : ByteArray} (hs : s.size ≤ 9223372036854775807) (w : World) :
    Calls Try.prog 14 #[.string s] w fun e w' => e = .returned (.tuple #[.agg (ints .u8 (parseV s)).toArray, .int .i64 (parseE s)]) ∧ Below w.heap.size w w' :=
  parse_join hs (fun h => parse_size hs h w) (fun h hp => parse_prefix h hp w) (fun h hp => parse_run h hp w)
theorem refParse_any {s : ByteArray} (hs : s.size ≤ 9223372036854775807) (w : World) :
    Calls Try.prog 15 #[.string s] w fun e w' => e = .returned (.tuple #[.agg (ints .u8 (parseV s)).toArray, .int .i64 (parseE s)]) ∧ Below w.heap.size w w' :=
  parse_join hs (fun h => refParse_size hs h w) (fun h hp => refParse_prefix h hp w) (fun h hp => refParse_run h hp w)

theorem parseV_length (s : ByteArray) : (parseV s).length = 32 := by
  unfold parseV
  split
  · exact packL_length _ _
  · rfl
theorem fmtL_length (a : List Int) : (fmtL a).length = 2 + 2 * a.length := by
  unfold fmtL
  have : ∀ l : List Int, (l.flatMap fun x => [hexC (x / 16), hexC (x % 16)]).length = 2 * l.length := by
    intro l
    induction l with
    | nil => rfl
    | cons x l ih => rw [List.flatMap_cons, List.length_append, ih]; simp; omega
  simp [this]; omega
theorem fmtL_byte {a : List Int} (ha : Fit .u8 a) : ∀ c ∈ fmtL a, 0 ≤ c ∧ c < 256 := by
  intro c hc
  unfold fmtL at hc
  rcases List.mem_cons.1 hc with rfl | hc
  · omega
  rcases List.mem_cons.1 hc with rfl | hc
  · omega
  obtain ⟨x, hx, hc⟩ := List.mem_flatMap.1 hc
  have := fit_u8 ha x hx
  simp at hc
  rcases hc with rfl | rfl <;> unfold hexC <;> split <;> omega
theorem nums_str {l : List Int} (h : ∀ c ∈ l, 0 ≤ c ∧ c < 256) : numsOf (strOfNums l) = l := by
  unfold numsOf
  rw [strOfNums_data, List.map_map]
  conv => rhs; rw [← List.map_id l]
  apply List.map_congr_left
  intro c hc
  have := h c hc
  simp
  omega
/-- the digits of a written root -/
theorem digs_fmt {a : List Int} (ha : Fit .u8 a) : digs (strOfNums (fmtL a)) = a.flatMap fun x => [hexC (x / 16), hexC (x % 16)] := by
  unfold digs
  rw [nums_str (fmtL_byte ha)]
  rfl
theorem flat_get : ∀ (a : List Int) (j : Nat), j < a.length → (a.flatMap fun x => [hexC (x / 16), hexC (x % 16)]).getD (2 * j) 0 = hexC (a.getD j 0 / 16) ∧ (a.flatMap fun x => [hexC (x / 16), hexC (x % 16)]).getD (2 * j + 1) 0 = hexC (a.getD j 0 % 16)
  | [], j, h => by simp at h
  | x :: l, 0, _ => by simp
  | x :: l, j + 1, h => by
    have := flat_get l j (by simpa using h)
    rw [List.flatMap_cons, show 2 * (j + 1) = 2 * j + 2 by omega]
    simpa using this
theorem fmt_ok {a : List Int} (ha : Fit .u8 a) (la : a.length = 32) : parseOk (strOfNums (fmtL a)) := by
  refine ⟨by rw [strOfNums_size, fmtL_length, la], ?_, fun c hc => ?_⟩
  · have hd : (strOfNums (fmtL a)).data = (#[48, 120] ++ ((a.flatMap fun x => [hexC (x / 16), hexC (x % 16)]).map fun n => UInt8.ofNat n.toNat).toArray) := by
      apply Array.ext'
      rw [strOfNums_data]
      simp [fmtL]
    rw [ByteArray.toList_eq, ByteArray.data_extract, hd]
    simp
  · rw [digs_fmt ha] at hc
    obtain ⟨x, hx, hc⟩ := List.mem_flatMap.1 hc
    have := fit_u8 ha x hx
    simp at hc
    rcases hc with rfl | rfl
    · rw [hexC_hexD _ (by omega) (by omega)]; omega
    · rw [hexC_hexD _ (by omega) (by omega)]; omega
theorem parseV_fmt {a : List Int} (ha : Fit .u8 a) (la : a.length = 32) : parseV (strOfNums (fmtL a)) = a := by
  unfold parseV
  rw [if_pos (fmt_ok ha la), digs_fmt ha]
  apply List.ext_getElem
  · rw [packL_length, la]
  · intro j h1 h2
    have hj : j < 32 := by simpa [packL] using h1
    rw [← getD_get _ _ h1, packL_get _ _ _ hj, if_pos (by omega), (flat_get a j h2).1, (flat_get a j h2).2, ← getD_get _ _ h2]
    have := fit_u8 ha (a.getD j 0) (by rw [getD_get _ _ h2]; exact List.getElem_mem _)
    rw [hexC_hexD _ (by omega) (by omega), hexC_hexD _ (by omega) (by omega)]
    omega
theorem parseE_fmt {a : List Int} (ha : Fit .u8 a) (la : a.length = 32) : parseE (strOfNums (fmtL a)) = 0 := by
  unfold parseE
  rw [if_pos (fmt_ok ha la)]
end Go.Proofs.Ythfiiikanpagiaa
