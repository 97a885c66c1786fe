/- Numbers of 256 bits: decimal notation is read. -/
import Derived.Test.YtpgpplpddjjchaaDoorWideFo
import Derived.Test.YtpgpplpddjjchaaDoorWideF
import Derived.Test.YtpgpplpddjjchaaDoorWideD
import Derived.Test.YtpgpplpddjjchaaDoorMix2
namespace Go.Proofs.YtpgpplpddjjchaaDoor
open Go.RowKit

theorem run_index_str {P : Program} {t : TypeId} (ht : P.underlying t = some .string) (s : ByteArray) (i : Nat) (hi : i < s.size) (w : World) :
    (Instr.index t (.string s) (.int .i64 (i : Int))).run P w = .ok (.int .u8 ((s[i].toNat : Nat) : Int)) w := by
  have h0 : (0 : Int) ≤ (i : Int) := by omega
  simp only [Instr.index, asIntOf, Sem.run_bind, Sem.run_pure, Result.andThen_ok, run_underlying ht]
  rw [if_pos h0, Int.toNat_natCast, getElem?_pos s i hi]
  rfl
/-- the bytes of a string, as numbers -/
def numsOf (s : ByteArray) : List Int := s.data.toList.map fun b => (b.toNat : Int)
theorem numsOf_len (s : ByteArray) : (numsOf s).length = s.size := by unfold numsOf; rw [List.length_map]; rfl
theorem numsOf_at (s : ByteArray) (i : Nat) (hi : i < s.size) : (numsOf s).getD i 0 = ((s[i].toNat : Nat) : Int) := by
  have : (numsOf s)[i]? = some ((s[i].toNat : Nat) : Int) := by
    rw [numsOf, List.getElem?_map, Array.getElem?_toList, Array.getElem?_eq_getElem (show i < s.data.size from hi)]
    rfl
  rw [List.getD_eq_getElem?_getD, this]; rfl
theorem numsOf_bd {s : ByteArray} {x : Int} (h : x ∈ numsOf s) : 0 ≤ x ∧ x ≤ 255 := by
  obtain ⟨b, _, rfl⟩ := List.mem_map.1 h
  have := b.toNat_lt
  omega
def digB (c : Int) : Bool := decide (48 ≤ c) && decide (c ≤ 57)
/-- no text of a number -/
def badT (l : List Int) : Bool := decide (l.length = 0) || decide (80 < l.length) || (decide (l.getD 0 0 = 48) && decide (1 < l.length)) || !(l.all digB)
def pW (l : List Int) : Nat := if badT l = true then 0 else okW (pv l)
def pE (l : List Int) : Int := if badT l = true then 1 else erW (pv l)
theorem bad_of {l : List Int} (h : badT l = true) : pW l = 0 ∧ pE l = 1 := ⟨if_pos h, if_pos h⟩
theorem good_of {l : List Int} (h : badT l = false) : pW l = okW (pv l) ∧ pE l = erW (pv l) := ⟨if_neg (by rw [h]; decide), if_neg (by rw [h]; decide)⟩
theorem bad_digit {l : List Int} {k : Nat} (hk : k < l.length) (h : digB (l.getD k 0) = false) : badT l = true := by
  have : l.all digB = false := by
    rw [List.all_eq_false]
    refine ⟨l.getD k 0, ?_, by rw [h]; decide⟩
    rw [List.getD_eq_getElem?_getD, List.getElem?_eq_getElem hk]; exact List.getElem_mem hk
  unfold badT
  rw [this]; simp
theorem good_all {l : List Int} (h0 : l.length ≠ 0) (h1 : l.length ≤ 80) (h2 : l.getD 0 0 ≠ 48 ∨ l.length = 1) (h3 : ∀ k, k < l.length → digB (l.getD k 0) = true) : badT l = false := by
  have : l.all digB = true := by
    rw [List.all_eq_true]
    intro x hx
    obtain ⟨k, hk, rfl⟩ := List.getElem_of_mem hx
    have := h3 k hk
    rwa [List.getD_eq_getElem?_getD, List.getElem?_eq_getElem hk] at this
  unfold badT
  rw [this, decide_eq_false h0, decide_eq_false (by omega)]
  rcases h2 with h2 | h2
  · rw [decide_eq_false h2]; rfl
  · rw [show decide (1 < l.length) = false from decide_eq_false (by omega)]; simp
theorem pv_take {l : List Int} {k : Nat} (hk : k < l.length) : pv (l.take (k + 1)) = pv (l.take k) * 10 + (l.getD k 0 - 48).toNat := by
  rw [List.take_succ_eq_append_getElem hk, pv_snoc, List.getD_eq_getElem?_getD, List.getElem?_eq_getElem hk]; rfl
theorem pv_take_le (l : List Int) (k : Nat) : pv (l.take k) ≤ pv l := by
  have := pv_le_append (l.take k) (l.drop k)
  rwa [List.take_append_drop] at this
theorem over_of {l : List Int} (h : badT l = false) (h2 : ¬ pv l < 2 ^ 256) : pW l = 0 ∧ pE l = 4 := by
  obtain ⟨h3, h4⟩ := good_of h
  rw [h3, h4]
  exact ⟨if_neg h2, if_neg h2⟩
theorem fits_of {l : List Int} (h : badT l = false) (h2 : pv l < 2 ^ 256) : pW l = pv l ∧ pE l = 0 := by
  obtain ⟨h3, h4⟩ := good_of h
  rw [h3, h4]
  exact ⟨if_pos h2, if_pos h2⟩
/-- what a reading answers -/
def WP (l : List Int) (w : World) (e : Ending) (w' : World) : Prop := e = .returned (.tuple #[.agg (ints .u64 (wl (pW l))).toArray, .int .i64 (pE l)]) ∧ Below w.heap.size w w'
end Go.Proofs.YtpgpplpddjjchaaDoor
