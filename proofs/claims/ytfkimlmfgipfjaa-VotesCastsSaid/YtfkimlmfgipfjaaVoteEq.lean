/- Equality of votes. -/
import Derived.Test.YtfkimlmfgipfjaaVotes
namespace Go.Proofs.Ytfkimlmfgipfjaa
open Go.RowKit

theorem EqT.mono {P : Program} {m m' : Nat} {t : TypeId} {K : List Value} (h : EqT P m t K) (hm : m ≤ m') : EqT P m' t K := ⟨h.1, fun d hd => h.2 d (Nat.le_trans hm hd)⟩
def kVote : List Value := .bool false :: .int .u64 0 :: (List.replicate 32 [Value.int .u8 0]).flatten
theorem eqVote : EqT Try.prog 3 35 kVote := by
  refine EqT.struct Try.underlying35 (by kernel_rfl) (by kernel_rfl) (by kernel_rfl) ?_
  refine ⟨[.bool false], _, rfl, by decide, rfl, (EqT.bool Try.underlying4 (by kernel_rfl)).mono (by omega), ?_⟩
  refine ⟨[.int .u64 0], _, rfl, by decide, rfl, (EqT.int Try.underlying30 (by kernel_rfl)).mono (by omega), ?_⟩
  exact ⟨(List.replicate 32 [Value.int .u8 0]).flatten, [], by simp, by decide, rfl, eqRoot, rfl⟩
theorem fits_vote {v : Vt} (h : v.2.2.length = 32) : Fits kVote (vc v) := ⟨rfl, rfl, fits_root h⟩
theorem vc_inj {a b : Vt} : vc a = vc b ↔ a = b := by
  constructor
  · intro h
    simp only [vc, List.cons.injEq, Value.bool.injEq, Value.int.injEq, true_and, ints_inj] at h
    obtain ⟨h1, h2, h3⟩ := h
    exact Prod.ext h1 (Prod.ext h2 h3)
  · rintro rfl; rfl
theorem vote_same {a b : Vt} (la : a.2.2.length = 32) (lb : b.2.2.length = 32) (w : World) :
    (Op.equalIn 10000 35 (.agg (vc a).toArray) (.agg (vc b).toArray)).run Try.prog w = .ok (decide (a = b)) w :=
  eqVote.same (by omega) (agg_of_struct Try.underlying35) (size_of_underlying Try.underlying35) (fits_vote la) (fits_vote lb) (vc_len la) (vc_len lb) (by simp [vc_inj]) w
theorem vote_field (v : Vt) (h : v.2.2.length = 32) (w : World) : (Instr.field 35 (.agg (vc v).toArray) 2).run Try.prog w = .ok (.agg (ints .u8 v.2.2).toArray) w := by
  have hp := part_agg (P := Try.prog) (t := 32) (xs := (vc v).toArray) (off := 2) (agg_of_array Try.underlying32) (size_of_underlying Try.underlying32) w
  have hc : Try.prog.cellsOf 32 = 32 := by kernel_rfl
  have he : (vc v).toArray.extract 2 (2 + 32) = (ints .u8 v.2.2).toArray := by
    simp [vc, ints]
    rw [List.take_of_length_le (by simp [h])]
  rw [hc, he] at hp
  simp [Instr.field, run_underlying Try.underlying35, asAgg, hp]
end Go.Proofs.Ytfkimlmfgipfjaa
