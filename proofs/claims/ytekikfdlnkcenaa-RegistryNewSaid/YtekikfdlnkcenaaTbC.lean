/- Tables copied, dropped, by the reference and by the program. -/
import Derived.Test.YtekikfdlnkcenaaTbF
import Derived.Test.YtekikfdlnkcenaaMmP
import Derived.Test.YtekikfdlnkcenaaBkC
namespace Go.Proofs.Ytekikfdlnkcenaa
open Go.RowKit
theorem elU64 : ElT Try.prog 36 30 1 8 := elT_of Try.underlying36 (by kernel_rfl) (by decide) (by decide)
theorem elTb : ElT Try.prog 27 38 34 64 := elT_of Try.underlying27 (by kernel_rfl) (by decide) (by decide)
theorem ztTb : ZeroT Try.prog 38 (tbP cp0 (.slice none 0 0)) [1, 32, 1] := ⟨fun w => by kernel_rfl, tbP_len _ _⟩
theorem us_one (l : List U) : One (us l) := fun u hu => by
  obtain ⟨x, _, rfl⟩ := List.mem_map.1 hu
  rfl
/-- a table in new memory -/
def CTb (Γ : Gam) (w : World) (t : Tbl) (e : Ending) (w' : World) : Prop := ∃ s Γ', e = .returned (.agg (fl (tbP t.c s)).toArray) ∧ TbG Γ' (t.c, s) t ∧ Ext Γ w Γ' w'
set_option maxRecDepth 20000 in
set_option maxHeartbeats 1000000 in
theorem refCopy_any (Γ : Gam) (c : Cp) (b : List U) (hb : b.length ≤ 65535) (A : Option Addr) (k : Nat) (w : World) (ok : Ok Γ w) (h : Row w w.heap.size 1 A b.length (us b)) (hA : A = none → k = 0) :
    Calls Try.prog 76 #[.agg (fl (tbP c (.slice A b.length k))).toArray] w (CTb Γ w ⟨c, b⟩) := by
  have M := bx (MM.start ok)
  have HR := bx h
  have HA := bx hA
  clear h ok hA
  go_enter Try.func76, Try.ntmps76
  go_wp2_with (first | ((with_reducible apply wpList_box M.out); rfl; rfl; rfl; exact tbP_len _ _; intro w' g M' hb'; (clear M; have M := bx M'; clear M'); clear hb') | ((with_reducible apply wpList_alc M.out); rfl; rfl; exact ztTb; intro w' g M' hb'; (clear M; have M := bx M'; clear M'); clear hb') | ((with_reducible apply wpList_ldp M.out.at1); rfl; rfl; rfl; (first | exact rtRoot | exact rtCk | exact rtTb); rfl; rfl) | ((with_reducible apply wpList_ld1 M.out.at1); rfl; rfl; rfl; (first | exact otInt | exact otU64 | exact otU64s); rfl; rfl) | ((with_reducible apply wpList_lds M.out.at1); rfl; rfl; rfl; (first | exact rtRoot | exact rtCk | exact rtTb); rfl; (try simp only [Nat.reduceAdd, List.drop_zero, cut_cp, cut_tb, cut_tb_c])) | (at_builtin; (with_reducible apply wpList_pushR (M.out.row0 30 1) elU64 (HR.out.below M.out.ext.bel |>.more M.out.ext.bel.size) HA.out); exact us_one _; (unfold maxLen; omega); omega; rfl; rfl; rfl; rfl; intro A' c' w' M'; (simp only [Nat.zero_add, List.nil_append] at M'); (clear M; have M := bx M'; clear M')) | ((with_reducible apply wpList_st1 M.out 1 (.slice A' b.length c') (tbP c (.slice A' b.length c'))); rfl; rfl; rfl; rfl; rfl; (first | exact otInt | exact otU64 | exact otU64s); rfl; rfl; rfl; rfl; rfl; intro w' M' hg'; (simp only [List.set_cons_zero, List.set_cons_succ] at M'); (clear M; have M := bx M'; clear M'); clear hg') | ((with_reducible apply wpList_sts M.out 0 (tbP c (.slice A' b.length c')) (tbP c (.slice A' b.length c'))); rfl; rfl; rfl; rfl; rfl; (first | exact rtRoot | exact rtCk | exact rtTb); rfl; exact tbP_len _ _; exact tb_one _ _ _ _; rfl; intro w' M' hg'; (simp only [List.set_cons_zero, List.set_cons_succ] at M'); (clear M; have M := bx M'; clear M'); clear hg'))
  obtain ⟨Γ', h1, h2, h3, h4⟩ := M.out.frz
  exact bodyPost_ret (results_L (by rfl) _ h4.at0 (by rfl) rtTb rfl) rfl ⟨_, Γ', rfl, ⟨rfl, _, _, rfl, h1, h2⟩, h4.ext⟩
end Go.Proofs.Ytekikfdlnkcenaa
