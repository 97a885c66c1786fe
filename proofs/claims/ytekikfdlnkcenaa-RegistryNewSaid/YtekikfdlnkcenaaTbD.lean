/- Tables dropped and added by the reference. -/
import Derived.Test.YtekikfdlnkcenaaTbS
namespace Go.Proofs.Ytekikfdlnkcenaa
open Go.RowKit
abbrev tbx (x : Cp × Value) : List Value := fl (tbP x.1 x.2)
/-- a list of tables, in new memory -/
def TsP (Γ : Gam) (w : World) (T : List Tbl) (e : Ending) (w' : World) : Prop := ∃ (A : Option Addr) (c : Nat) (Γ' : Gam), e = .returned (.slice A T.length c) ∧ CapOk A T.length c ∧ TsG Γ' A T.length T ∧ Ext Γ w Γ' w'
theorem tbx_one {Γ : Gam} {x : Cp × Value} {t : Tbl} (h : TbG Γ x t) : One (tbx x) := by
  obtain ⟨A, k, e, _⟩ := h.s
  unfold tbx
  rw [e]; exact tb_one _ _ _ _
theorem flat_snoc {α β : Type} (X : List α) (x : α) (f : α → List β) : (X ++ [x]).flatMap f = X.flatMap f ++ f x := by simp
def dropT (T : List Tbl) (e : Nat) : List Tbl := T.filter fun t => decide (e ≤ t.c.e.n)
theorem dropT_len (T : List Tbl) (e : Nat) : (dropT T e).length ≤ T.length := List.length_filter_le _ _
theorem dropT_yes {T : List Tbl} {e k : Nat} (hk : k < T.length) (h : e ≤ T[k].c.e.n) : dropT (T.take (k + 1)) e = dropT (T.take k) e ++ [T[k]] := by
  unfold dropT
  rw [List.take_succ_eq_append_getElem hk, List.filter_append]
  simp [h]
theorem dropT_no {T : List Tbl} {e k : Nat} (hk : k < T.length) (h : ¬ e ≤ T[k].c.e.n) : dropT (T.take (k + 1)) e = dropT (T.take k) e := by
  unfold dropT
  rw [List.take_succ_eq_append_getElem hk, List.filter_append]
  simp [h]
set_option maxRecDepth 20000 in
set_option maxHeartbeats 1000000 in
theorem dropTables_any (Γ : Gam) (A : Option Addr) (n c : Nat) (T : List Tbl) (e : Nat) (hn : n ≤ 65535) (w : World) (ok : Ok Γ w) (h : TsG Γ A n T) :
    Calls Try.prog 9 #[.slice A n c, .int .u64 e] w (TsP Γ w (dropT T e)) := by
  have M := bx (MM.start ok)
  have HT := bx h
  clear h ok
  go_enter Try.func9, Try.ntmps9
  go_wp2_with fail
  go_loopw [5, 6] (fun s i wr => ∃ (k : Nat) (X : List (Cp × Value)) (A1 : Option Addr) (c1 : Nat), k ≤ n ∧ i = .int .i64 k ∧ s = .slice A1 X.length c1 ∧ X.length ≤ k ∧ All2 (TbG Γ) X (dropT (T.take k) e) ∧ MM Γ w Γ wr [] [⟨.slice A1 X.length c1, 38, 34, X.length, X.flatMap tbx⟩]) (fun _ i _ => n - (intOf i).toNat)
  case atStart => exact ⟨0, [], none, 0, Nat.zero_le _, rfl, rfl, Nat.le_refl _, All2.nil, M.out.row0 _ _⟩
  case round =>
    obtain ⟨k, X, A1, c1, hk, rfl, rfl, hXk, hX, hM⟩ := hrel
    clear M
    have M := bx hM
    have HX := bx hX
    clear hM hX
    by_cases hkn : k < n
    · have hkl : k < T.length := by rw [HT.out.1]; exact hkn
      obtain ⟨g, s, rfl, hst, hc⟩ := HT.out.at k hkn
      have HC := bx hc
      have ST := bx hst
      have hki : (k : Int) < (n : Int) := by omega
      have hk0 : 0 ≤ (k : Int) := by omega
      have YES := bx (dropT_yes (e := e) hkl)
      have NO := bx (dropT_no (e := e) hkl)
      have HKN := bx hkn
      have hX5 : X.length + 1 ≤ 65536 := by omega
      clear hst hc
      generalize T[k] = t at *
      by_cases he : e ≤ t.c.e.n
      · have hei : (e : Int) ≤ (t.c.e.n : Int) := by omega
        have YES' := bx (YES.out he)
        clear YES NO
        go_wp2_with (first | ((with_reducible apply wpList_rdp (CL.of HC.out (tbP_len _ _) M.out.ext.ok)); rfl; rfl; rfl; (first | exact rtRoot | exact rtCk | exact rtTb); rfl; rfl) | ((with_reducible apply wpList_rd1 (CL.of HC.out (tbP_len _ _) M.out.ext.ok)); rfl; rfl; rfl; (first | exact otInt | exact otU64 | exact otU64s); rfl; rfl) | ((with_reducible apply wpList_rds (CL.of HC.out (tbP_len _ _) M.out.ext.ok)); rfl; rfl; rfl; (first | exact rtRoot | exact rtCk | exact rtTb); rfl; (try simp only [Nat.reduceAdd, List.drop_zero, cut_cp, cut_tb, cut_tb_c])) | ((with_reducible apply wpList_rdp0 (CL.of HC.out (tbP_len _ _) M.out.ext.ok)); rfl; rfl; rfl; (first | exact rtRoot | exact rtCk | exact rtTb); rfl; rfl) | ((with_reducible apply wpList_rd10 (CL.of HC.out (tbP_len _ _) M.out.ext.ok)); rfl; rfl; rfl; (first | exact otInt | exact otU64 | exact otU64s); rfl; rfl) | ((with_reducible apply wpList_rds0 (CL.of HC.out (tbP_len _ _) M.out.ext.ok)); rfl; rfl; rfl; (first | exact rtRoot | exact rtCk | exact rtTb); rfl; (try simp only [Nat.reduceAdd, List.drop_zero, cut_cp, cut_tb, cut_tb_c])) | ((with_reducible apply wpList_bs M.out elTb); rfl; rfl; rfl; rfl; exact tbP_len _ _; rfl; intro w' g M' hb'; (clear M; have M := bx M'; clear M'); clear hb') | (at_builtin; (with_reducible apply wpList_pushE M.out elTb); rfl; exact tbx_one ST.out; (unfold maxLen; omega); omega; rfl; rfl; rfl; rfl; intro A' c' w' M'; (clear M; have M := bx M'; clear M')))
        go_roundw
        case rel => exact ⟨k + 1, X ++ [(t.c, s)], A', c', by omega, by go_num, by simp, by simp; omega, by rw [YES'.out]; exact HX.out.app (All2.one ST.out), by rw [flat_snoc, List.length_append]; exact M.out⟩
        case measure => have := HKN.out; simp [intOf]; omega
      · have hei : (t.c.e.n : Int) < (e : Int) := by omega
        have NO' := bx (NO.out he)
        clear YES NO
        go_wp2_with (first | ((with_reducible apply wpList_rdp (CL.of HC.out (tbP_len _ _) M.out.ext.ok)); rfl; rfl; rfl; (first | exact rtRoot | exact rtCk | exact rtTb); rfl; rfl) | ((with_reducible apply wpList_rd1 (CL.of HC.out (tbP_len _ _) M.out.ext.ok)); rfl; rfl; rfl; (first | exact otInt | exact otU64 | exact otU64s); rfl; rfl) | ((with_reducible apply wpList_rds (CL.of HC.out (tbP_len _ _) M.out.ext.ok)); rfl; rfl; rfl; (first | exact rtRoot | exact rtCk | exact rtTb); rfl; (try simp only [Nat.reduceAdd, List.drop_zero, cut_cp, cut_tb, cut_tb_c])) | ((with_reducible apply wpList_rdp0 (CL.of HC.out (tbP_len _ _) M.out.ext.ok)); rfl; rfl; rfl; (first | exact rtRoot | exact rtCk | exact rtTb); rfl; rfl) | ((with_reducible apply wpList_rd10 (CL.of HC.out (tbP_len _ _) M.out.ext.ok)); rfl; rfl; rfl; (first | exact otInt | exact otU64 | exact otU64s); rfl; rfl) | ((with_reducible apply wpList_rds0 (CL.of HC.out (tbP_len _ _) M.out.ext.ok)); rfl; rfl; rfl; (first | exact rtRoot | exact rtCk | exact rtTb); rfl; (try simp only [Nat.reduceAdd, List.drop_zero, cut_cp, cut_tb, cut_tb_c])))
        go_roundw
        case rel => exact ⟨k + 1, X, A1, c1, by omega, by go_num, rfl, by omega, by rw [NO'.out]; exact HX.out, M.out⟩
        case measure => have := HKN.out; simp [intOf]; omega
    · obtain rfl : k = n := by omega
      have hT : T.take k = T := List.take_of_length_le (by rw [HT.out.1]; exact Nat.le_refl _)
      rw [hT] at HX
      clear hT
      go_wp2_with fail
      go_ret
      obtain ⟨Γ', h1, h2, h3, h4⟩ := M.out.frz
      have hl := HX.out.1
      exact ⟨A1, c1, Γ', by rw [hl]; rfl, hl ▸ h1, ⟨rfl, X, HX.out.imp (fun _ _ h => h.mono h3), by rw [← hl]; exact h2⟩, h4.ext⟩
end Go.Proofs.Ytekikfdlnkcenaa
