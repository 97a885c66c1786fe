/- BalancesCopies, walked. -/
import Derived.Test.YtfkimlmfgipfjaaBCk
namespace Go.Proofs.Ytfkimlmfgipfjaa
open Go.RowKit Go.Maps
def u5 : U := ⟨5, by decide⟩
def u6 : U := ⟨6, by decide⟩
theorem built_tbN (c : Cp) (A : Option Addr) (n cap : Nat) : Try.prog.built 55 [(0, .agg (fl (cpP c)).toArray), (1, .slice A n cap)] = some (fl (tbP c (.slice A n cap))).toArray := built_tb (c := oldC c) c.r.len A n cap
theorem reg_one (c : Cp) (b : List U) (lim : Int) (h1 : tbE b 2 = 0) (h2 : 0 < lim) : regM [] ⟨c, b⟩ 2 lim = (0, [⟨c, b⟩]) := by
  unfold regM
  rw [if_neg (fun e => e h1), show findT ([] : List Tbl) (Tbl.mk c b).c = -1 from rfl, if_neg (show ¬ (0 : Int) ≤ -1 by decide), if_neg (by simp; omega)]
  rfl
theorem asc_one (t : Tbl) : Asc [t] := List.pairwise_singleton _ _
theorem no_cells {P : Nat → Prop} {w : World} {M : Nat} {T : List Tb} (h : BkMap P w M T) : ∀ cs, ¬ Has w M cs := fun _ hh => h.ne hh rfl
theorem two_blocks {c : Cp} {s : Value} {p q : List Value} (h : fl (tbP c s) ++ p = us [u5, u6] ++ q) : False := by
  have e := congrArg (fun l : List Value => l[1]?) h
  obtain ⟨e', ⟨l, len, bt⟩⟩ := c
  cases l with
  | nil => simp at len
  | cons a t => simp [tbP, fl, rc, ints, us, U.v] at e
set_option maxRecDepth 20000 in
set_option maxHeartbeats 2000000 in
theorem balancesCopies_walk (k : Int) (w : World) (hk : (Lit.int .i64 k).wf = true) :
    Calls Try.prog 9 #[.int .i64 k] w fun e w' => e = .returned (.bool true) ∧ Below w.heap.size w w' := by
  clear hk
  have M := bx (MM.start (ok_g0 w))
  have BS := bx (show Try.prog.builtSlice 30 2 [(0, .int .u64 5), (1, .int .u64 6)] = some (fl [[.int .u64 5], [.int .u64 6]]).toArray from by kernel_rfl)
  go_enter Try.func9, Try.ntmps9
  go_wp2_with fail
  refine (newBook_any 2 4 _).mono ?_; rintro e w1 ⟨hcase, hb⟩
  rcases hcase with ⟨h, _⟩ | ⟨_, B, Mp, hM, hB, rfl, hbk⟩
  · exfalso; omega
  · have M' := M.out.below hb
    (clear M; have M := bx M'; clear M')
    have K1 := bx hbk
    have HM := bx hM
    clear hb hbk hM hB
    go_wp2_with fail
    refine (checkpoint_any k _).mono ?_; rintro e w2 ⟨c, rfl, hb⟩
    have M' := M.out.below hb
    (clear M; have M := bx M'; clear M')
    have K := bx (fun P => (K1.out P).below hb)
    clear hb K1
    have T56 := bx (show tbE [u5, u6] 2 = 0 by decide)
    go_wp2_with (first | ((with_reducible apply wpList_bsF M.out Try.underlying22 [(0, .int .u64 5), (1, .int .u64 6)] [[.int .u64 5], [.int .u64 6]]); rfl; rfl; rfl; exact BS.out; rfl; intro w' gB M' hb'; have HB : Bx (B < gB ∧ Mp < gB) := ⟨by have h1 := (K.out fun _ => True).b.lt; have h2 := (K.out fun _ => True).m.lt; have h3 := hb'.2; omega⟩; (clear M; have M := bx M'; clear M'); (have K' := fun P => (K.out P).below hb'.1; clear K; have K := bx K'; clear K' hb')) | ((with_reducible refine wpList_buildTo rfl 55 _ rfl [(0, .agg (fl (cpP c)).toArray), (1, .slice (some ⟨gB, 0, none⟩) 2 2)] (fl (tbP c (.slice (some ⟨gB, 0, none⟩) 2 2))) ?_ (built_tbN _ _ _ _) ?_); rfl) | ((with_reducible apply wpList_alc M.out); rfl; rfl; exact ztTb; intro w' g M' hb'; have HG : Bx (B < g ∧ Mp < g) := ⟨by have h1 := (K.out fun _ => True).b.lt; have h2 := (K.out fun _ => True).m.lt; have h3 := hb'.2; omega⟩; (clear M; have M := bx M'; clear M'); (have K' := fun P => (K.out P).below hb'.1; clear K; have K := bx K'; clear K' hb')) | ((with_reducible apply wpList_sts M.out 0 (tbP c (.slice (some ⟨gB, 0, none⟩) 2 2)) (tbP c (.slice (some ⟨gB, 0, none⟩) 2 2))); rfl; rfl; rfl; rfl; rfl; exact rtTb; rfl; exact tbP_len _ _; exact tb_one _ _ _ _; rfl; intro w' M' hg'; (simp only [List.set_cons_zero] at M'); (clear M; have M := bx M'; clear M'); have K' := fun P => ((K.out (fun _ => False)).far hg' (by have := HG.out; omega) (by have := HG.out; omega) (fun h => h)).any (Q := P); clear K; have K := bx K'; clear K' hg') | ((with_reducible apply wpList_ldp M.out.at0); rfl; rfl; rfl; (first | exact rtRoot | exact rtCk | exact rtTb); rfl; rfl) | ((with_reducible apply wpList_ld1 M.out.at0); rfl; rfl; rfl; (first | exact otInt | exact otU64 | exact otU64s); rfl; rfl) | ((with_reducible apply wpList_lds M.out.at0); rfl; rfl; rfl; (first | exact rtRoot | exact rtCk | exact rtTb); rfl; (try simp only [Nat.reduceAdd, List.drop_zero, cut_cp, cut_tb, cut_tb_c])))
    have RG := registerN_any B Mp 2 4 (by decide) [] ⟨c, [u5, u6]⟩ (some ⟨gB, 0, none⟩) 2 (by simp) _ (K.out (fun x => x ≠ gB)) (fun x hx e => by have := M.out.at1.has.lt; omega) (row_of_HL M.out.at1 (m := 2) (size := 1) rfl) (fun h => by cases h)
    rw [reg_one c _ 4 T56.out (by decide)] at RG
    refine RG.mono ?_; rintro e w5 ⟨rfl, hk, hg⟩
    have M' := M.out.map hg HM.out (no_cells (K.out fun _ => True).m)
    (clear M; have M := bx M'; clear M')
    clear K RG
    have K := bx hk
    clear hk hg
    go_wp2_with (first | ((with_reducible apply wpList_ldp M.out.at0); rfl; rfl; rfl; (first | exact rtRoot | exact rtCk | exact rtTb); rfl; rfl) | ((with_reducible apply wpList_ld1 M.out.at0); rfl; rfl; rfl; (first | exact otInt | exact otU64 | exact otU64s); rfl; rfl) | ((with_reducible apply wpList_lds M.out.at0); rfl; rfl; rfl; (first | exact rtRoot | exact rtCk | exact rtTb); rfl; (try simp only [Nat.reduceAdd, List.drop_zero, cut_cp, cut_tb, cut_tb_c])) | ((with_reducible apply wpList_st1 M.out 1 (.int .u64 99) [[.int .u64 99], [.int .u64 6]]); rfl; rfl; rfl; rfl; rfl; exact otU64; rfl; rfl; rfl; rfl; rfl; intro w' M' hg'; (simp only [List.set_cons_zero, List.set_cons_succ] at M'); (clear M; have M := bx M'; clear M'); have K' := K.out.far hg' (by have := HB.out; omega) (by have := HB.out; omega) (fun h => h rfl); clear K; have K := bx K'; clear K' hg'))
    refine (tables_any g0 B Mp 2 4 [⟨c, [u5, u6]⟩] (by simp) (fun t h => by simp at h; subst h; simp) (asc_one _) _ (ok_g0 _) K.out).mono ?_; rintro e w8 ⟨A8, c8, Γ8, rfl, hc8, ht8, hx⟩
    obtain ⟨X, hX, hS⟩ := ht8.2
    obtain ⟨x, rfl⟩ : ∃ x, X = [x] := List.length_eq_one_iff.1 hX.1
    have hx1 := hX.2 0 (by simp) (by simp)
    simp only [List.getElem_cons_zero] at hx1
    obtain ⟨cx, sx⟩ := x
    have hcx := hx1.c
    simp only at hcx
    subst hcx
    obtain ⟨A3, k3, e3, hc3, hs3⟩ := hx1.s
    simp only at e3
    subst e3
    obtain ⟨g3, p3, rfl, hg3⟩ := hs3 (by simp)
    obtain ⟨g2, p2, rfl, hg2⟩ := hS (by simp)
    simp only [List.flatMap_cons, List.flatMap_nil, List.append_nil] at hg2
    obtain ⟨q2, hh2⟩ := hx.ok _ _ hg2
    obtain ⟨q3, hh3⟩ := hx.ok _ _ hg3
    have hne : g2 ≠ g3 := fun e => by
      subst e
      rw [hg2] at hg3
      injection hg3 with h
      exact two_blocks h
    have f2 : ∀ k cs, Γ8 k = some cs → w'.heap.size ≤ k := fun k cs hk => by
      rcases Nat.lt_or_ge k w'.heap.size with hlt | hge
      · rw [hx.new k rfl hlt] at hk; cases hk
      · exact hge
    have FG2 := bx (f2 _ _ hg2)
    have FG3 := bx (f2 _ _ hg3)
    have LG := bx (And.intro M.out.at0.has.lt M.out.at1.has.lt)
    have K7 := bx K.out
    have E := bx hx.bel
    have W7 := bx M.out.ext.bel.size
    have M' := M.out.below hx.bel
    (clear M; have M := bx M'; clear M')
    have HH2 : Bx (HL w8 g2 [[.int .u64 (cx.e.n : Int)], rc cx.r, [.slice (some ⟨g3, 0, none⟩) 2 k3], p2 ++ q2] [1, 32, 1, (p2 ++ q2).length]) := ⟨⟨hh2.cast (by simp [fl, tbP]), by simp [rc_len]⟩⟩
    have HH3 := bx hh3
    have NE := bx hne
    clear hx hc8 ht8 hX hS hx1 hc3 hs3 hg3 hg2 hh2 hh3 hne f2 K
    have H3L : Bx (1 < (us [u5, u6] ++ p3 ++ q3).length) := ⟨by simp [us]⟩
    have BA := bx (bal_old (asc_one ⟨cx, [u5, u6]⟩) (t := ⟨cx, [u5, u6]⟩) (by simp))
    have V0 : Bx (balV ([⟨cx, [u5, u6]⟩].map oldT) (oldC cx) 0 = 5) := ⟨by unfold balV; rw [BA.out]; rfl⟩
    have V1 : Bx (balV ([⟨cx, [u5, u6]⟩].map oldT) (oldC cx) 1 = 6) := ⟨by unfold balV; rw [BA.out]; rfl⟩
    have V2 : Bx (totV (bal ([⟨cx, [u5, u6]⟩].map oldT) (oldC cx)) = 11) := ⟨by rw [BA.out]; show totV [5, 6] = 11; decide⟩
    have NF : Bx (∀ p ∈ [(⟨g, tbP cx (.slice (some ⟨gB, 0, none⟩) 2 2), [1, 32, 1]⟩ : Ent), ⟨gB, [[.int .u64 99], [.int .u64 6]], [1, 1]⟩], p.g ≠ g2 ∧ p.g ≠ g3) := ⟨fun p hp => by
      have h1 := LG.out
      have h2 := FG2.out
      have h3 := FG3.out
      simp only [List.mem_cons, List.not_mem_nil, or_false] at hp
      rcases hp with rfl | rfl
      · exact ⟨by simp only; omega, by simp only; omega⟩
      · exact ⟨by simp only; omega, by simp only; omega⟩⟩
    go_upto_region 13 with (first | ((with_reducible apply wpList_ldp HH2.out); rfl; rfl; rfl; (first | exact rtRoot | exact rtCk | exact rtTb); rfl; rfl) | ((with_reducible apply wpList_ld1 HH2.out); rfl; rfl; rfl; (first | exact otInt | exact otU64 | exact otU64s); rfl; rfl) | ((with_reducible apply wpList_lds HH2.out); rfl; rfl; rfl; (first | exact rtRoot | exact rtCk | exact rtTb); rfl; (try simp only [Nat.reduceAdd, List.drop_zero, cut_cp, cut_tb, cut_tb_c])) | ((with_reducible apply wpList_stc otU64 HH3.out H3L.out (.int .u64 77)); rfl; rfl; rfl; rfl; rfl; rfl; intro w' hh' hg'; have M' := M.out.other hg' (Nat.le_trans W7.out FG3.out) rfl (fun p hp => (NF.out p hp).2) (fun r hr => by cases hr); (clear M; have M := bx M'; clear M'); have E' := E.out.grown hg' E.out.size (fun k e => by cases e; exact FG3.out); clear E; have E := bx E'; have X' := HH2.out.has.grown hg' (ne_som NE.out); have XL := HH2.out.len; clear HH2 HH3; have HH2 := bx (HL.mk X' XL); clear X' XL E' hh' hg') | ((with_reducible apply wpList_stc otU64 HH2.out.has (i := 0) (by simp [fl]) (.int .u64 50)); rfl; rfl; rfl; rfl; rfl; rfl; intro w' hh' hg'; have M' := M.out.other hg' (Nat.le_trans W7.out FG2.out) rfl (fun p hp => (NF.out p hp).1) (fun r hr => by cases hr); (clear M; have M := bx M'; clear M'); have E' := E.out.grown hg' E.out.size (fun k e => by cases e; exact FG2.out); clear E HH2; have E := bx E'; clear E' hh' hg'))
    have K := bx (K7.out.below E.out)
    clear K7 E NF FG2 FG3 LG NE H3L W7
    go_wp2_with (first | ((with_reducible apply wpList_ldp M.out.at0); rfl; rfl; rfl; (first | exact rtRoot | exact rtCk | exact rtTb); rfl; rfl) | ((with_reducible apply wpList_ld1 M.out.at0); rfl; rfl; rfl; (first | exact otInt | exact otU64 | exact otU64s); rfl; rfl) | ((with_reducible apply wpList_lds M.out.at0); rfl; rfl; rfl; (first | exact rtRoot | exact rtCk | exact rtTb); rfl; (try simp only [Nat.reduceAdd, List.drop_zero, cut_cp, cut_tb, cut_tb_c])))
    refine (balance_any B Mp 2 4 _ (oldC cx) (oldC_ok cx) 0 (by rw [BA.out]; simp) _ K.out).mono ?_; rintro e w9 ⟨rfl, hb⟩
    rw [V0.out]
    have M' := M.out.below hb
    (clear M; have M := bx M'; clear M')
    have K' := K.out.below hb
    clear K
    have K := bx K'
    clear K' hb
    go_wp2_with (first | ((with_reducible apply wpList_ldp M.out.at0); rfl; rfl; rfl; (first | exact rtRoot | exact rtCk | exact rtTb); rfl; rfl) | ((with_reducible apply wpList_ld1 M.out.at0); rfl; rfl; rfl; (first | exact otInt | exact otU64 | exact otU64s); rfl; rfl) | ((with_reducible apply wpList_lds M.out.at0); rfl; rfl; rfl; (first | exact rtRoot | exact rtCk | exact rtTb); rfl; (try simp only [Nat.reduceAdd, List.drop_zero, cut_cp, cut_tb, cut_tb_c])))
    refine (balance_any B Mp 2 4 _ (oldC cx) (oldC_ok cx) 1 (by rw [BA.out]; simp) _ K.out).mono ?_; rintro e w9 ⟨rfl, hb⟩
    rw [V1.out]
    have M' := M.out.below hb
    (clear M; have M := bx M'; clear M')
    have K' := K.out.below hb
    clear K
    have K := bx K'
    clear K' hb
    go_wp2_with (first | ((with_reducible apply wpList_ldp M.out.at0); rfl; rfl; rfl; (first | exact rtRoot | exact rtCk | exact rtTb); rfl; rfl) | ((with_reducible apply wpList_ld1 M.out.at0); rfl; rfl; rfl; (first | exact otInt | exact otU64 | exact otU64s); rfl; rfl) | ((with_reducible apply wpList_lds M.out.at0); rfl; rfl; rfl; (first | exact rtRoot | exact rtCk | exact rtTb); rfl; (try simp only [Nat.reduceAdd, List.drop_zero, cut_cp, cut_tb, cut_tb_c])))
    refine (total_any B Mp 2 4 _ (oldC cx) (oldC_ok cx) (by rw [BA.out]; simp) (by rw [BA.out]; exact u_u64 _) _ K.out).mono ?_; rintro e w9 ⟨rfl, hb⟩
    rw [V2.out]
    have M' := M.out.below hb
    (clear M; have M := bx M'; clear M')
    clear hb K
    go_wp2_with fail
    refine (awake7_any _).mono ?_; rintro e w10 ⟨rfl, hb⟩
    have M' := M.out.below hb
    (clear M; have M := bx M'; clear M')
    clear hb
    go_wp2_with fail
    go_ret
    exact ⟨rfl, M.out.ext.bel⟩
end Go.Proofs.Ytfkimlmfgipfjaa
