/- BalancesBooks, walked. -/
import Derived.Test.YtfkimlmfgipfjaaBkT
import Derived.Test.YtfkimlmfgipfjaaAw7
namespace Go.Proofs.Ytfkimlmfgipfjaa
open Go.RowKit Go.Maps
theorem zck_okB : CkOk (0, zroot) := ⟨by decide, by decide, rfl, fun x hx => by
  have := List.eq_of_mem_replicate (show x ∈ List.replicate 32 0 from hx)
  omega⟩
set_option maxRecDepth 20000 in
set_option maxHeartbeats 1000000 in
theorem balancesBooks_walk (v lim : Int) (w : World) (hv : (Lit.int .i64 v).wf = true) (hl : (Lit.int .i64 lim).wf = true) :
    Calls Try.prog 8 #[.int .i64 v, .int .i64 lim] w fun e w' => e = .returned (.bool true) ∧ Below w.heap.size w w' := by
  clear hv hl
  have LC := bx (show Try.prog.built 53 [] = some (ckc (0, zroot)).toArray from by kernel_rfl)
  go_enter Try.func8, Try.ntmps8
  go_wp2_with fail
  refine (newBook_any v lim _).mono ?_; rintro e w1 ⟨hcase, hb⟩
  have B1 := bx hb
  clear hb
  rcases hcase with ⟨hbad, rfl⟩ | ⟨⟨⟨h1, h2⟩, h3, h4⟩, B, M, hM, hB, rfl, hbk⟩
  · by_cases c1 : v < 0
    · go_wp2_with fail
      refine (awake7_any _).mono ?_; rintro e w2 ⟨rfl, hb⟩
      have B2 := bx (B1.out.trans (hb.mono B1.out.size))
      clear hb
      go_wp2_with fail
      go_ret
      exact ⟨rfl, B2.out⟩
    · by_cases c2 : 1024 < v
      · go_wp2_with fail
        refine (awake7_any _).mono ?_; rintro e w2 ⟨rfl, hb⟩
        have B2 := bx (B1.out.trans (hb.mono B1.out.size))
        clear hb
        go_wp2_with fail
        go_ret
        exact ⟨rfl, B2.out⟩
      · by_cases c3 : lim < 1
        · go_wp2_with fail
          refine (awake7_any _).mono ?_; rintro e w2 ⟨rfl, hb⟩
          have B2 := bx (B1.out.trans (hb.mono B1.out.size))
          clear hb
          go_wp2_with fail
          go_ret
          exact ⟨rfl, B2.out⟩
        · have c4 : 64 < lim := by omega
          go_wp2_with fail
          refine (awake7_any _).mono ?_; rintro e w2 ⟨rfl, hb⟩
          have B2 := bx (B1.out.trans (hb.mono B1.out.size))
          clear hb
          go_wp2_with fail
          go_ret
          exact ⟨rfl, B2.out⟩
  · have K1 := bx hbk
    have d1 : ¬ v < 0 := by omega
    have d2 : ¬ 1024 < v := by omega
    have d3 : ¬ lim < 1 := by omega
    have d4 : ¬ 64 < lim := by omega
    clear hbk h1 h2 h3 h4 hM hB
    go_wp2_with fail
    refine (tables_any g0 B M v lim [] (by decide) (fun t h => by cases h) List.Pairwise.nil _ (ok_g0 _) K1.out).mono ?_; rintro e w2 ⟨A2, c2, Γ2, rfl, _, _, hx⟩
    have K2 := bx (K1.out.below hx.bel)
    have B2 := bx (B1.out.trans (hx.bel.mono B1.out.size))
    clear hx
    go_wp2_with ((with_reducible refine wpList_buildTo rfl 53 _ rfl [] (ckc (0, zroot)) ?_ LC.out ?_); rfl)
    refine (known_any B M v lim [] (0, zroot) zck_okB _ K2.out).mono ?_; rintro e w3 ⟨rfl, hb⟩
    have B3 := bx (B2.out.trans (hb.mono B2.out.size))
    clear hb
    rw [show (look ([] : List Tb) (0, zroot)).isSome = false from rfl]
    go_wp2_with fail
    refine (awake7_any _).mono ?_; rintro e w4 ⟨rfl, hb⟩
    have B4 := bx (B3.out.trans (hb.mono B3.out.size))
    clear hb
    go_wp2_with fail
    go_ret
    exact ⟨rfl, B4.out⟩
end Go.Proofs.Ytfkimlmfgipfjaa
