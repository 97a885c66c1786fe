/- members, Total and the reference's Total, walked. -/
import Derived.Test.YtonkgjengplppaaVotM
import Derived.Test.YtonkgjengplppaaMapK
namespace Go.Proofs.Ytonkgjengplppaa
open Go.RowKit
/-- balances of the laws -/
def SmB (bs : List Int) : Prop := ∀ x ∈ bs, 0 ≤ x ∧ x ≤ 144115188075855872
theorem SmB.at {bs : List Int} (h : SmB bs) {k : Nat} (hk : k < bs.length) : 0 ≤ bs.getD k 0 ∧ bs.getD k 0 ≤ 144115188075855872 := by
  rw [getD_at hk]; exact h _ (List.getElem_mem hk)
theorem Small.smB {bs : List Int} (h : Small bs) : SmB bs := fun x hx => by have := h x hx; omega
theorem SmB.u64 {bs : List Int} (h : SmB bs) : U64 bs := fun x hx => by have := h x hx; omega
/-- balances of validators that are not in the list -/
def totV (G bs : List Int) : Nat → Int
  | 0 => 0
  | k + 1 => totV G bs k + if (k : Int) ∈ G then 0 else bs.getD k 0
theorem totV_bd {G bs : List Int} (h : SmB bs) : ∀ k, k ≤ bs.length → 0 ≤ totV G bs k ∧ totV G bs k ≤ (k : Int) * 144115188075855872
  | 0, _ => by simp [totV]
  | k + 1, hk => by
    have h1 := totV_bd (G := G) h k (by omega)
    have h2 := h.at (show k < bs.length by omega)
    unfold totV
    split <;> omega
/-- validators below 65536 -/
def GOk (G : List Int) : Prop := ∀ g ∈ G, 0 ≤ g ∧ g ≤ 65535
theorem take_push {G : List Int} {k : Nat} (hk : k < G.length) : G.take (k + 1) = G.take k ++ [G.getD k 0] := by
  rw [List.take_succ_eq_append_getElem hk, getD_at hk]
/-- what members answers -/
def MbP (G : List Int) (w : World) (e : Ending) (w' : World) : Prop := ∃ b, e = .returned (.map (some b)) ∧ w.heap.size ≤ b ∧ GMap w' b G ∧ Below w.heap.size w w'
set_option maxRecDepth 20000 in
set_option maxHeartbeats 1000000 in
theorem members_any (AL AE : Option Addr) (nl cl ne ce : Nat) (G : List Int) (hG : GOk G) (hn : ne ≤ 4096) (w : World) (h : GRow w AE ne G) :
    Calls Try.prog 45 #[.agg #[.slice AL nl cl, .slice AE ne ce]] w (MbP G w) := by
  have hmm := @run_makeMap Try.prog
  have GR := bx h
  have GL := bx h.1
  have HG := bx hG
  have HN := bx hn
  have X0 := bx ((Has.new w [.slice AL nl cl, .slice AE ne ce] 28).alloc (.map #[] 0))
  have B0 := bx ((ext_alloc w (.cells #[.slice AL nl cl, .slice AE ne ce] 28)).alloc (by simp) (.map #[] 0))
  have M0 : Bx (GMap ((w.alloc (.cells #[.slice AL nl cl, .slice AE ne ce] 28)).alloc (.map #[] 0)) (w.heap.size + 1) []) := ⟨by have := GMap.made (w.alloc (.cells #[.slice AL nl cl, .slice AE ne ce] 28)); simpa using this⟩
  have hc0 : ((w.alloc (.cells #[.slice AL nl cl, .slice AE ne ce] 28)).alloc (.map #[] 0)).cell? ⟨w.heap.size, 1, none⟩ = some (.slice AE ne ce) := X0.out.cell 1
  clear h hG
  go_enter Try.func45, Try.ntmps45
  go_wp2_with fail
  go_loopw [10] (fun i wr => ∃ k : Nat, k ≤ ne ∧ i = .int .i64 k ∧ GMap wr (w.heap.size + 1) (G.take k) ∧ Below w.heap.size w wr) (fun i _ => ne - (intOf i).toNat)
  case atStart => exact ⟨0, Nat.zero_le _, rfl, M0.out, B0.out⟩
  case round =>
    obtain ⟨k, hk, rfl, hgm, hbel⟩ := hrel
    have GM := bx hgm
    have BR := bx hbel
    clear hgm hbel X0 B0 M0 hc0
    by_cases hkn : k < ne
    · have hki : (k : Int) < (ne : Int) := by omega
      have hk0 : (0 : Int) ≤ (k : Int) := by omega
      have hkl : k < G.length := by rw [GL.out]; exact hkn
      obtain ⟨gE, pE, rfl, hgE⟩ := (GR.out.below BR.out).2 (by omega)
      have hcx : wr.cell? ⟨gE, k, none⟩ = some (.int .i64 (G.getD k 0)) := by
        rw [hgE.cell, List.getElem?_append_left (by rw [ints_len]; exact hkl)]; exact ints_at hkl
      have hxw : 0 ≤ G.getD k 0 ∧ G.getD k 0 ≤ 65535 := by rw [getD_at hkl]; exact HG.out _ (List.getElem_mem hkl)
      have TP := bx (take_push hkl)
      generalize G.getD k 0 = x at *
      obtain ⟨wn, hrun, hgm, hgr⟩ := GM.out.put (wf_i64 hxw.1 hxw.2) (by rw [List.length_take]; unfold maxLen; omega)
      rw [← TP.out] at hgm
      have GN := bx hgm
      have BN := bx (BR.out.grown hgr BR.out.size (fun k hk => by cases hk; omega))
      have HRUN := bx hrun
      clear hgE hrun hgm hgr
      go_wp2_with (at_mapUpdate; (with_reducible refine wpList_upd rfl _ _ _ 82 rfl (w.heap.size + 1) (.int .i64 x) (.bool true) ?_ ?_ ?_ HRUN.out ?_); rfl; rfl; rfl)
      go_roundw
      case rel => exact ⟨k + 1, by omega, by go_num, GN.out, BN.out⟩
      case measure => simp [intOf]; omega
    · obtain rfl : k = ne := by omega
      have HT : Bx (G.take k = G) := ⟨List.take_of_length_le (by rw [GL.out]; exact Nat.le_refl _)⟩
      go_wp2_with fail
      go_ret
      exact ⟨w.heap.size + 1, rfl, Nat.le_succ _, by rw [← HT.out]; exact GM.out, BR.out⟩
theorem votes_new (w : World) (a b : Value) : Has (w.alloc (.cells #[a, b] 28)) w.heap.size [a, b] := Has.new w [a, b] _
set_option maxRecDepth 20000 in
set_option maxHeartbeats 1000000 in
theorem total_any (AL AE Ab : Option Addr) (nl cl ne ce n cb : Nat) (G bs : List Int) (hG : GOk G) (hn : ne ≤ 4096) (hs : SmB bs) (hb9 : n ≤ 100) (w : World) (h : GRow w AE ne G) (h1 : URow w Ab n bs) :
    Calls Try.prog 21 #[.agg #[.slice AL nl cl, .slice AE ne ce], .slice Ab n cb] w fun e w' => e = .returned (.int .u64 (totV G bs n)) ∧ Below w.heap.size w w' := by
  have GR := bx h
  have HG := bx hG
  have HN := bx hn
  have UR := bx h1
  have LB := bx h1.1
  have HS := bx hs
  have X0 := bx (votes_new w (.slice AL nl cl) (.slice AE ne ce))
  have B0 := bx (ext_alloc w (.cells #[.slice AL nl cl, .slice AE ne ce] 28))
  clear h hG h1 hs
  go_enter Try.func21, Try.ntmps21
  go_wp2_with ((with_reducible refine wpList_loadG 28 _ rfl _ [.slice AL nl cl, .slice AE ne ce] ?_ ?_ X0.out Try.underlying28 rfl ?_ ?_); rfl; rfl; exact cells_votes _ _)
  refine (members_any AL AE nl cl ne ce G HG.out hn _ (GR.out.below B0.out)).mono ?_; rintro e w1 ⟨b, rfl, hbs, hgm, hb⟩
  have B1 := bx (B0.out.trans (hb.mono B0.out.size))
  have GM := bx hgm
  have LB2 := bx hgm.lt
  clear hb hgm X0 B0 hbs
  go_wp2_with fail
  go_loop [6, 13] (fun s i => ∃ k : Nat, k ≤ n ∧ i = .int .i64 k ∧ s = .int .u64 (totV G bs k)) (fun _ i => n - (intOf i).toNat)
  case atStart => exact ⟨0, Nat.zero_le _, rfl, rfl⟩
  case round =>
    obtain ⟨k, hk, rfl, rfl⟩ := hrel
    by_cases hkn : k < n
    · have hki : (k : Int) < (n : Int) := by omega
      have hk0 : (0 : Int) ≤ (k : Int) := by omega
      have hkl : k < bs.length := by rw [LB.out]; exact hkn
      obtain ⟨gb, pb, rfl, hgb⟩ := (UR.out.below B1.out).2 (by omega)
      have hcb := URow.cell hgb hkl
      have hlk := GM.out.look (wf_i64 (x := (k : Int)) (by omega) (by omega))
      have hb1 := HS.out.at hkl
      have hb2 := totV_bd (G := G) HS.out k (by omega)
      have hts : totV G bs (k + 1) = totV G bs k + if (k : Int) ∈ G then 0 else bs.getD k 0 := rfl
      have HTS := bx hts
      clear hgb hts
      generalize bs.getD k 0 = x at *
      generalize totV G bs k = s at *
      have hkm : (k : Int) * 144115188075855872 ≤ 100 * 144115188075855872 := Int.mul_le_mul_of_nonneg_right (by omega) (by decide)
      have hsx : (s + x) % 18446744073709551616 = s + x := by omega
      by_cases hmem : (k : Int) ∈ G
      · rw [decide_eq_true hmem] at hlk
        have HT := bx (show totV G bs (k + 1) = s by rw [HTS.out, if_pos hmem]; omega)
        clear hmem
        go_wp2_with fail
        go_round
        case rel => exact ⟨k + 1, by omega, by go_num, by rw [HT.out]⟩
        case measure => simp [intOf]; omega
      · rw [decide_eq_false hmem] at hlk
        have HT := bx (show totV G bs (k + 1) = s + x by rw [HTS.out, if_neg hmem])
        clear hmem
        go_wp2_with fail
        go_round
        case rel => exact ⟨k + 1, by omega, by go_num, by rw [HT.out]⟩
        case measure => simp [intOf]; omega
    · obtain rfl : k = n := by omega
      go_wp2_with fail
      go_ret
      exact ⟨rfl, B1.out⟩
set_option maxRecDepth 20000 in
set_option maxHeartbeats 1000000 in
theorem refTotal_any (AL AE Ab : Option Addr) (nl cl ne ce n cb : Nat) (G bs : List Int) (hn : ne ≤ 4096) (hs : SmB bs) (hb9 : n ≤ 100) (w : World) (h : GRow w AE ne G) (h1 : URow w Ab n bs) :
    Calls Try.prog 22 #[.agg #[.slice AL nl cl, .slice AE ne ce], .slice Ab n cb] w fun e w' => e = .returned (.int .u64 (totV G bs n)) ∧ Below w.heap.size w w' := by
  have X0 := bx (votes_new w (.slice AL nl cl) (.slice AE ne ce))
  have B0 := bx (ext_alloc w (.cells #[.slice AL nl cl, .slice AE ne ce] 28))
  have GR := bx (h.below B0.out).row
  have UR := bx (h1.below B0.out)
  have LB := bx h1.1
  have HS := bx hs
  have hc0 : (w.alloc (.cells #[.slice AL nl cl, .slice AE ne ce] 28)).cell? ⟨w.heap.size, 1, none⟩ = some (.slice AE ne ce) := X0.out.cell 1
  clear h h1 hs X0
  go_enter Try.func22, Try.ntmps22
  go_wp2_with fail
  generalize w.alloc (.cells #[.slice AL nl cl, .slice AE ne ce] 28) = w1 at *
  have HAS := bx (fun x => has_any _ AE ne ce G x w1 GR.out (by omega))
  clear GR
  go_loop [5, 6] (fun s i => ∃ k : Nat, k ≤ n ∧ i = .int .i64 k ∧ s = .int .u64 (totV G bs k)) (fun _ i => n - (intOf i).toNat)
  case atStart => exact ⟨0, Nat.zero_le _, rfl, rfl⟩
  case round =>
    obtain ⟨k, hk, rfl, rfl⟩ := hrel
    by_cases hkn : k < n
    · have hki : (k : Int) < (n : Int) := by omega
      have hk0 : (0 : Int) ≤ (k : Int) := by omega
      have hkl : k < bs.length := by rw [LB.out]; exact hkn
      obtain ⟨gb, pb, rfl, hgb⟩ := UR.out.2 (by omega)
      have hcb := URow.cell hgb hkl
      have hb1 := HS.out.at hkl
      have hb2 := totV_bd (G := G) HS.out k (by omega)
      have hts : totV G bs (k + 1) = totV G bs k + if (k : Int) ∈ G then 0 else bs.getD k 0 := rfl
      have HTS := bx hts
      clear hgb hts
      generalize bs.getD k 0 = x at *
      generalize totV G bs k = s at *
      have hkm : (k : Int) * 144115188075855872 ≤ 100 * 144115188075855872 := Int.mul_le_mul_of_nonneg_right (by omega) (by decide)
      have hsx : (s + x) % 18446744073709551616 = s + x := by omega
      go_wp2_with fail
      refine (HAS.out k).mono ?_; rintro e w2 ⟨rfl, rfl⟩
      by_cases hmem : (k : Int) ∈ G
      · have HT := bx (show totV G bs (k + 1) = s by rw [HTS.out, if_pos hmem]; omega)
        rw [decide_eq_true hmem]
        clear hmem
        go_wp2_with fail
        go_round
        case rel => exact ⟨k + 1, by omega, by go_num, by rw [HT.out]⟩
        case measure => simp [intOf]; omega
      · have HT := bx (show totV G bs (k + 1) = s + x by rw [HTS.out, if_neg hmem])
        rw [decide_eq_false hmem]
        clear hmem
        go_wp2_with fail
        go_round
        case rel => exact ⟨k + 1, by omega, by go_num, by rw [HT.out]⟩
        case measure => simp [intOf]; omega
    · obtain rfl : k = n := by omega
      go_wp2_with fail
      go_ret
      exact ⟨rfl, B0.out⟩
end Go.Proofs.Ytonkgjengplppaa
