/- The laws' votes, walked. -/
import Derived.Test.YtonkgjengplppaaVotM
namespace Go.Proofs.Ytonkgjengplppaa
open Go.RowKit
theorem cells_votesl : Try.prog.cellsOf 26 = 1 := by kernel_rfl
theorem cells_intsl : Try.prog.cellsOf 22 = 1 := by kernel_rfl
theorem two_one (A B : Option Addr) (a b c d : Nat) : ∀ u ∈ [Value.slice A a b, .slice B c d], u.oneCell' = true := fun u hu => by
  simp only [List.mem_cons, List.not_mem_nil, or_false] at hu
  rcases hu with rfl | rfl <;> rfl
theorem VOk.push {vs : List Vt} (h : VOk vs) {v : Vt} (hv : v.2.2.length = 32 ∧ Bt v.2.2) : VOk (vs ++ [v]) := fun x hx => by
  rcases List.mem_append.1 hx with hx | hx
  · exact h x hx
  · have : x = v := by simpa using hx
    subst this; exact hv
theorem small_more {G : List Int} {k : Nat} (h : ∀ g ∈ G, 0 ≤ g ∧ g < (k : Int)) : ∀ g ∈ G, 0 ≤ g ∧ g < ((k + 1 : Nat) : Int) := fun g hg => by have := h g hg; omega
theorem small_push {G : List Int} {k : Nat} (h : ∀ g ∈ G, 0 ≤ g ∧ g < (k : Int)) : ∀ g ∈ G ++ [(k : Int)], 0 ≤ g ∧ g < ((k + 1 : Nat) : Int) := fun g hg => by
  rcases List.mem_append.1 hg with hg | hg
  · have := h g hg; omega
  · have : g = k := by simpa using hg
    omega
set_option maxRecDepth 20000 in
set_option maxHeartbeats 2000000 in
theorem votes_any (B : Nat) (A0 : Option Addr) (n0 c0 : Nat) (ns : List Nd) (A1 : Option Addr) (m1 c1 : Nat) (l : List Int) (n : Nat) (hn : n ≤ 100) (w : World) (h0 : NRow w A0 n0 ns) (hn0 : 0 < n0) (hn9 : n0 ≤ 4096) (hbt : ∀ x ∈ ns, Bt x.b.root)
    (hr : Row w B 1 A1 m1 (ints .i64 l)) (hm : m1 ≤ maxLen) (hB : B ≤ w.heap.size) :
    Calls Try.prog 38 #[.agg #[.slice A0 n0 c0], .int .i64 n, .slice A1 m1 c1] w (VoP n w) := by
  obtain ⟨i0, hi0, hz0, hz1, hz2⟩ := info_parts info_int
  have HI := bx (show Try.prog.info? 3 = some i0 from hi0)
  obtain ⟨iv, hiv, hv0, hv1, hv2⟩ := info_parts info_vote
  have HIV := bx (show Try.prog.info? 54 = some iv from hiv)
  have HAT := bx (fun (i : Nat) (hi : i ≤ 65535) w' (hb : Below w.heap.size w w') => at_any B A1 m1 c1 l i hi w' (hr.below (hb.mono hB)) hm (Nat.le_trans hB hb.size))
  have HROW := bx h0
  have HBT := bx hbt
  have HN0 := bx hn0
  have HN9 := bx hn9
  have HN := bx hn
  have LN := bx h0.1
  have hzv := zv_lit
  clear hi0 hiv hr hm hB h0 hbt
  go_enter Try.func38, Try.ntmps38
  go_wp2_with fail
  generalize hW : World.alloc (World.alloc (World.alloc w _) _) _ = wA
  have VA : Bx (VS w A0 n0 c0 wA 0 [] (.slice none 0 0) 0 [] (.slice none 0 0)) := ⟨by
    rw [← hW]
    refine ⟨((Has.new w _ _).alloc _).alloc _, ?_, ?_, World.ownsRow_nil _ _ _ _, World.ownsRow_nil _ _ _ _, Dis.nil _, ((ext_alloc w _).alloc (by simp) _).alloc (by simp; omega) _⟩
    · exact (has_newAt (alloc_size w _) [.slice none 0 0, .slice none 0 0] _).alloc _
    · exact has_newAt (by simp) [.slice none 0 0, .slice none 0 0] _⟩
  clear hW
  go_loopw [8] (fun i wr => ∃ (k : Nat) (vs : List Vt) (sL sE : Value) (nE : Nat) (G : List Int), k ≤ n ∧ i = .int .i64 k ∧ VOk vs ∧ vs.length = k ∧ G.length = nE ∧ nE ≤ k ∧ (∀ g ∈ G, 0 ≤ g ∧ g < (k : Int)) ∧ VS w A0 n0 c0 wr k vs sL nE G sE) (fun i _ => n - (intOf i).toNat)
  case atStart => exact ⟨0, [], _, _, 0, [], Nat.zero_le _, rfl, fun x hx => by simp at hx, rfl, rfl, Nat.le_refl _, fun x hx => by simp at hx, VA.out⟩
  case round =>
    obtain ⟨k, vs, sL, sE, nE, G, hk, rfl, hvo, hvl, hgl, hne, hgs, hvs⟩ := hrel
    have VOKs := bx hvo
    have HVL := bx hvl
    have HGL := bx hgl
    have HNE := bx hne
    have HGS := bx hgs
    have VR := bx hvs
    clear hvo hvl hgl hne hgs hvs VA
    obtain ⟨AL, cl, hv⟩ := own_slice VR.out.oL
    subst hv
    obtain ⟨AE, ce, hv⟩ := own_slice VR.out.oE
    subst hv
    by_cases hkn : k < n
    · have hki : (k : Int) < (n : Int) := by omega
      have hk5 : k ≤ 65535 := by omega
      have HKN := bx hkn
      have HM1 : Bx (k + 1 ≤ maxLen) := ⟨by unfold maxLen; omega⟩
      have HM2 : Bx ((k + 1) * 48 ≤ 140737488355328) := ⟨by omega⟩
      have HM3 : Bx (nE + 1 ≤ maxLen) := ⟨by have := HNE.out; unfold maxLen; omega⟩
      have HM4 : Bx ((nE + 1) * 8 ≤ 140737488355328) := ⟨by have := HNE.out; omega⟩
      have OK1 : Bx (∀ u ∈ [Value.int .i64 (k : Int)], u.oneCell' = true) := ⟨by intro u hu; simp at hu; subst hu; rfl⟩
      have MEA : Bx (n - (intOf (.int .i64 ((k : Int) + 1))).toNat < n - (intOf (.int .i64 (k : Int))).toNat) := ⟨by simp [intOf]; omega⟩
      go_wp2_with fail
      refine (HAT.out k hk5 _ VR.out.b).mono ?_; rintro e w1 ⟨⟨q, hq, rfl⟩, hb⟩
      have V1 := bx (VR.out.ext hb)
      clear hb VR
      have HZ := bx (Has.new w1 (vc zv) 54)
      have EX := bx (ext_alloc w1 (.cells (vc zv).toArray 54))
      have OKZ : Bx (zv.2.2.length = 32 ∧ Bt zv.2.2) := ⟨rfl, zroot_bt⟩
      rcases (show (q : Int) % 5 = 0 ∨ (q : Int) % 5 = 1 ∨ (1 < (q : Int) % 5) by omega) with h5 | h5 | h5
      · go_upto_region 11 with (first | ((with_reducible refine wpList_buildTo rfl 54 _ rfl [] (vc zv) ?_ built_vote0 ?_); rfl) | ((with_reducible refine wpList_storeB rfl 54 _ _ rfl _ (vc zv) _ ?_ ?_ HZ.out (rfl) Try.underlying54 ?_ (vc_one _) ?_); rfl; rfl; exact cells_vote OKZ.out.1; intro w2 hw hg hz; have H2 := bx hw; have B2 := bx (EX.out.grown hg EX.out.size (fun k hk => by cases hk; exact Nat.le_refl _)); clear hw hg hz))
        have V2 := bx (V1.out.ext B2.out)
        have hc0 : (w2).cell? ⟨w.heap.size + 1 + 1, 0, none⟩ = some (.slice AL k cl) := V2.out.x7.cell 0
        by_cases h6 : (q : Int) / 4096 % 6 = 0
        · go_wp2_with (first | ((with_reducible refine wpList_loadG 54 _ rfl _ (vc zv) ?_ ?_ H2.out Try.underlying54 rfl ?_ ?_); rfl; rfl; exact cells_vote OKZ.out.1) | ((with_reducible refine Great.wpList_buildSliceTo rfl 26 54 1 _ rfl _ rfl _ rfl Try.underlying26 (vc zv).toArray ?_ ?_); rw [Array.toList_map]; exact built_sliceV OKZ.out.1) | (at_builtin; (with_reducible refine wpList_pushG rfl (.tmp 49) (.tmp 51) 26 rfl (w.heap.size + 1 + 1 + 1) 54 iv _ 34 48 Try.underlying26 HIV.out hv0 hv1 hv2 ?_ (by omega) _ _ _ ?_ V2.out.oL _ rfl (vc zv) ?_ ?_ (vc_one _) HM1.out HM2.out V2.out.size ?_); rfl; rfl; rfl; exact vc_len OKZ.out.1; intro v' w' hown' hg' hbel' hd'; have OWN := bx hown'; have GRW := bx hg'; have BEL := bx hbel'; have DD := bx hd'; have X7 := bx (V2.out.x7L hbel'); obtain ⟨AL', cl', hv'⟩ := own_slice hown'; subst hv'; clear hown' hg' hbel' hd') | ((with_reducible refine wpList_storeS rfl 26 _ _ rfl (w.heap.size + 1 + 1) 0 AL' (k + 1) cl' _ ?_ ?_ X7.out (Nat.zero_lt_succ _) Try.underlying26 cells_votesl ?_); rfl; rfl; intro w9 hw hg; have VS9 := bx (V2.out.pushL (v := zv) OWN.out GRW.out DD.out BEL.out hw hg); have hc1 : w9.cell? ⟨w.heap.size + 1 + 1, 1, none⟩ = some (.slice AE nE ce) := VS9.out.x7.cell 1; clear OWN GRW DD BEL X7 hw hg) | (at_builtin; (with_reducible refine wpList_pushG rfl (.tmp 59) (.tmp 61) 22 rfl (w.heap.size + 1 + 1 + 1) 3 i0 _ 1 8 Try.underlying22 HI.out hz0 hz1 hz2 ?_ (by omega) _ _ _ ?_ VS9.out.oE _ rfl [.int .i64 k] ?_ ?_ OK1.out HM3.out HM4.out VS9.out.size ?_); rfl; rfl; rfl; rfl; intro v' w' hown' hg' hbel' hd'; have OWN := bx hown'; have GRW := bx hg'; have BEL := bx hbel'; have DD := bx hd'; have X7 := bx (VS9.out.x7L hbel'); obtain ⟨AE', ce', hv'⟩ := own_slice hown'; subst hv'; clear hown' hg' hbel' hd') | ((with_reducible refine wpList_storeS rfl 22 _ _ rfl (w.heap.size + 1 + 1) 1 AE' (nE + 1) ce' _ ?_ ?_ X7.out (Nat.lt_succ_self _) Try.underlying22 cells_intsl ?_); rfl; rfl; intro w10 hw hg; have VS10 := bx (VS9.out.pushE (x := k) OWN.out GRW.out DD.out BEL.out hw hg); clear OWN GRW DD BEL X7 hw hg))
          go_roundw
          case rel => exact ⟨k + 1, vs ++ [zv], .slice AL' (k + 1) cl', .slice AE' (nE + 1) ce', nE + 1, G ++ [(k : Int)], HKN.out, by go_num, VOKs.out.push OKZ.out, by rw [List.length_append, HVL.out]; rfl, by rw [List.length_append, HGL.out]; rfl, Nat.succ_le_succ HNE.out, small_push HGS.out, VS10.out⟩
          case measure => exact MEA.out
        · go_wp2_with (first | ((with_reducible refine wpList_loadG 54 _ rfl _ (vc zv) ?_ ?_ H2.out Try.underlying54 rfl ?_ ?_); rfl; rfl; exact cells_vote OKZ.out.1) | ((with_reducible refine Great.wpList_buildSliceTo rfl 26 54 1 _ rfl _ rfl _ rfl Try.underlying26 (vc zv).toArray ?_ ?_); rw [Array.toList_map]; exact built_sliceV OKZ.out.1) | (at_builtin; (with_reducible refine wpList_pushG rfl (.tmp 49) (.tmp 51) 26 rfl (w.heap.size + 1 + 1 + 1) 54 iv _ 34 48 Try.underlying26 HIV.out hv0 hv1 hv2 ?_ (by omega) _ _ _ ?_ V2.out.oL _ rfl (vc zv) ?_ ?_ (vc_one _) HM1.out HM2.out V2.out.size ?_); rfl; rfl; rfl; exact vc_len OKZ.out.1; intro v' w' hown' hg' hbel' hd'; have OWN := bx hown'; have GRW := bx hg'; have BEL := bx hbel'; have DD := bx hd'; have X7 := bx (V2.out.x7L hbel'); obtain ⟨AL', cl', hv'⟩ := own_slice hown'; subst hv'; clear hown' hg' hbel' hd') | ((with_reducible refine wpList_storeS rfl 26 _ _ rfl (w.heap.size + 1 + 1) 0 AL' (k + 1) cl' _ ?_ ?_ X7.out (Nat.zero_lt_succ _) Try.underlying26 cells_votesl ?_); rfl; rfl; intro w9 hw hg; have VS9 := bx (V2.out.pushL (v := zv) OWN.out GRW.out DD.out BEL.out hw hg); have hc1 : w9.cell? ⟨w.heap.size + 1 + 1, 1, none⟩ = some (.slice AE nE ce) := VS9.out.x7.cell 1; clear OWN GRW DD BEL X7 hw hg))
          go_roundw
          case rel => exact ⟨k + 1, vs ++ [zv], .slice AL' (k + 1) cl', .slice AE nE ce, nE, G, HKN.out, by go_num, VOKs.out.push OKZ.out, by rw [List.length_append, HVL.out]; rfl, HGL.out, Nat.le_succ_of_le HNE.out, small_more HGS.out, VS9.out⟩
          case measure => exact MEA.out
      · have a1 : (q : Int) / 8 % 4 % 18446744073709551616 = (q : Int) / 8 % 4 := by omega
        go_upto_if 22 with (first | ((with_reducible refine wpList_buildTo rfl 54 _ rfl [] (vc zv) ?_ built_vote0 ?_); rfl) | ((with_reducible refine wpList_storeB rfl 54 _ _ rfl _ (vc zv) _ ?_ ?_ HZ.out (rfl) Try.underlying54 ?_ (vc_one _) ?_); rfl; rfl; exact cells_vote OKZ.out.1; intro w2 hw hg hz; have H2 := bx hw; have B2 := bx (EX.out.grown hg EX.out.size (fun k hk => by cases hk; exact Nat.le_refl _)); clear hw hg hz))
        go_wp2_with fail
        refine (root_any _ _).mono ?_; rintro e w3 ⟨rfl, hb⟩
        have H3 := bx (H2.out.below hb H2.out.lt)
        have B3 := bx (B2.out.trans (hb.mono B2.out.size))
        have LR := bx (rootL_length ((q : Int) / 32 % 30))
        have BR := bx (rootL_bt ((q : Int) / 32 % 30))
        clear hb
        generalize rootL ((q : Int) / 32 % 30) = r at *
        have OKV : Bx ((true, (q : Int) / 8 % 4, r).2.2.length = 32 ∧ Bt (true, (q : Int) / 8 % 4, r).2.2) := ⟨LR.out, BR.out⟩
        go_upto_region 11 with (first | ((with_reducible refine wpList_buildTo rfl 54 _ rfl [(0, .bool true), (1, .int .u64 ((q : Int) / 8 % 4)), (2, .agg (ints .u8 r).toArray)] (vc (true, ((q : Int) / 8 % 4), r)) ?_ (built_vote LR.out ((q : Int) / 8 % 4)) ?_); rfl) | ((with_reducible refine wpList_storeB rfl 54 _ _ rfl _ (vc (true, (q : Int) / 8 % 4, r)) _ ?_ ?_ H3.out ((vlen0 OKV.out.1)) Try.underlying54 ?_ (vc_one _) ?_); rfl; rfl; exact cells_vote OKV.out.1; intro w4 hw hg hz; have H4 := bx hw; have B4 := bx (B3.out.grown hg B3.out.size (fun k hk => by cases hk; exact Nat.le_refl _)); clear hw hg hz))
        have V4 := bx (V1.out.ext B4.out)
        generalize (q : Int) / 8 % 4 = ep at *
        have hc0 : (w4).cell? ⟨w.heap.size + 1 + 1, 0, none⟩ = some (.slice AL k cl) := V4.out.x7.cell 0
        by_cases h6 : (q : Int) / 4096 % 6 = 0
        · go_wp2_with (first | ((with_reducible refine wpList_loadG 54 _ rfl _ (vc (true, ep, r)) ?_ ?_ H4.out Try.underlying54 rfl ?_ ?_); rfl; rfl; exact cells_vote OKV.out.1) | ((with_reducible refine Great.wpList_buildSliceTo rfl 26 54 1 _ rfl _ rfl _ rfl Try.underlying26 (vc (true, ep, r)).toArray ?_ ?_); rw [Array.toList_map]; exact built_sliceV OKV.out.1) | (at_builtin; (with_reducible refine wpList_pushG rfl (.tmp 49) (.tmp 51) 26 rfl (w.heap.size + 1 + 1 + 1) 54 iv _ 34 48 Try.underlying26 HIV.out hv0 hv1 hv2 ?_ (by omega) _ _ _ ?_ V4.out.oL _ rfl (vc (true, ep, r)) ?_ ?_ (vc_one _) HM1.out HM2.out V4.out.size ?_); rfl; rfl; rfl; exact vc_len OKV.out.1; intro v' w' hown' hg' hbel' hd'; have OWN := bx hown'; have GRW := bx hg'; have BEL := bx hbel'; have DD := bx hd'; have X7 := bx (V4.out.x7L hbel'); obtain ⟨AL', cl', hv'⟩ := own_slice hown'; subst hv'; clear hown' hg' hbel' hd') | ((with_reducible refine wpList_storeS rfl 26 _ _ rfl (w.heap.size + 1 + 1) 0 AL' (k + 1) cl' _ ?_ ?_ X7.out (Nat.zero_lt_succ _) Try.underlying26 cells_votesl ?_); rfl; rfl; intro w9 hw hg; have VS9 := bx (V4.out.pushL (v := (true, ep, r)) OWN.out GRW.out DD.out BEL.out hw hg); have hc1 : w9.cell? ⟨w.heap.size + 1 + 1, 1, none⟩ = some (.slice AE nE ce) := VS9.out.x7.cell 1; clear OWN GRW DD BEL X7 hw hg) | (at_builtin; (with_reducible refine wpList_pushG rfl (.tmp 59) (.tmp 61) 22 rfl (w.heap.size + 1 + 1 + 1) 3 i0 _ 1 8 Try.underlying22 HI.out hz0 hz1 hz2 ?_ (by omega) _ _ _ ?_ VS9.out.oE _ rfl [.int .i64 k] ?_ ?_ OK1.out HM3.out HM4.out VS9.out.size ?_); rfl; rfl; rfl; rfl; intro v' w' hown' hg' hbel' hd'; have OWN := bx hown'; have GRW := bx hg'; have BEL := bx hbel'; have DD := bx hd'; have X7 := bx (VS9.out.x7L hbel'); obtain ⟨AE', ce', hv'⟩ := own_slice hown'; subst hv'; clear hown' hg' hbel' hd') | ((with_reducible refine wpList_storeS rfl 22 _ _ rfl (w.heap.size + 1 + 1) 1 AE' (nE + 1) ce' _ ?_ ?_ X7.out (Nat.lt_succ_self _) Try.underlying22 cells_intsl ?_); rfl; rfl; intro w10 hw hg; have VS10 := bx (VS9.out.pushE (x := k) OWN.out GRW.out DD.out BEL.out hw hg); clear OWN GRW DD BEL X7 hw hg))
          go_roundw
          case rel => exact ⟨k + 1, vs ++ [(true, ep, r)], .slice AL' (k + 1) cl', .slice AE' (nE + 1) ce', nE + 1, G ++ [(k : Int)], HKN.out, by go_num, VOKs.out.push OKV.out, by rw [List.length_append, HVL.out]; rfl, by rw [List.length_append, HGL.out]; rfl, Nat.succ_le_succ HNE.out, small_push HGS.out, VS10.out⟩
          case measure => exact MEA.out
        · go_wp2_with (first | ((with_reducible refine wpList_loadG 54 _ rfl _ (vc (true, ep, r)) ?_ ?_ H4.out Try.underlying54 rfl ?_ ?_); rfl; rfl; exact cells_vote OKV.out.1) | ((with_reducible refine Great.wpList_buildSliceTo rfl 26 54 1 _ rfl _ rfl _ rfl Try.underlying26 (vc (true, ep, r)).toArray ?_ ?_); rw [Array.toList_map]; exact built_sliceV OKV.out.1) | (at_builtin; (with_reducible refine wpList_pushG rfl (.tmp 49) (.tmp 51) 26 rfl (w.heap.size + 1 + 1 + 1) 54 iv _ 34 48 Try.underlying26 HIV.out hv0 hv1 hv2 ?_ (by omega) _ _ _ ?_ V4.out.oL _ rfl (vc (true, ep, r)) ?_ ?_ (vc_one _) HM1.out HM2.out V4.out.size ?_); rfl; rfl; rfl; exact vc_len OKV.out.1; intro v' w' hown' hg' hbel' hd'; have OWN := bx hown'; have GRW := bx hg'; have BEL := bx hbel'; have DD := bx hd'; have X7 := bx (V4.out.x7L hbel'); obtain ⟨AL', cl', hv'⟩ := own_slice hown'; subst hv'; clear hown' hg' hbel' hd') | ((with_reducible refine wpList_storeS rfl 26 _ _ rfl (w.heap.size + 1 + 1) 0 AL' (k + 1) cl' _ ?_ ?_ X7.out (Nat.zero_lt_succ _) Try.underlying26 cells_votesl ?_); rfl; rfl; intro w9 hw hg; have VS9 := bx (V4.out.pushL (v := (true, ep, r)) OWN.out GRW.out DD.out BEL.out hw hg); have hc1 : w9.cell? ⟨w.heap.size + 1 + 1, 1, none⟩ = some (.slice AE nE ce) := VS9.out.x7.cell 1; clear OWN GRW DD BEL X7 hw hg))
          go_roundw
          case rel => exact ⟨k + 1, vs ++ [(true, ep, r)], .slice AL' (k + 1) cl', .slice AE nE ce, nE, G, HKN.out, by go_num, VOKs.out.push OKV.out, by rw [List.length_append, HVL.out]; rfl, HGL.out, Nat.le_succ_of_le HNE.out, small_more HGS.out, VS9.out⟩
          case measure => exact MEA.out
      · have a1 : (q : Int) / 8 % 4 % 18446744073709551616 = (q : Int) / 8 % 4 := by omega
        go_upto_if 22 with (first | ((with_reducible refine wpList_buildTo rfl 54 _ rfl [] (vc zv) ?_ built_vote0 ?_); rfl) | ((with_reducible refine wpList_storeB rfl 54 _ _ rfl _ (vc zv) _ ?_ ?_ HZ.out (rfl) Try.underlying54 ?_ (vc_one _) ?_); rfl; rfl; exact cells_vote OKZ.out.1; intro w2 hw hg hz; have H2 := bx hw; have B2 := bx (EX.out.grown hg EX.out.size (fun k hk => by cases hk; exact Nat.le_refl _)); clear hw hg hz))
        go_wp2_with fail
        refine (root_any _ _).mono ?_; rintro e w3 ⟨rfl, hb⟩
        have H3 := bx (H2.out.below hb H2.out.lt)
        have B3 := bx (B2.out.trans (hb.mono B2.out.size))
        have LR := bx (rootL_length ((q : Int) / 32 % 30))
        have BR := bx (rootL_bt ((q : Int) / 32 % 30))
        clear hb
        generalize rootL ((q : Int) / 32 % 30) = r at *
        have OKV : Bx ((true, (q : Int) / 8 % 4, r).2.2.length = 32 ∧ Bt (true, (q : Int) / 8 % 4, r).2.2) := ⟨LR.out, BR.out⟩
        go_upto_region 10 with (first | ((with_reducible refine wpList_buildTo rfl 54 _ rfl [(0, .bool true), (1, .int .u64 ((q : Int) / 8 % 4)), (2, .agg (ints .u8 r).toArray)] (vc (true, ((q : Int) / 8 % 4), r)) ?_ (built_vote LR.out ((q : Int) / 8 % 4)) ?_); rfl) | ((with_reducible refine wpList_storeB rfl 54 _ _ rfl _ (vc (true, (q : Int) / 8 % 4, r)) _ ?_ ?_ H3.out ((vlen0 OKV.out.1)) Try.underlying54 ?_ (vc_one _) ?_); rfl; rfl; exact cells_vote OKV.out.1; intro w4 hw hg hz; have H4 := bx hw; have B4 := bx (B3.out.grown hg B3.out.size (fun k hk => by cases hk; exact Nat.le_refl _)); clear hw hg hz))
        have hmk : q / 32 % n0 < n0 := Nat.mod_lt _ hn0
        have hm0 : (q : Int) / 32 = ((q / 32 : Nat) : Int) := by omega
        have hm1 : ((q / 32 : Nat) : Int) % (n0 : Int) = ((q / 32 % n0 : Nat) : Int) := by omega
        have hm2 : ((q / 32 % n0 : Nat) : Int) < (n0 : Int) := by omega
        have hm3 : (0 : Int) ≤ ((q / 32 % n0 : Nat) : Int) := by omega
        have hk00 : ((n0 : Int) == 0) = false := by rw [beq_eq_false_iff_ne]; omega
        have hml : q / 32 % n0 < ns.length := by rw [LN.out]; exact hmk
        have V4 := bx (V1.out.ext B4.out)
        have V4d : Bx (VS w A0 n0 c0 w4.drew k vs (.slice AL k cl) nE G (.slice AE nE ce)) := ⟨V4.out.x3.drew, V4.out.x6.drew, V4.out.x7.drew, V4.out.oL, V4.out.oE, V4.out.d, V4.out.b.drew⟩
        have H4d : Bx (Has w4.drew w1.heap.size (vc (true, (q : Int) / 8 % 4, r))) := ⟨H4.out⟩
        obtain ⟨g0, p0, hA0, hg0⟩ := (HROW.out.below V4.out.b).2.2 hn0
        have hN4 := HROW.out.2.1
        have CR := bx (fun w6 (h6 : Cls w4.drew.heap.size w4.drew w6) => (hg0.drew.below h6.out hg0.lt).nodeRoot hN4 (q / 32 % n0) hml)
        have CN := bx (fun w6 (h6 : Cls w4.drew.heap.size w4.drew w6) => run_nodes1 ((V4d.out.x3.below h6.out V4d.out.x3.lt).cell 0))
        have HRM := bx ((hN4 _ (List.getElem_mem hml)).root)
        have BRM := bx (HBT.out _ (List.getElem_mem hml))
        have B4d : Bx (Below w1.heap.size w1 w4.drew) := ⟨B4.out.drew⟩
        clear V4 H4 B4 B3 H3 B2 H2 hN4 hg0
        generalize ns[q / 32 % n0].b.root = rm at *
        generalize q / 32 % n0 = m at *
        generalize q / 32 = q32 at *
        refine wp_region_mix3 13 (.steps [(0, 0), (0, 1), (0, 2), (0, 3), (0, 4), (0, 5), (0, 6), (0, 7), (0, 8), (0, 9), (0, 10), (0, 11), (0, 12)] .leaf) (by kernel_rfl) (by kernel_rfl) ?_
        simp only [MixT, MT.steps, stepAt, List.getD_cons_zero, List.getD_cons_succ, List.drop_succ_cons, List.drop_zero]
        subst hA0
        repeat (first | (with_reducible refine wpQuiet_nil ?_) | (first | go_big_quiet_skip | (go_big_quiet_want; first | (first | ((with_reducible refine quiet_cell 23 _ rfl _ _ ?_ CN.out ?_); rfl; go_big_quiet_on; (simp only [Act.put, List.setIfInBounds_toArray, List.set_cons_succ, List.set_cons_zero])) | ((with_reducible refine quiet_loadRng 41 _ rfl g0 (m * 240 + 67) (ints .u8 rm) ?_ CR.out Try.underlying41 ?_ ?_ ?_); rfl; rfl; exact cells_root HRM.out; go_big_quiet_on; (simp only [Act.put, List.setIfInBounds_toArray, List.set_cons_succ, List.set_cons_zero]))) | (go_big_quiet_op; first | go_big_quiet_on | ((with_reducible refine ⟨_, fun _ _ => rfl, ?_⟩); go_big_quiet_on)))))
        generalize w4.drew = w5 at *
        generalize (q : Int) / 8 % 4 = ep at *
        have OKM : Bx ((true, ep, rm).2.2.length = 32 ∧ Bt (true, ep, rm).2.2) := ⟨HRM.out, BRM.out⟩
        go_wp2_with ((with_reducible refine wpList_storeV rfl _ _ rfl w1.heap.size (true, ep, r) rm ?_ ?_ H4d.out OKV.out.1 HRM.out ?_); rfl; rfl; intro w6 hw hg hz; have H6 := bx hw; have B6 := bx (B4d.out.grown hg B4d.out.size (fun k hk => by cases hk; exact Nat.le_refl _)); clear hw hg hz)
        refine NoPanic.normal ?_
        have V6 := bx (V1.out.ext B6.out)
        clear V4d H4d B4d CR CN
        have hc0 : (w6).cell? ⟨w.heap.size + 1 + 1, 0, none⟩ = some (.slice AL k cl) := V6.out.x7.cell 0
        by_cases h6 : (q : Int) / 4096 % 6 = 0
        · go_wp2_with (first | ((with_reducible refine wpList_loadG 54 _ rfl _ (vc (true, ep, rm)) ?_ ?_ H6.out Try.underlying54 rfl ?_ ?_); rfl; rfl; exact cells_vote OKM.out.1) | ((with_reducible refine Great.wpList_buildSliceTo rfl 26 54 1 _ rfl _ rfl _ rfl Try.underlying26 (vc (true, ep, rm)).toArray ?_ ?_); rw [Array.toList_map]; exact built_sliceV OKM.out.1) | (at_builtin; (with_reducible refine wpList_pushG rfl (.tmp 49) (.tmp 51) 26 rfl (w.heap.size + 1 + 1 + 1) 54 iv _ 34 48 Try.underlying26 HIV.out hv0 hv1 hv2 ?_ (by omega) _ _ _ ?_ V6.out.oL _ rfl (vc (true, ep, rm)) ?_ ?_ (vc_one _) HM1.out HM2.out V6.out.size ?_); rfl; rfl; rfl; exact vc_len OKM.out.1; intro v' w' hown' hg' hbel' hd'; have OWN := bx hown'; have GRW := bx hg'; have BEL := bx hbel'; have DD := bx hd'; have X7 := bx (V6.out.x7L hbel'); obtain ⟨AL', cl', hv'⟩ := own_slice hown'; subst hv'; clear hown' hg' hbel' hd') | ((with_reducible refine wpList_storeS rfl 26 _ _ rfl (w.heap.size + 1 + 1) 0 AL' (k + 1) cl' _ ?_ ?_ X7.out (Nat.zero_lt_succ _) Try.underlying26 cells_votesl ?_); rfl; rfl; intro w9 hw hg; have VS9 := bx (V6.out.pushL (v := (true, ep, rm)) OWN.out GRW.out DD.out BEL.out hw hg); have hc1 : w9.cell? ⟨w.heap.size + 1 + 1, 1, none⟩ = some (.slice AE nE ce) := VS9.out.x7.cell 1; clear OWN GRW DD BEL X7 hw hg) | (at_builtin; (with_reducible refine wpList_pushG rfl (.tmp 59) (.tmp 61) 22 rfl (w.heap.size + 1 + 1 + 1) 3 i0 _ 1 8 Try.underlying22 HI.out hz0 hz1 hz2 ?_ (by omega) _ _ _ ?_ VS9.out.oE _ rfl [.int .i64 k] ?_ ?_ OK1.out HM3.out HM4.out VS9.out.size ?_); rfl; rfl; rfl; rfl; intro v' w' hown' hg' hbel' hd'; have OWN := bx hown'; have GRW := bx hg'; have BEL := bx hbel'; have DD := bx hd'; have X7 := bx (VS9.out.x7L hbel'); obtain ⟨AE', ce', hv'⟩ := own_slice hown'; subst hv'; clear hown' hg' hbel' hd') | ((with_reducible refine wpList_storeS rfl 22 _ _ rfl (w.heap.size + 1 + 1) 1 AE' (nE + 1) ce' _ ?_ ?_ X7.out (Nat.lt_succ_self _) Try.underlying22 cells_intsl ?_); rfl; rfl; intro w10 hw hg; have VS10 := bx (VS9.out.pushE (x := k) OWN.out GRW.out DD.out BEL.out hw hg); clear OWN GRW DD BEL X7 hw hg))
          go_roundw
          case rel => exact ⟨k + 1, vs ++ [(true, ep, rm)], .slice AL' (k + 1) cl', .slice AE' (nE + 1) ce', nE + 1, G ++ [(k : Int)], HKN.out, by go_num, VOKs.out.push OKM.out, by rw [List.length_append, HVL.out]; rfl, by rw [List.length_append, HGL.out]; rfl, Nat.succ_le_succ HNE.out, small_push HGS.out, VS10.out⟩
          case measure => exact MEA.out
        · go_wp2_with (first | ((with_reducible refine wpList_loadG 54 _ rfl _ (vc (true, ep, rm)) ?_ ?_ H6.out Try.underlying54 rfl ?_ ?_); rfl; rfl; exact cells_vote OKM.out.1) | ((with_reducible refine Great.wpList_buildSliceTo rfl 26 54 1 _ rfl _ rfl _ rfl Try.underlying26 (vc (true, ep, rm)).toArray ?_ ?_); rw [Array.toList_map]; exact built_sliceV OKM.out.1) | (at_builtin; (with_reducible refine wpList_pushG rfl (.tmp 49) (.tmp 51) 26 rfl (w.heap.size + 1 + 1 + 1) 54 iv _ 34 48 Try.underlying26 HIV.out hv0 hv1 hv2 ?_ (by omega) _ _ _ ?_ V6.out.oL _ rfl (vc (true, ep, rm)) ?_ ?_ (vc_one _) HM1.out HM2.out V6.out.size ?_); rfl; rfl; rfl; exact vc_len OKM.out.1; intro v' w' hown' hg' hbel' hd'; have OWN := bx hown'; have GRW := bx hg'; have BEL := bx hbel'; have DD := bx hd'; have X7 := bx (V6.out.x7L hbel'); obtain ⟨AL', cl', hv'⟩ := own_slice hown'; subst hv'; clear hown' hg' hbel' hd') | ((with_reducible refine wpList_storeS rfl 26 _ _ rfl (w.heap.size + 1 + 1) 0 AL' (k + 1) cl' _ ?_ ?_ X7.out (Nat.zero_lt_succ _) Try.underlying26 cells_votesl ?_); rfl; rfl; intro w9 hw hg; have VS9 := bx (V6.out.pushL (v := (true, ep, rm)) OWN.out GRW.out DD.out BEL.out hw hg); have hc1 : w9.cell? ⟨w.heap.size + 1 + 1, 1, none⟩ = some (.slice AE nE ce) := VS9.out.x7.cell 1; clear OWN GRW DD BEL X7 hw hg))
          go_roundw
          case rel => exact ⟨k + 1, vs ++ [(true, ep, rm)], .slice AL' (k + 1) cl', .slice AE nE ce, nE, G, HKN.out, by go_num, VOKs.out.push OKM.out, by rw [List.length_append, HVL.out]; rfl, HGL.out, Nat.le_succ_of_le HNE.out, small_more HGS.out, VS9.out⟩
          case measure => exact MEA.out
    · obtain rfl : k = n := by omega
      have X6 := bx VR.out.x6
      go_wp2_with (first | ((with_reducible refine wpList_loadG 28 _ rfl _ [.slice AL k cl, .slice AE nE ce] ?_ ?_ VR.out.x7 Try.underlying28 rfl ?_ ?_); rfl; rfl; exact cells_votes _ _) | ((with_reducible refine wpList_storeB rfl 28 _ _ rfl _ [.slice AL k cl, .slice AE nE ce] _ ?_ ?_ X6.out rfl Try.underlying28 ?_ (two_one _ _ _ _ _ _) ?_); rfl; rfl; exact cells_votes _ _; intro w9 hw hg hz; have U9 := bx hw; have B9 := bx (VR.out.b.grown hg VR.out.b.size (fun k hk => by cases hk; omega)); have OL := bx (own_grown VR.out.oL hg (fun g h1 h2 => by have := (own_lt VR.out.oL h1).1; injection h2; omega)); have OE := bx (own_grown VR.out.oE hg (fun g h1 h2 => by have := (own_lt VR.out.oE h1).1; injection h2; omega)); clear hw hg hz))
      exact bodyPost_ret (results_cell (by rfl) _ (by rfl) U9.out Try.underlying28 rfl (cells_votes _ _)) rfl ⟨AL, cl, vs, AE, nE, ce, G, HNE.out, HGS.out, rfl, VRow.own HVL.out VOKs.out OL.out, GRow.own HGL.out OE.out, B9.out⟩
end Go.Proofs.Ytonkgjengplppaa
