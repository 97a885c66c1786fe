/- The reference's direct weights, walked. -/
import Derived.Test.YtonkgjengplppaaWDirM
import Derived.Test.YtonkgjengplppaaSubW
namespace Go.Proofs.Ytonkgjengplppaa
open Go.RowKit
set_option maxRecDepth 20000 in
set_option maxHeartbeats 1000000 in
/-- Contains, for a list of one root -/
theorem contains1_any (g : Nat) (x r : List Int) (hx : x.length = 32) (hr : r.length = 32) (w : World) (h : Has w g (ints .u8 x)) :
    Calls Try.prog 63 #[.slice (some ⟨g, 0, none⟩) 1 1, .agg (ints .u8 r).toArray] w fun e w' => e = .returned (.bool (decide (x = r))) ∧ Below w.heap.size w w' := by
  have HX := bx hx
  have HR := bx hr
  have X0 := bx (Has.new w (ints .u8 r) 41)
  have B0 := bx (ext_alloc w (.cells (ints .u8 r).toArray 41))
  have G0 := bx (h.below B0.out h.lt)
  clear h hx hr
  go_enter Try.func63, Try.ntmps63
  go_wp2_with fail
  go_loopw [5] (fun i wr => ∃ k : Nat, k ≤ 1 ∧ i = .int .i64 k ∧ (k = 1 → x ≠ r) ∧ Has wr w.heap.size (ints .u8 r) ∧ Has wr g (ints .u8 x) ∧ Below w.heap.size w wr) (fun i _ => 1 - (intOf i).toNat)
  case atStart => exact ⟨0, Nat.zero_le _, rfl, fun h => absurd h (by decide), X0.out, G0.out, B0.out⟩
  case round =>
    obtain ⟨k, hk, rfl, hno, hx0, hg0, hbel⟩ := hrel
    have Y0 := bx hx0
    have YG := bx hg0
    have BY := bx hbel
    clear hx0 hg0 hbel X0 G0 B0
    rcases (show k = 0 ∨ k = 1 by omega) with rfl | rfl
    · have CR := bx (fun (w1 : World) (h1 : Cls wr.heap.size wr w1) => (YG.out.below h1.out YG.out.lt).rangeAll)
      have C1 := bx (fun (w1 : World) (h1 : Cls wr.heap.size wr w1) => Y0.out.below h1.out Y0.out.lt)
      have hq := root_same HX.out HR.out
      clear hno
      by_cases he : x = r
      · have HD := bx (decide_eq_true he)
        rw [decide_eq_true he] at hq
        clear he
        go_wp2_with fail
        refine region_cls wr.heap.size (by kernel_rfl) (by kernel_rfl) ?_
        repeat (first | go_big_quiet_skip | (go_big_quiet_want; first | (first | ((with_reducible refine quiet_loadRng 41 _ rfl g 0 (ints .u8 x) ?_ CR.out Try.underlying41 ?_ ?_ ?_); rfl; rfl; exact cells_root HX.out; go_big_quiet_on; (simp only [Act.put, List.setIfInBounds_toArray, List.set_cons_succ, List.set_cons_zero])) | ((with_reducible refine quiet_loadC 41 _ rfl _ (ints .u8 r) ?_ C1.out Try.underlying41 rfl ?_ ?_); rfl; exact cells_root HR.out; go_big_quiet_on; (simp only [Act.put, List.setIfInBounds_toArray, List.set_cons_succ, List.set_cons_zero]))) | (go_big_quiet_op; first | go_big_quiet_on | ((with_reducible refine ⟨_, fun _ _ => rfl, ?_⟩); go_big_quiet_on))))
        refine wpQuiet_nil ?_
        intro w4 hw4
        have B4 := bx (BY.out.trans (hw4.out.mono BY.out.size))
        clear hw4
        go_wp2_with fail
        go_ret
        exact ⟨by first | rfl | (rw [HD.out]; rfl), B4.out⟩
      · have HE := bx he
        rw [decide_eq_false he] at hq
        clear he
        go_wp2_with fail
        refine region_cls wr.heap.size (by kernel_rfl) (by kernel_rfl) ?_
        repeat (first | go_big_quiet_skip | (go_big_quiet_want; first | (first | ((with_reducible refine quiet_loadRng 41 _ rfl g 0 (ints .u8 x) ?_ CR.out Try.underlying41 ?_ ?_ ?_); rfl; rfl; exact cells_root HX.out; go_big_quiet_on; (simp only [Act.put, List.setIfInBounds_toArray, List.set_cons_succ, List.set_cons_zero])) | ((with_reducible refine quiet_loadC 41 _ rfl _ (ints .u8 r) ?_ C1.out Try.underlying41 rfl ?_ ?_); rfl; exact cells_root HR.out; go_big_quiet_on; (simp only [Act.put, List.setIfInBounds_toArray, List.set_cons_succ, List.set_cons_zero]))) | (go_big_quiet_op; first | go_big_quiet_on | ((with_reducible refine ⟨_, fun _ _ => rfl, ?_⟩); go_big_quiet_on))))
        refine wpQuiet_nil ?_
        intro w4 hw4
        have B4 := bx (BY.out.trans (hw4.out.mono BY.out.size))
        have Y4 := bx (Y0.out.below hw4.out Y0.out.lt)
        have G4 := bx (YG.out.below hw4.out YG.out.lt)
        clear hw4
        go_wp2_with fail
        go_roundw
        case rel => exact ⟨1, Nat.le_refl _, rfl, fun _ => HE.out, Y4.out, G4.out, B4.out⟩
        case measure => simp [intOf]
    · have HD : Bx (decide (x = r) = false) := ⟨decide_eq_false (hno rfl)⟩
      go_wp2_with fail
      go_ret
      exact ⟨by first | rfl | (rw [HD.out]; rfl), BY.out⟩
set_option maxRecDepth 20000 in
set_option maxHeartbeats 1000000 in
theorem weight_any (g : Nat) (AL AE Ab : Option Addr) (cl ne ce n cb : Nat) (vs : List Vt) (G bs x : List Int) (hne : ne ≤ 4096) (hs : SmB bs) (hn7 : n ≤ 7) (hx : x.length = 32) (w : World)
    (h1 : VRow w AL n vs) (h2 : GRow w AE ne G) (h3 : URow w Ab n bs) (h : Has w g (ints .u8 x)) :
    Calls Try.prog 46 #[.agg #[.slice AL n cl, .slice AE ne ce], .slice Ab n cb, .slice (some ⟨g, 0, none⟩) 1 1] w fun e w' => e = .returned (.int .u64 (wgt vs G bs x n)) ∧ Below w.heap.size w w' := by
  have HX := bx hx
  have HS := bx hs
  have R1 := bx h1
  have R2 := bx h2
  have R3 := bx h3
  have L1 := bx h1.1
  have L3 := bx h3.1
  have HG := bx h
  have X0 := bx (votes_new w (.slice AL n cl) (.slice AE ne ce))
  have B0 := bx (ext_alloc w (.cells #[.slice AL n cl, .slice AE ne ce] 28))
  clear h h1 h2 h3 hx hs
  go_enter Try.func46, Try.ntmps46
  go_wp2_with fail
  go_loopw [7, 8] (fun s i wr => ∃ k : Nat, k ≤ n ∧ i = .int .i64 k ∧ s = .int .u64 (wgt vs G bs x k) ∧ Has wr w.heap.size [.slice AL n cl, .slice AE ne ce] ∧ Below w.heap.size w wr) (fun _ i _ => n - (intOf i).toNat)
  case atStart => exact ⟨0, Nat.zero_le _, rfl, rfl, X0.out, B0.out⟩
  case round =>
    obtain ⟨k, hk, rfl, rfl, hx0, hbel⟩ := hrel
    have Y0 := bx hx0
    have BY := bx hbel
    have hc0 : wr.cell? ⟨w.heap.size, 0, none⟩ = some (.slice AL n cl) := Y0.out.cell 0
    have hc1 : wr.cell? ⟨w.heap.size, 1, none⟩ = some (.slice AE ne ce) := Y0.out.cell 1
    clear hx0 hbel X0 B0
    by_cases hkn : k < n
    · have hki : (k : Int) < (n : Int) := by omega
      have hk0 : (0 : Int) ≤ (k : Int) := by omega
      have HKN := bx hkn
      have MEA : Bx (n - (intOf (.int .i64 ((k : Int) + 1))).toNat < n - (intOf (.int .i64 (k : Int))).toNat) := ⟨by simp [intOf]; omega⟩
      have hkv : k < vs.length := by rw [L1.out]; exact hkn
      have hkb : k < bs.length := by rw [L3.out]; exact hkn
      obtain ⟨gv, pv, rfl, hgv⟩ := (R1.out.below BY.out).2.2 (by omega)
      obtain ⟨gb, pb, rfl, hgb⟩ := (R3.out.below BY.out).2 (by omega)
      have hcb := fun w2 (h : Below wr.heap.size wr w2) => URow.cell (hgb.below h hgb.lt) hkb
      have hvk : vs.getD k zv = vs[k] := by simp [List.getD, List.getElem?_eq_getElem hkv]
      have RV : Bx (wr.rangeAt gv (k * 34) (vc (vs.getD k zv))) := ⟨by rw [hvk]; exact hgv.rangeP R1.out.2.1.len k hkv⟩
      have hvo : (vs.getD k zv).2.2.length = 32 ∧ Bt (vs.getD k zv).2.2 := by rw [hvk]; exact R1.out.2.1 _ (List.getElem_mem hkv)
      have HAS := bx (has_any _ AE ne ce G (k : Int) wr (R2.out.below BY.out).row (by omega))
      have CH := bx (cnt_has (vs := vs) (G := G) (m := k))
      have CG := bx (cnt_guilty (vs := vs) (G := G) (m := k))
      have CY := bx (cnt_yes (vs := vs) (G := G) (m := k))
      have hws : wgt vs G bs x (k + 1) = wgt vs G bs x k + if cnt vs G x k = true then bs.getD k 0 else 0 := rfl
      have HWS := bx hws
      have hb1 := HS.out.at hkb
      have hb2 := wgt_bd7 (vs := vs) (G := G) (r := x) HS.out (k := k) (by omega) (by omega)
      have HGR := bx ((HG.out.below BY.out HG.out.lt))
      clear hgv hgb hvk hws hkb hkv
      generalize bs.getD k 0 = y at *
      generalize wgt vs G bs x k = s at *
      generalize vs.getD k zv = v at *
      obtain ⟨hh, ep, r⟩ := v
      have LR : Bx (r.length = 32) := ⟨hvo.1⟩
      have hch : wr.cell? ⟨gv, k * 34, none⟩ = some (.bool hh) := RV.out 0 _ rfl
      have RT := bx (range_part (ds := ints .u8 r) 2 RV.out (fun j u hu => by rw [Nat.add_comm]; exact hu))
      have CO := bx (contains1_any g x r HX.out LR.out wr HGR.out)
      have hsy : (s + y) % 18446744073709551616 = s + y := by omega
      clear hvo RV
      cases hh with
      | false =>
        have HT : Bx (wgt vs G bs x (k + 1) = s) := ⟨by rw [HWS.out, CH.out rfl]; simp⟩
        clear CH CG CY HAS CO
        go_wp2_with fail
        go_roundw
        case rel => exact ⟨k + 1, HKN.out, by go_num, by rw [HT.out], Y0.out, BY.out⟩
        case measure => exact MEA.out
      | true =>
        go_wp2_with fail
        refine HAS.out.mono ?_; rintro e w2 ⟨rfl, rfl⟩
        by_cases hg : (k : Int) ∈ G
        · have HT : Bx (wgt vs G bs x (k + 1) = s) := ⟨by rw [HWS.out, CG.out hg]; simp⟩
          rw [decide_eq_true hg]
          clear hg CH CG CY CO
          go_wp2_with fail
          go_roundw
          case rel => exact ⟨k + 1, HKN.out, by go_num, by rw [HT.out], Y0.out, BY.out⟩
          case measure => exact MEA.out
        · have CY2 := bx (CY.out (by first | rfl | trivial) hg)
          rw [decide_eq_false hg]
          clear hg CH CG CY
          go_wp2_with ((with_reducible refine wpList_loadR 41 _ rfl ?_ gv (k * 34 + 2) (ints .u8 r) RT.out ?_ Try.underlying41 ?_ ?_ ?_); rfl; rfl; rfl; exact cells_root LR.out)
          refine CO.out.mono ?_; rintro e w2 ⟨rfl, hb⟩
          have hcb2 := hcb w2 hb
          have Y2 := bx (Y0.out.below hb Y0.out.lt)
          have B2 := bx (BY.out.trans (hb.mono BY.out.size))
          clear hb hcb
          by_cases he : x = r
          · have HT : Bx (wgt vs G bs x (k + 1) = s + y) := ⟨by rw [HWS.out, CY2.out, decide_eq_true he.symm]; simp⟩
            rw [decide_eq_true he]
            clear he CY2
            go_wp2_with fail
            go_roundw
            case rel => exact ⟨k + 1, HKN.out, by go_num, by rw [HT.out], Y2.out, B2.out⟩
            case measure => exact MEA.out
          · have HT : Bx (wgt vs G bs x (k + 1) = s) := ⟨by rw [HWS.out, CY2.out, decide_eq_false (fun h => he h.symm)]; simp⟩
            rw [decide_eq_false he]
            clear he CY2
            go_wp2_with fail
            go_roundw
            case rel => exact ⟨k + 1, HKN.out, by go_num, by rw [HT.out], Y2.out, B2.out⟩
            case measure => exact MEA.out
    · obtain rfl : k = n := by omega
      go_wp2_with fail
      go_ret
      exact ⟨rfl, BY.out⟩
theorem bs_root (ps : List (Nat × Value)) : Try.prog.builtSlice 41 1 ps = Instr.fill (fun i => some (i * 32, 32)) (ints .u8 zroot).toArray ps := by kernel_rfl
theorem built_sliceR {r : List Int} (h : r.length = 32) : Try.prog.builtSlice 41 1 [(0, .agg (ints .u8 r).toArray)] = some (ints .u8 r).toArray := by
  rw [bs_root]
  have e0 : ints .u8 zroot = [] ++ ints .u8 zroot ++ [] := by simp
  rw [e0, fill_part _ [] (ints .u8 zroot) [] (ints .u8 r) 0 _ _ (by rw [ints_len, h]; rfl) rfl (by rw [ints_len, ints_len, h]; rfl)]
  simp [Instr.fill]
theorem run_bsR {o : Oper} {a : Act} {w : World} {x : Operand} {r : List Int} (h : r.length = 32) (ho : o.op = .buildSlice 86 1 #[(0, x)]) (hx : a.eval x = .agg (ints .u8 r).toArray) :
    (execOp a.eval o).run Try.prog w = .ok (.value (.slice (some ⟨w.heap.size, 0, none⟩) 1 1)) (w.alloc (.cells (ints .u8 r).toArray 41)) := by
  have e : (#[(0, x)].map fun (i, x) => (i, a.eval x)) = #[(0, .agg (ints .u8 r).toArray)] := by
    apply Array.ext'
    rw [Array.toList_map]
    show [(0, a.eval x)] = _
    rw [hx]
  have := run_sliceTo (P := Try.prog) w 86 41 1 #[(0, .agg (ints .u8 r).toArray)] _ Try.underlying86 (built_sliceR h)
  unfold execOp
  simp only [ho, e, this, Sem.run_bind, Result.andThen_ok]
  rfl
set_option maxRecDepth 20000 in
set_option maxHeartbeats 2000000 in
theorem refDirect_any (A0 AL AE Ab : Option Addr) (n0 c0 cl ne ce n cb : Nat) (ns : List Nd) (vs : List Vt) (G bs : List Int) (hne : ne ≤ 4096) (hs : SmB bs) (hn7 : n ≤ 7) (hn9 : n0 ≤ 4096) (w : World)
    (h0 : NRow w A0 n0 ns) (h1 : VRow w AL n vs) (h2 : GRow w AE ne G) (h3 : URow w Ab n bs) :
    Calls Try.prog 17 #[.agg #[.slice A0 n0 c0], .agg #[.slice AL n cl, .slice AE ne ce], .slice Ab n cb] w (UP n0 (dirL ns vs G bs n) w) := by
  obtain ⟨i0, hi0, hz0, hz1, hz2⟩ := info_parts info_u64
  have HI := bx (show Try.prog.info? 35 = some i0 from hi0)
  have HS := bx hs
  have R0 := bx h0
  have R1 := bx h1
  have R2 := bx h2
  have R3 := bx h3
  have L0 := bx h0.1
  have L3 := bx h3.1
  have U64D : Bx (U64 (dirL ns vs G bs n)) := ⟨fun x hx => by have := dirL_bd (ns := ns) (vs := vs) (G := G) hs (m := n) (by rw [h3.1]; exact Nat.le_refl _) hn7 x hx; omega⟩
  have DL : Bx ((dirL ns vs G bs n).length = n0) := ⟨by rw [dirL_len, h0.1]⟩
  have DAT := bx (fun i (hi : i < ns.length) => dirL_at (vs := vs) (G := G) (bs := bs) (m := n) hi)
  have XA3 := bx ((Has.new w [.slice A0 n0 c0] 25).alloc (.cells #[.slice AL n cl, .slice AE ne ce] 28))
  have XA4 : Bx (Has ((w.alloc (.cells #[.slice A0 n0 c0] 25)).alloc (.cells #[.slice AL n cl, .slice AE ne ce] 28)) (w.heap.size + 1) [.slice AL n cl, .slice AE ne ce]) := ⟨has_newAt (alloc_size w _) [.slice AL n cl, .slice AE ne ce] _⟩
  have BA := bx ((ext_alloc w (.cells #[.slice A0 n0 c0] 25)).alloc (by simp) (.cells #[.slice AL n cl, .slice AE ne ce] 28))
  clear h0 h1 h2 h3 hs hi0
  go_enter Try.func17, Try.ntmps17
  go_wp2_with fail
  generalize hds : dirL ns vs G bs n = ds at *
  go_loopw [7, 8] (fun s i wr => ∃ k : Nat, k ≤ n0 ∧ i = .int .i64 k ∧ wr.ownsRow (w.heap.size + 1 + 1) 35 1 s k (ints .u64 (ds.take k)) ∧ Has wr w.heap.size [.slice A0 n0 c0] ∧ Has wr (w.heap.size + 1) [.slice AL n cl, .slice AE ne ce] ∧ Below w.heap.size w wr) (fun _ i _ => n0 - (intOf i).toNat)
  case atStart => exact ⟨0, Nat.zero_le _, rfl, World.ownsRow_nil _ _ _ _, XA3.out, XA4.out, BA.out⟩
  case round =>
    obtain ⟨k, hk, rfl, hown, hx3, hx4, hbel⟩ := hrel
    have OR := bx hown
    have X3 := bx hx3
    have X4 := bx hx4
    have BR := bx hbel
    clear hown hx3 hx4 hbel XA3 XA4 BA
    obtain ⟨A7, c7, hv⟩ := own_slice OR.out
    subst hv
    have hc0 : wr.cell? ⟨w.heap.size, 0, none⟩ = some (.slice A0 n0 c0) := X3.out.cell 0
    by_cases hkn : k < n0
    · have hki : (k : Int) < (n0 : Int) := by omega
      have hk0 : (0 : Int) ≤ (k : Int) := by omega
      have HKN := bx hkn
      have hkl : k < ns.length := by rw [L0.out]; exact hkn
      have HM1 : Bx (k + 1 ≤ maxLen) := ⟨by unfold maxLen; omega⟩
      have HM2 : Bx ((k + 1) * 8 ≤ 140737488355328) := ⟨by omega⟩
      have MEA : Bx (n0 - (intOf (.int .i64 ((k : Int) + 1))).toNat < n0 - (intOf (.int .i64 (k : Int))).toNat) := ⟨by simp [intOf]; omega⟩
      obtain ⟨g0, p0, rfl, hg0⟩ := (R0.out.below BR.out).2.2 (by omega)
      have OKN := bx (R0.out.2.1 _ (List.getElem_mem hkl))
      have hcs := hg0.nodeCell R0.out.2.1 k hkl 239 _ (nc_st OKN.out)
      have CR := bx (fun w6 (h6 : Cls wr.drew.heap.size wr.drew w6) => (hg0.drew.below h6.out hg0.lt).nodeRoot R0.out.2.1 k hkl)
      have TP := bx (take_push (G := ds) (k := k) (by rw [DL.out]; exact hkn))
      have DK := bx (DAT.out k hkl)
      have LR := bx OKN.out.root
      clear hg0 OKN DAT hds
      generalize ns[k].b.root = r at *
      by_cases hst : ns[k].st = 2
      · have DK2 : Bx (ds.getD k 0 = 0) := ⟨by rw [DK.out, if_pos hst]⟩
        have SZ : Bx (w.heap.size + 1 + 1 ≤ wr.heap.size) := ⟨X4.out.lt⟩
        rw [hst] at hcs
        rw [DK2.out] at TP
        clear hst DK DK2 CR
        go_wp2_with (at_builtin; (with_reducible refine wpList_push rfl (.tmp 35) (.tmp 37) 29 rfl (w.heap.size + 1 + 1) 35 i0 _ 1 8 Try.underlying29 HI.out hz0 hz1 hz2 rfl (by omega) _ _ _ ?_ OR.out [.int .u64 0] ?_ rfl (one_u64 0) HM1.out HM2.out SZ.out ?_); rfl; rfl; intro v' w' hown' hg' hbel' _; have HOWN3 := bx hown'; have HB3 := bx (BR.out.trans (hbel'.mono (by omega))); have X33 := bx (X3.out.below hbel' (by omega)); have X43 := bx (X4.out.below hbel' (by omega)); clear hown' hg' hbel')
        go_roundw
        case rel => exact ⟨k + 1, HKN.out, by go_num, by rw [TP.out, ints_push]; exact HOWN3.out, X33.out, X43.out, HB3.out⟩
        case measure => exact MEA.out
      · have DK2 : Bx (ds.getD k 0 = wgt vs G bs r n) := ⟨by rw [DK.out, if_neg hst]⟩
        have hne2 : (ns[k].st != 2) = true := by rw [bne_iff_ne]; exact hst
        rw [DK2.out] at TP
        clear hst DK DK2
        generalize ns[k].st = st at *
        have OD : Bx (wr.drew.ownsRow (w.heap.size + 1 + 1) 35 1 (.slice A7 k c7) k (ints .u64 (ds.take k))) := ⟨OR.out⟩
        have X3d : Bx (Has wr.drew w.heap.size [.slice (some ⟨g0, 0, none⟩) n0 c0]) := ⟨X3.out⟩
        have X4d : Bx (Has wr.drew (w.heap.size + 1) [.slice AL n cl, .slice AE ne ce]) := ⟨X4.out⟩
        have BD : Bx (Below w.heap.size w wr.drew) := ⟨BR.out.drew⟩
        have CN := bx (fun w6 (h6 : Cls wr.drew.heap.size wr.drew w6) => run_nodes1 ((X3d.out.below h6.out X3d.out.lt).cell 0))
        have CV := bx (Has.cls X4d.out)
        clear OR X3 X4 BR
        go_wp2_with fail
        refine wp_region_mix3 11 (.steps [(0, 0), (0, 1), (0, 2), (0, 3), (0, 4), (0, 5), (0, 6), (0, 7), (0, 8), (2, 9), (2, 10)] .leaf) (by kernel_rfl) (by kernel_rfl) ?_
        simp only [MixT, MT.steps, stepAt, List.getD_cons_zero, List.getD_cons_succ, List.drop_succ_cons, List.drop_zero]
        repeat (first | (with_reducible refine wpQuiet_nil ?_) | (first | go_big_quiet_skip | (go_big_quiet_want; first | (first | ((with_reducible refine quiet_loadC 28 _ rfl _ [.slice AL n cl, .slice AE ne ce] ?_ CV.out Try.underlying28 rfl ?_ ?_); rfl; exact cells_votes _ _; go_big_quiet_on; (simp only [Act.put, List.setIfInBounds_toArray, List.set_cons_succ, List.set_cons_zero])) | ((with_reducible refine quiet_cell 23 _ rfl _ _ ?_ CN.out ?_); rfl; go_big_quiet_on; (simp only [Act.put, List.setIfInBounds_toArray, List.set_cons_succ, List.set_cons_zero])) | ((with_reducible refine quiet_loadRng 41 _ rfl g0 (k * 240 + 67) (ints .u8 r) ?_ CR.out Try.underlying41 ?_ ?_ ?_); rfl; rfl; exact cells_root LR.out; go_big_quiet_on; (simp only [Act.put, List.setIfInBounds_toArray, List.set_cons_succ, List.set_cons_zero]))) | (go_big_quiet_op; first | go_big_quiet_on | ((with_reducible refine ⟨_, fun _ _ => rfl, ?_⟩); go_big_quiet_on)))))
        clear CN CV CR
        generalize wr.drew = w1 at *
        refine mix_run (run_bsR LR.out rfl rfl) rfl ?_
        refine ⟨ext_alloc _ _, ?_⟩
        have EX := bx (ext_alloc w1 (.cells (ints .u8 r).toArray 41))
        have GB := bx (Has.new w1 (ints .u8 r) 41)
        have X32 := bx (X3d.out.below EX.out X3d.out.lt)
        have X42 := bx (X4d.out.below EX.out X4d.out.lt)
        have O2 := bx (own_ext OD.out EX.out)
        have B2 := bx (BD.out.trans (EX.out.mono BD.out.size))
        clear X3d X4d OD BD EX
        refine mix_call (weight_any w1.heap.size AL AE Ab cl ne ce n cb vs G bs r hne HS.out hn7 LR.out _ (R1.out.below B2.out) (R2.out.below B2.out) (R3.out.below B2.out) GB.out) Try.func46 rfl rfl _ _ rfl rfl rfl ?_
        rintro e w3 ⟨rfl, hb⟩
        refine ⟨_, rfl, hb, ?_⟩
        have X3n := bx (X32.out.below hb X32.out.lt)
        have X4n := bx (X42.out.below hb X42.out.lt)
        have O3 := bx (own_ext O2.out hb)
        have B3 := bx (B2.out.trans (hb.mono B2.out.size))
        have SZ : Bx (w.heap.size + 1 + 1 ≤ w3.heap.size) := ⟨X4n.out.lt⟩
        clear hb X32 X42 O2 B2 GB
        generalize wgt vs G bs r n = z at *
        simp only [Act.put, List.setIfInBounds_toArray, List.set_cons_succ, List.set_cons_zero]
        go_wp2_with fail
        refine NoPanic.normal ?_
        go_wp2_with (at_builtin; (with_reducible refine wpList_push rfl (.tmp 35) (.tmp 37) 29 rfl (w.heap.size + 1 + 1) 35 i0 _ 1 8 Try.underlying29 HI.out hz0 hz1 hz2 rfl (by omega) _ _ _ ?_ O3.out [.int .u64 z] ?_ rfl (one_u64 z) HM1.out HM2.out SZ.out ?_); rfl; rfl; intro v' w' hown' hg' hbel' _; have HOWN3 := bx hown'; have HB3 := bx (B3.out.trans (hbel'.mono (by omega))); have X33 := bx (X3n.out.below hbel' (by omega)); have X43 := bx (X4n.out.below hbel' (by omega)); clear hown' hg' hbel')
        go_roundw
        case rel => exact ⟨k + 1, HKN.out, by go_num, by rw [TP.out, ints_push]; exact HOWN3.out, X33.out, X43.out, HB3.out⟩
        case measure => exact MEA.out
    · obtain rfl : k = n0 := by omega
      have HT : Bx (ds.take k = ds) := ⟨List.take_of_length_le (by rw [DL.out]; exact Nat.le_refl _)⟩
      go_wp2_with fail
      go_ret
      exact ⟨A7, c7, rfl, U64D.out, URow.own DL.out (by rw [← HT.out]; exact OR.out), BR.out⟩
end Go.Proofs.Ytonkgjengplppaa
