/- deltas.Apply, walked. -/
import Derived.Test.YtonkgjengplppaaAppM
namespace Go.Proofs.Ytonkgjengplppaa
open Go.RowKit
theorem quiet_dl {C : World → Prop} {o : Oper} {a : Act} {K : Act → Prop} (x : Operand) (ho : o.op = .load 94 x) (g : Nat) (ds : List Dl) (i : Nat) (hx : a.eval x = .pointer (some ⟨g, i * 2, none⟩)) (post : List Value)
    (hg : ∀ w, C w → Has w g (ds.flatMap dc ++ post)) (hi : i < ds.length) (hk : K (a.put o.dst (.agg (dc (ds.getD i ⟨0, 0⟩)).toArray))) : o.quiet Try.prog a C K := by
  rw [dl_at hi] at hk
  exact quiet_loadP (f := dc) (k := 2) 94 x ho g ds i hx post hg dcs_len hi Try.underlying94 rfl cells_dl2 hk
theorem cls_u64 {w : World} {g : Nat} {xs : List Int} {post : List Value} (h : Has w g (ints .u64 xs ++ post)) {k : Nat} (hk : k < xs.length) :
    ∀ w1, Cls w.heap.size w w1 → (Instr.loadAt 35 (.pointer (some ⟨g, k, none⟩))).run Try.prog w1 = .ok (.int .u64 (xs.getD k 0)) w1 :=
  fun _ h1 => run_u641 (URow.cell (h.below h1.out h.lt) hk)
theorem set_u (xs : List Int) (post : List Value) (k : Nat) (v : Int) (hk : k < xs.length) : (ints .u64 xs ++ post).set k (.int .u64 v) = ints .u64 (xs.set k v) ++ post := by
  rw [List.set_append_left _ _ (by rw [ints_len]; exact hk), ints, ints, List.map_set]
set_option maxRecDepth 20000 in
set_option maxHeartbeats 2000000 in
theorem apply_any (A0 A1 A2 : Option Addr) (n c0 c1 c2 : Nat) (ns : List Nd) (ws : List Int) (ds : List Dl) (hw : U64 ws) (hd : D64 ds) (hu : Ups ns) (hn : n ≤ 4096) (hn0 : 0 < n) (w : World) (h0 : NRow w A0 n ns) (h1 : URow w A1 n ws) (h2 : DRow w A2 n ds) :
    Calls Try.prog 34 #[.agg #[.slice A0 n c0], .slice A1 n c1, .slice A2 n c2] w (AppP ns ws ds n w) := by
  obtain ⟨g1, p1, rfl, hg1⟩ := h1.2 hn0
  obtain ⟨g2, p2, rfl, hg2⟩ := h2.2 hn0
  have LW := bx h1.1
  have LD := bx h2.1
  have LN := bx h0.1
  have HW := bx hw
  have HD := bx hd
  have HU := bx hu
  have N0 := bx h0
  have HN0 := bx hn0
  have hne : ((n : Int) != (n : Int)) = false := by simp
  clear h1 h2 hw hd hu h0
  obtain ⟨wA, hwA⟩ : ∃ wA, wA = w.alloc (.cells #[.slice A0 n c0] 25) := ⟨_, rfl⟩
  have EA : Bx (Below w.heap.size w wA) := ⟨by rw [hwA]; exact ext_alloc _ _⟩
  have XB : Bx (Has wA w.heap.size [.slice A0 n c0]) := ⟨by rw [hwA]; exact Has.new w _ _⟩
  have G1 := bx (hg1.below EA.out hg1.lt)
  have G2 := bx (hg2.below EA.out hg2.lt)
  have SZ : Bx (w.heap.size < wA.heap.size) := ⟨XB.out.lt⟩
  have hcb : wA.cell? ⟨w.heap.size, 0, none⟩ = some (.slice A0 n c0) := XB.out.cell 0
  have HWA := bx hwA
  clear hwA hg1 hg2
  go_enter Try.func34, Try.ntmps34
  go_wp2_with fail
  rw [← HWA.out]
  refine (cloneD g2 n c2 _ _ wA G2.out (by rw [flat_len ds dcs_len, LD.out]) (dcs_one ds) hn hn0).mono ?_; rintro e w1 ⟨Ad, cd, rfl, ho, hb⟩
  obtain ⟨gs, cs, ps, hv, hgs, hs⟩ := own_block ho hn0
  injection hv with hv1 hv2 hv3
  subst hv1; subst hv3
  have S1 := bx hs
  have HGS := bx hgs
  have E1 := bx (EA.out.trans (hb.mono EA.out.size))
  have G3 := bx (G1.out.below hb G1.out.lt)
  have XC := bx (XB.out.below hb XB.out.lt)
  clear hs hb hgs ho hcb
  go_wp2_with fail
  refine (cloneU g1 n c1 _ _ w1 G3.out (by rw [ints_len, LW.out, Nat.mul_one]) (one_ints _ _) hn hn0).mono ?_; rintro e w2 ⟨Au, cu, rfl, ho, hb⟩
  obtain ⟨go, co, po, hv, hgo, hs⟩ := own_block ho hn0
  injection hv with hv1 hv2 hv3
  subst hv1; subst hv3
  have O1 := bx hs
  have HNE : Bx (gs ≠ go) := ⟨Nat.ne_of_lt (Nat.lt_of_lt_of_le S1.out.lt hgo)⟩
  have HGO : Bx (w.heap.size < go) := ⟨Nat.lt_of_lt_of_le SZ.out (Nat.le_trans (Nat.le_trans HGS.out (Nat.le_of_lt S1.out.lt)) hgo)⟩
  have HGT : Bx (w.heap.size < gs) := ⟨Nat.lt_of_lt_of_le SZ.out HGS.out⟩
  have S2 := bx (S1.out.below hb S1.out.lt)
  have E2 := bx (E1.out.trans (hb.mono E1.out.size))
  have XD := bx (XC.out.below hb XC.out.lt)
  have hcb : w2.cell? ⟨w.heap.size, 0, none⟩ = some (.slice A0 n c0) := XD.out.cell 0
  have HOK : Bx (SOk n ⟨ds, ws⟩) := ⟨⟨LD.out, LW.out, HD.out, HW.out⟩⟩
  clear hs hb ho hgo S1 E1 G3 XC G1 G2 XB EA HWA HGS
  go_wp2_with fail
  go_loopw [10] (fun i wr => ∃ (k : Nat) (x : St), k ≤ n ∧ i = .int .i64 ((k : Int) - 1) ∧ runA (ups ns) n ⟨ds, ws⟩ = runA (ups ns) k x ∧ SOk n x ∧ Has wr gs (x.s.flatMap dc ++ ps) ∧ Has wr go (ints .u64 x.o ++ po) ∧ Has wr w.heap.size [.slice A0 n c0] ∧ Below w.heap.size w wr) (fun i _ => (intOf i + 1).toNat)
  case atStart => exact ⟨n, ⟨ds, ws⟩, Nat.le_refl _, rfl, rfl, HOK.out, S2.out, O1.out, XD.out, E2.out⟩
  case round =>
    obtain ⟨k, x, hk, rfl, hrun, hok, hxs, hxo, hxb, hbel⟩ := hrel
    have RUN := bx hrun
    have OK := bx hok
    have YS := bx hxs
    have YO := bx hxo
    have YB := bx hxb
    have BY := bx hbel
    clear hrun hok hxs hxo hxb hbel S2 O1 XD E2 HOK hcb
    rcases Nat.eq_zero_or_pos k with h0 | h0
    · subst h0
      go_wp2_with fail
      go_ret2
      exact ⟨.inr ⟨x, _, _, RUN.out, OK.out, rfl, ⟨OK.out.lo, fun _ => ⟨go, po, rfl, YO.out⟩⟩⟩, BY.out⟩
    · obtain ⟨i, rfl⟩ : ∃ i, k = i + 1 := ⟨k - 1, by omega⟩
      have hii : ((i + 1 : Nat) : Int) - 1 = (i : Int) := by omega
      rw [hii]
      have hi0 : (i : Int) ≥ 0 := by omega
      have hin : i < n := by omega
      have hini : (i : Int) < (n : Int) := by omega
      have his : Bx (i < x.s.length) := ⟨by rw [OK.out.ls]; exact hin⟩
      have hio : Bx (i < x.o.length) := ⟨by rw [OK.out.lo]; exact hin⟩
      have C0 := bx (cls_u64 (w := wr.drew) (show Has wr.drew _ _ from YO.out) hio.out)
      have C1 : Bx (∀ w1, Cls wr.drew.heap.size wr.drew w1 → Has w1 gs (x.s.flatMap dc ++ ps)) := ⟨fun w1 h1 => (show Has wr.drew _ _ from YS.out).below h1.out YS.out.lt⟩
      have HV := OK.out.o.at hio.out
      have CH := bx (change_any (x.o.getD i 0) (x.s.getD i ⟨0, 0⟩) HV.1 HV.2 (OK.out.s.at his.out))
      clear HV hk hii
      go_wp2_with fail
      refine wp_region_mix2 14 [(0, 0), (0, 1), (0, 2), (0, 3), (0, 4), (0, 5), (0, 6), (0, 7), (2, 8), (1, 9), (1, 10), (1, 11), (1, 12), (1, 13)] (by kernel_rfl) (by kernel_rfl) ?_
      simp only [MixH, List.getD_cons_zero, List.getD_cons_succ, List.drop_succ_cons, List.drop_zero]
      repeat (first | (with_reducible refine wpQuiet_nil ?_) | (first | go_big_quiet_skip | (go_big_quiet_want; first | (first | ((with_reducible refine quiet_cell 35 _ rfl _ _ ?_ C0.out ?_); rfl; go_big_quiet_on; (simp only [Act.put, List.setIfInBounds_toArray, List.set_cons_succ, List.set_cons_zero])) | ((with_reducible refine quiet_dl _ rfl gs x.s i ?_ ps C1.out his.out ?_); rfl; go_big_quiet_on; (simp only [Act.put, List.setIfInBounds_toArray, List.set_cons_succ, List.set_cons_zero]))) | (go_big_quiet_op; first | go_big_quiet_on | ((with_reducible refine ⟨_, fun _ _ => rfl, ?_⟩); go_big_quiet_on)))))
      refine mix_call (CH.out _) Try.func54 rfl rfl _ _ rfl rfl rfl ?_
      rintro e w5 ⟨rfl, hb5⟩
      refine ⟨_, rfl, hb5, ?_⟩
      have ZS := bx ((show Has wr.drew _ _ from YS.out).below hb5 YS.out.lt)
      have ZO := bx ((show Has wr.drew _ _ from YO.out).below hb5 YO.out.lt)
      have ZB := bx ((show Has wr.drew _ _ from YB.out).below hb5 YB.out.lt)
      have BZ : Bx (Below w.heap.size w w5) := ⟨(show Below w.heap.size w wr.drew from BY.out.drew).trans (hb5.mono BY.out.size)⟩
      have STF := bx (fun up => stepA_fail (up := up) (i := i) (x := x))
      have STR := bx (fun up => stepA_root (up := up) (i := i) (x := x))
      have STG := bx (fun u => stepA_fail2 (u := u) (i := i) (x := x))
      have STU := bx (fun u => stepA_up (u := u) (i := i) (x := x))
      have CHC := chgE_cases (x.o.getD i 0) (x.s.getD i ⟨0, 0⟩)
      have HOK0 := bx (OK.out.root hin)
      have HOK1 := bx (fun u (hu : u < n) => OK.out.up hin hu)
      have HDI := bx (OK.out.s.at his.out)
      have SETU := bx (set_u x.o po i (chgV (x.o.getD i 0) (x.s.getD i ⟨0, 0⟩)) hio.out)
      have hc5 : w5.cell? ⟨go, i, none⟩ = some (.int .u64 (x.o.getD i 0)) := URow.cell ZO.out hio.out
      have hf5 : w5.frozen? ⟨go, i, none⟩ = false := ZO.out.frozen i
      have RUN1 : Bx (runA (ups ns) (i + 1) x = (stepA ((ups ns).getD i 0) i x).bind (runA (ups ns) i)) := ⟨rfl⟩
      have hnl : i < ns.length := by rw [LN.out]; exact hin
      rw [ups_at hnl] at RUN1
      have HUI := HU.out i hnl
      obtain ⟨g0, p0, hA0, hg0⟩ := (N0.out.below (show Below w.heap.size w w5 from BZ.out)).2.2 hn0
      subst hA0
      have hcu := hg0.nodeCell N0.out.2.1 i hnl 238 _ (nc_up (N0.out.2.1 _ (List.getElem_mem hnl)))
      generalize ns[i].up = up at *
      have S9 := bx (ZO.out.set i (.int .u64 (chgV (x.o.getD i 0) (x.s.getD i ⟨0, 0⟩))))
      rw [SETU.out] at S9
      have g0w : g0 < w.heap.size := by
        obtain ⟨g', p', e, hh⟩ := N0.out.2.2 hn0
        injection e with e; injection e with e
        rw [e]; exact hh.lt
      have hcu9 : ∀ v, (w5.setCell ⟨go, i, none⟩ v).cell? ⟨g0, i * 240 + 238, none⟩ = some (.int .i64 up) := fun v => by
        rw [World.cell?_setCell_other w5 _ _ v (fun e => by have := congrArg Addr.block e; have h := HGO.out; simp at this; omega)]; exact hcu
      have hcb9 : ∀ v, (w5.setCell ⟨go, i, none⟩ v).cell? ⟨w.heap.size, 0, none⟩ = some (.slice (some ⟨g0, 0, none⟩) n c0) := fun v => by
        rw [World.cell?_setCell_other w5 _ _ v (fun e => by have := congrArg Addr.block e; have h := HGO.out; simp at this; omega)]; exact ZB.out.cell 0
      have B9 : Bx (∀ v, Below w.heap.size w (w5.setCell ⟨go, i, none⟩ v)) := ⟨fun v => BZ.out.grown (grown_setCell w5 go i v) BZ.out.size (fun k hk => by cases hk; exact Nat.le_of_lt HGO.out)⟩
      have T9 : Bx (∀ v, Has (w5.setCell ⟨go, i, none⟩ v) gs (x.s.flatMap dc ++ ps)) := ⟨fun v => ZS.out.far HNE.out v⟩
      have X9 : Bx (∀ v, Has (w5.setCell ⟨go, i, none⟩ v) w.heap.size [.slice (some ⟨g0, 0, none⟩) n c0]) := ⟨fun v => ZB.out.far (Nat.ne_of_lt HGO.out) v⟩
      clear hg0 hcu
      clear hb5 CH C0 C1 YS YO YB BY
      generalize hev : chgE (x.o.getD i 0) (x.s.getD i ⟨0, 0⟩) = er at *
      generalize chgV (x.o.getD i 0) (x.s.getD i ⟨0, 0⟩) = v at *
      clear hev
      simp only [Act.put, List.setIfInBounds_toArray, List.set_cons_succ, List.set_cons_zero]
      repeat (first | (with_reducible refine wpQuiet_nil ?_) | (first | go_big_quiet_skip | (go_big_quiet_want; first | fail | (go_big_quiet_op; first | go_big_quiet_on | ((with_reducible refine ⟨_, fun _ _ => rfl, ?_⟩); go_big_quiet_on)))))
      refine NoPanic.normal ?_
      rcases CHC with rfl | rfl
      · have hcuv := hcu9 (.int .u64 v)
        have hcbv := hcb9 (.int .u64 v)
        clear hcu9 hcb9
        rcases HUI with rfl | ⟨u, hui, rfl⟩
        · rw [STR.out (-1) rfl (by decide)] at RUN1
          have HR2 : Bx (runA (ups ns) n ⟨ds, ws⟩ = runA (ups ns) i ⟨x.s, x.o.set i v⟩) := ⟨by rw [RUN.out, RUN1.out]; rfl⟩
          go_wp2_with fail
          go_roundw
          case rel => exact ⟨i, ⟨x.s, x.o.set i v⟩, by omega, rfl, HR2.out, HOK0.out, T9.out _, S9.out, X9.out _, B9.out _⟩
          case measure => simp [intOf]
        · have hun : u < n := by omega
          have hus : Bx (u < x.s.length) := ⟨by rw [OK.out.ls]; exact hun⟩
          have TT := bx (T9.out (.int .u64 v))
          have XX := bx (X9.out (.int .u64 v))
          have BB := bx (B9.out (.int .u64 v))
          clear T9 X9 B9 ZS ZO ZB BZ STR STF
          go_wp2_with fail
          clear hcuv hcbv hc5 hf5
          generalize w5.setCell ⟨go, i, none⟩ (.int .u64 v) = w9 at *
          have C1 : Bx (∀ w1, Cls w9.drew.heap.size w9.drew w1 → Has w1 gs (x.s.flatMap dc ++ ps)) := ⟨fun w1 h1 => (show Has w9.drew _ _ from TT.out).below h1.out TT.out.lt⟩
          have AD := bx (addD_any (x.s.getD u ⟨0, 0⟩) (x.s.getD i ⟨0, 0⟩) (OK.out.s.at hus.out) HDI.out)
          have hini : (i : Int) < (n : Int) := by omega
          have huni : (u : Int) < (n : Int) := by omega
          have hu0 : 0 ≤ (u : Int) := by omega
          refine wp_region_mix2 15 [(0, 0), (0, 1), (0, 2), (0, 3), (0, 4), (0, 5), (0, 6), (0, 7), (0, 8), (0, 9), (2, 10), (1, 11), (1, 12), (1, 13), (1, 14)] (by kernel_rfl) (by kernel_rfl) ?_
          simp only [MixH, List.getD_cons_zero, List.getD_cons_succ, List.drop_succ_cons, List.drop_zero]
          repeat (first | (with_reducible refine wpQuiet_nil ?_) | (first | go_big_quiet_skip | (go_big_quiet_want; first | (first | ((with_reducible refine quiet_dl _ rfl gs x.s u ?_ ps C1.out hus.out ?_); rfl; go_big_quiet_on; (simp only [Act.put, List.setIfInBounds_toArray, List.set_cons_succ, List.set_cons_zero])) | ((with_reducible refine quiet_dl _ rfl gs x.s i ?_ ps C1.out his.out ?_); rfl; go_big_quiet_on; (simp only [Act.put, List.setIfInBounds_toArray, List.set_cons_succ, List.set_cons_zero]))) | (go_big_quiet_op; first | go_big_quiet_on | ((with_reducible refine ⟨_, fun _ _ => rfl, ?_⟩); go_big_quiet_on)))))
          refine mix_call (AD.out _) Try.func55 rfl rfl _ _ rfl rfl rfl ?_
          rintro e w10 ⟨rfl, hb5⟩
          refine ⟨_, rfl, hb5, ?_⟩
          have ZS := bx ((show Has w9.drew _ _ from TT.out).below hb5 TT.out.lt)
          have ZO := bx ((show Has w9.drew _ _ from S9.out).below hb5 S9.out.lt)
          have ZB := bx ((show Has w9.drew _ _ from XX.out).below hb5 XX.out.lt)
          have BZ : Bx (Below w.heap.size w w10) := ⟨(show Below w.heap.size w w9.drew from BB.out.drew).trans (hb5.mono BB.out.size)⟩
          have ADC := addDE_cases (x.s.getD u ⟨0, 0⟩) (x.s.getD i ⟨0, 0⟩)
          have HOK2 := bx (HOK1.out u hun)
          have STG2 := bx (STG.out u (by first | rfl | trivial))
          have STU2 := bx (STU.out u (by first | rfl | trivial))
          clear hb5 AD C1 TT S9 XX BB STG STU HOK1
          generalize addDE (x.s.getD u ⟨0, 0⟩) (x.s.getD i ⟨0, 0⟩) = er at *
          generalize addDV (x.s.getD u ⟨0, 0⟩) (x.s.getD i ⟨0, 0⟩) = dv at *
          simp only [Act.put, List.setIfInBounds_toArray, List.set_cons_succ, List.set_cons_zero]
          repeat (first | (with_reducible refine wpQuiet_nil ?_) | (first | go_big_quiet_skip | (go_big_quiet_want; first | fail | (go_big_quiet_op; first | go_big_quiet_on | ((with_reducible refine ⟨_, fun _ _ => rfl, ?_⟩); go_big_quiet_on)))))
          go_wp2_with ((with_reducible refine wpList_storeQ (f := dc) (k := 2) 94 _ _ rfl ?_ gs x.s u ?_ dv ?_ ps ZS.out dcs_len hus.out rfl Try.underlying94 cells_dl2 (dc_one _) ?_); rfl; rfl; rfl; intro w11 hw3 hg3 hz3; have YS := bx hw3; have YO := bx (ZO.out.grown hg3 (fun e => by injection e with e; exact absurd e.symm HNE.out)); have YB := bx (ZB.out.grown hg3 (fun e => by injection e with e; exact absurd e (Nat.ne_of_lt HGT.out))); have BY := bx (BZ.out.grown hg3 BZ.out.size (fun k hk => by cases hk; exact Nat.le_of_lt HGT.out)); clear hw3 hg3 hz3)
          refine NoPanic.normal ?_
          rcases ADC with rfl | rfl
          · rw [STU2.out rfl] at RUN1
            have HR2 : Bx (runA (ups ns) n ⟨ds, ws⟩ = runA (ups ns) i ⟨x.s.set u dv, x.o.set i v⟩) := ⟨by rw [RUN.out, RUN1.out]; rfl⟩
            go_wp2_with fail
            go_roundw
            case rel => exact ⟨i, ⟨x.s.set u dv, x.o.set i v⟩, by omega, rfl, HR2.out, HOK2.out, YS.out, YO.out, YB.out, BY.out⟩
            case measure => simp [intOf]
          · rw [STG2.out (by decide)] at RUN1
            have HN : Bx (runA (ups ns) n ⟨ds, ws⟩ = none) := ⟨by rw [RUN.out, RUN1.out]; rfl⟩
            go_wp2_with fail
            go_ret2
            exact ⟨.inl ⟨HN.out, rfl⟩, BY.out⟩
      · have HF := bx (STF.out up (by decide))
        rw [HF.out] at RUN1
        have HN : Bx (runA (ups ns) n ⟨ds, ws⟩ = none) := ⟨by rw [RUN.out, RUN1.out]; rfl⟩
        go_wp2_with fail
        go_ret2
        exact ⟨.inl ⟨HN.out, rfl⟩, BZ.out⟩
end Go.Proofs.Ytonkgjengplppaa
