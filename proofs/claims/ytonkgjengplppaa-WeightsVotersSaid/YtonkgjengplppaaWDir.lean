/- weights.Direct, walked. -/
import Derived.Test.YtonkgjengplppaaWDirM
import Derived.Test.YtonkgjengplppaaSubW
namespace Go.Proofs.Ytonkgjengplppaa
open Go.RowKit
theorem wpList_loadPv {α : Type} {f : α → List Value} {k : Nat} {P : Program} {ops : Array Oper} {rest : List Oper} {op : Oper} {a : Act} {w : World} {Q : Exit → Act → World → Prop} (ty : TypeId) (x : Operand) (ho : op.op = .load ty x)
    (hgd : Region.wanted op (yielded ops a.tmps) = true) (g : Nat) (xs : List α) (i : Nat) (hx : a.eval x = .pointer (some ⟨g, i * k, none⟩)) (post : List Value) (hg : Has w g (xs.flatMap f ++ post)) (hk : ∀ x ∈ xs, (f x).length = k)
    (v : α) (hv : xs[i]? = some v) {d : TypeDesc} (hu : P.underlying ty = some d) (hd : d.isRow = true) (hc : P.cellsOf ty = k)
    (h : wpList P ops Q rest (a.put op.dst (.agg (f v).toArray)) w) : wpList P ops Q (op :: rest) a w := by
  obtain ⟨hi, rfl⟩ := List.getElem?_eq_some_iff.1 hv
  exact wpList_loadP ty x ho hgd g xs i hx post hg hk hi hu hd hc h
theorem node0 {n : Nd} (h : BkOk n.b) : (nc zNode).length = (nc n).length := by rw [nc_len h]; rfl
set_option maxRecDepth 20000 in
set_option maxHeartbeats 2000000 in
theorem direct_any (A0 AL AE Ab : Option Addr) (n0 c0 cl ne ce n cb : Nat) (ns : List Nd) (vs : List Vt) (G bs : List Int) (wf : Wf ns) (hG : GOk G) (hne : ne ≤ 4096) (hs : SmB bs) (hn7 : n ≤ 7) (hn0 : 0 < n0) (hn9 : n0 ≤ 4096) (w : World)
    (h0 : NRow w A0 n0 ns) (h1 : VRow w AL n vs) (h2 : GRow w AE ne G) (h3 : URow w Ab n bs) :
    Calls Try.prog 16 #[.agg #[.slice A0 n0 c0], .agg #[.slice AL n cl, .slice AE ne ce], .slice Ab n cb] w (UP n0 (dirL ns vs G bs n) w) := by
  have hmm := @run_makeMap Try.prog
  obtain ⟨iu, hiu, hu0, hu1, hu2⟩ := info_parts info_u64
  have hmk := fun w => run_make (P := Try.prog) w 29 35 iu _ Try.underlying29 hiu hu0 .i64 .i64 n0 n0 (by omega) (Int.le_refl _) (by rw [hu2]; omega) (by omega)
  rw [hu1, Int.toNat_natCast, made_flat (fun x => [Value.int .u64 x]) (0 : Int) (Value.int .u64 0).cells (by simp [Value.cells]) (k := 1) (by rfl) (by omega) n0, flat_one] at hmk
  have HMK := bx hmk
  have HIU := bx (show Try.prog.info? 35 = some iu from hiu)
  have WF := bx wf
  have HG := bx hG
  have HS := bx hs
  have HN0 := bx hn0
  have R0 := bx h0
  have R1 := bx h1
  have R2 := bx h2
  have R3 := bx h3
  have L0 := bx h0.1
  have L1 := bx h1.1
  have L3 := bx h3.1
  generalize hwa : ((w.alloc (.cells #[.slice A0 n0 c0] 25)).alloc (.cells #[.slice AL n cl, .slice AE ne ce] 28)).alloc (.map #[] 0) = wA
  have XA3 : Bx (Has wA w.heap.size [.slice A0 n0 c0]) := ⟨by rw [← hwa]; exact ((Has.new w _ _).alloc _).alloc _⟩
  have XA4 : Bx (Has wA (w.heap.size + 1) [.slice AL n cl, .slice AE ne ce]) := ⟨by rw [← hwa]; exact (has_newAt (alloc_size w _) [.slice AL n cl, .slice AE ne ce] _).alloc _⟩
  have MA : Bx (IMap wA (w.heap.size + 1 + 1) 0 (ix ns 0)) := ⟨by
    rw [← hwa, show ix ns 0 = fun _ => none from rfl]
    have := IMap.made ((w.alloc (.cells #[.slice A0 n0 c0] 25)).alloc (.cells #[.slice AL n cl, .slice AE ne ce] 28))
    simpa using this⟩
  have BA : Bx (Below w.heap.size w wA) := ⟨by rw [← hwa]; exact ((ext_alloc w _).alloc (by simp) _).alloc (by simp; omega) _⟩
  have HWA := bx hwa
  have hcA : wA.cell? ⟨w.heap.size, 0, none⟩ = some (.slice A0 n0 c0) := XA3.out.cell 0
  clear h0 h1 h2 h3 wf hs hG hwa hiu hmk
  go_enter Try.func16, Try.ntmps16
  go_upto_region 2 with fail
  rw [HWA.out]
  go_wp2_with fail
  clear HWA hcA
  go_loopw [21] (fun i wr => ∃ k : Nat, k ≤ n0 ∧ i = .int .i64 k ∧ IMap wr (w.heap.size + 1 + 1) k (ix ns k) ∧ Has wr w.heap.size [.slice A0 n0 c0] ∧ Has wr (w.heap.size + 1) [.slice AL n cl, .slice AE ne ce] ∧ Below w.heap.size w wr) (fun i _ => n0 - (intOf i).toNat)
  case atStart => exact ⟨0, Nat.zero_le _, rfl, MA.out, XA3.out, XA4.out, BA.out⟩
  case round =>
    obtain ⟨k, hk, rfl, hm, hx3, hx4, hbel⟩ := hrel
    have MR := bx hm
    have X3 := bx hx3
    have X4 := bx hx4
    have BR := bx hbel
    clear hm hx3 hx4 hbel MA XA3 XA4 BA
    by_cases hkn : k < n0
    · have hki : (k : Int) < (n0 : Int) := by omega
      have hk0 : (0 : Int) ≤ (k : Int) := by omega
      have hkl : k < ns.length := by rw [L0.out]; exact hkn
      have HKN := bx hkn
      obtain ⟨g0, p0, rfl, hg0⟩ := (R0.out.below BR.out).2.2 hn0
      have CN := bx hg0
      have NK := bx R0.out.2.1
      have OKN := bx (R0.out.2.1 _ (List.getElem_mem hkl))
      have HNK : Bx (ns[k]? = some ns[k]) := ⟨List.getElem?_eq_getElem hkl⟩
      have BTK := bx (WF.out.bt _ (List.getElem_mem hkl))
      have IXI := bx (ix_in hkl)
      have IXO := bx (ix_out hkl)
      have P0 := bx (Has.new wr (nc zNode) 51)
      have EX := bx (ext_alloc wr (.cells (nc zNode).toArray 51))
      clear hg0
      generalize ns[k] = nd at *
      go_upto_region 5 with (first | ((with_reducible refine wpList_loadPv (f := nc) (k := 240) 51 _ rfl ?_ g0 ns k ?_ p0 CN.out NK.out.len nd HNK.out Try.underlying51 ?_ ?_ ?_); rfl; rfl; rfl; kernel_rfl) | ((with_reducible refine wpList_allocZ rfl 51 (nc zNode) zero_node rfl ?_)) | ((with_reducible refine wpList_storeB rfl 51 _ _ rfl _ (nc nd) _ ?_ ?_ P0.out (node0 OKN.out) Try.underlying51 ?_ (nc_one OKN.out) ?_); rfl; rfl; exact cells_node OKN.out; intro w2 hw hg hz; have H2 := bx hw; have B2 := bx (EX.out.grown hg EX.out.size (fun k hk => by cases hk; exact Nat.le_refl _)); clear hw hg hz))
      have X32 := bx (X3.out.below B2.out X3.out.lt)
      have X42 := bx (X4.out.below B2.out X4.out.lt)
      have M2 := bx (MR.out.below B2.out MR.out.lt)
      have BW2 := bx (BR.out.trans (B2.out.mono BR.out.size))
      have hcs : w2.cell? ⟨wr.heap.size, 239, none⟩ = some (.int .i64 nd.st) := (H2.out.cell 239).trans (nc_st OKN.out)
      have RT := bx (range_part 67 H2.out.rangeAll (fun j u hu => nc_bc OKN.out (bc_root OKN.out j u hu)))
      have LR := bx OKN.out.root
      clear P0 EX X3 X4 MR BR CN B2
      by_cases hst : nd.st = 2
      · have MX := bx (M2.out.mono (Nat.le_succ k))
        rw [← IXO.out hst] at MX
        rw [hst] at hcs
        clear hst IXI IXO
        go_wp2_with fail
        go_roundw
        case rel => exact ⟨k + 1, HKN.out, by go_num, MX.out, X32.out, X42.out, BW2.out⟩
        case measure => simp [intOf]; omega
      · have IXK := bx (IXI.out hst)
        have hne2 : (nd.st != 2) = true := by rw [bne_iff_ne]; exact hst
        clear hst IXI IXO
        generalize nd.st = st at *
        generalize nd.b.root = r at *
        obtain ⟨wn, hrun, hmn, hgr⟩ := M2.out.put LR.out BTK.out k (by omega) (by unfold maxLen; omega)
        rw [← IXK.out] at hmn
        have MN := bx hmn
        have HRUN := bx hrun
        have X3N := bx (X32.out.grown hgr (ne_som (by omega)))
        have X4N := bx (X42.out.grown hgr (ne_som (by omega)))
        have BN := bx (BW2.out.grown hgr BW2.out.size (fun k hk => by cases hk; omega))
        clear hrun hmn hgr
        go_wp2_with (first | ((with_reducible refine wpList_loadR 41 _ rfl ?_ wr.heap.size (0 + 67) (ints .u8 r) RT.out ?_ Try.underlying41 ?_ ?_ ?_); rfl; rfl; rfl; exact cells_root LR.out) | (at_mapUpdate; (with_reducible refine wpList_upd rfl _ _ _ 81 rfl (w.heap.size + 1 + 1) (.agg (ints .u8 r).toArray) (.int .i64 k) ?_ ?_ ?_ HRUN.out ?_); rfl; rfl; rfl))
        go_roundw
        case rel => exact ⟨k + 1, HKN.out, by go_num, MN.out, X3N.out, X4N.out, BN.out⟩
        case measure => simp [intOf]; omega
    · obtain rfl : k = n0 := by omega
      have IMR := bx MR.out
      go_upto_region 9 with ((with_reducible refine wpList_loadG 28 _ rfl _ [.slice AL n cl, .slice AE ne ce] ?_ ?_ X4.out Try.underlying28 rfl ?_ ?_); rfl; rfl; exact cells_votes _ _)
      refine (members_any AL AE n cl ne ce G HG.out hne _ (R2.out.below BR.out)).mono ?_; rintro e w1 ⟨b, rfl, hbs, hgm, hb⟩
      have B1 := bx (BR.out.trans (hb.mono BR.out.size))
      have GM1 := bx hgm
      have IM1 := bx (IMR.out.below hb IMR.out.lt)
      have X31 := bx (X3.out.below hb X3.out.lt)
      have X41 := bx (X4.out.below hb X4.out.lt)
      have hc1 : w1.cell? ⟨w.heap.size, 0, none⟩ = some (.slice A0 k c0) := X31.out.cell 0
      have hmk1 := HMK.out w1
      have RV := bx (R1.out.below B1.out)
      have RB := bx (R3.out.below B1.out)
      have O1 := bx (Has.new w1 (ints .u64 (List.replicate k 0)) 35)
      rw [← L0.out, ← dirL_zero (ns := ns) (vs := vs) (G := G) (bs := bs)] at O1
      rw [← L0.out, ← dirL_zero (ns := ns) (vs := vs) (G := G) (bs := bs), L0.out] at hmk1
      have BX1 := bx (ext_alloc w1 (.cells (ints .u64 (dirL ns vs G bs 0)).toArray 35))
      clear hb hgm MR X3 X4 BR IMR HMK
      go_wp2_with fail
      clear hmk1 hc1
      go_loopw [43] (fun i wr => ∃ m : Nat, m ≤ n ∧ i = .int .i64 m ∧ Has wr w1.heap.size (ints .u64 (dirL ns vs G bs m)) ∧ Below w1.heap.size w1 wr) (fun i _ => n - (intOf i).toNat)
      case atStart => exact ⟨0, Nat.zero_le _, rfl, O1.out, BX1.out⟩
      case round =>
        obtain ⟨m, hm, rfl, ho, hbel⟩ := hrel
        have OR := bx ho
        have BL := bx hbel
        clear ho hbel O1 BX1
        by_cases hmn : m < n
        · have hmi : (m : Int) < (n : Int) := by omega
          have hm0 : (0 : Int) ≤ (m : Int) := by omega
          have HMN := bx hmn
          have MEA : Bx (n - (intOf (.int .i64 ((m : Int) + 1))).toNat < n - (intOf (.int .i64 (m : Int))).toNat) := ⟨by simp [intOf]; omega⟩
          have hmv : m < vs.length := by rw [L1.out]; exact hmn
          have hmb : m < bs.length := by rw [L3.out]; exact hmn
          obtain ⟨gv, pv, rfl, hgv⟩ := (RV.out.below BL.out).2.2 (by omega)
          obtain ⟨gb, pb, rfl, hgb⟩ := (RB.out.below BL.out).2 (by omega)
          have VROW := bx hgv
          have VLN := bx RV.out.2.1.len
          have hcb := URow.cell hgb hmb
          have hvv : vs[m]? = some (vs.getD m zv) := by rw [List.getElem?_eq_getElem hmv]; simp [List.getD, List.getElem?_eq_getElem hmv]
          have hvo : (vs.getD m zv).2.2.length = 32 ∧ Bt (vs.getD m zv).2.2 := RV.out.2.1 _ (List.mem_of_getElem? hvv)
          have HVV := bx hvv
          have DCH := bx (fun h => dir_no (ns := ns) (bs := bs) (cnt_has (vs := vs) (G := G) (m := m) h))
          have DGU := bx (fun h => dir_no (ns := ns) (vs := vs) (bs := bs) (cnt_guilty (vs := vs) (G := G) (m := m) h))
          have DNO := bx (fun h1 h2 h3 => dir_none (ns := ns) (vs := vs) (G := G) (bs := bs) (m := m) h1 h2 h3)
          have DYE := bx (fun i h1 h2 h3 => dir_yes (ns := ns) (vs := vs) (G := G) (bs := bs) (m := m) (i := i) WF.out h1 h2 h3)
          have IXS := bx (fun i h => (let ⟨h1, _⟩ := ix_some (ns := ns) (r := (vs.getD m zv).2.2) (i := i) ns.length (Nat.le_refl _) h; h1 : i < ns.length))
          have DBD := bx (dirL_bd (ns := ns) (vs := vs) (G := G) HS.out (m := m) (by omega) (by omega))
          have hbx := HS.out.at hmb
          have hc4 : wr.cell? ⟨w.heap.size + 1, 0, none⟩ = some (.slice (some ⟨gv, 0, none⟩) n cl) := (X41.out.below BL.out X41.out.lt).cell 0
          rw [L0.out] at DNO DYE IXS
          clear hgv hgb hvv hmb
          generalize bs.getD m 0 = y at *
          generalize vs.getD m zv = v at *
          obtain ⟨hh, ep, r⟩ := v
          have OKV := bx hvo
          have P0 := bx (Has.new wr (vc zv) 54)
          have EX := bx (ext_alloc wr (.cells (vc zv).toArray 54))
          go_upto_region 14 with (first | ((with_reducible refine wpList_loadPv (f := vc) (k := 34) 54 _ rfl ?_ gv vs m ?_ pv VROW.out VLN.out (hh, ep, r) HVV.out Try.underlying54 ?_ ?_ ?_); rfl; rfl; rfl; kernel_rfl) | ((with_reducible refine wpList_allocZ rfl 54 (vc zv) zero_vote rfl ?_)) | ((with_reducible refine wpList_storeB rfl 54 _ _ rfl _ (vc (hh, ep, r)) _ ?_ ?_ P0.out (vlen0 OKV.out.1) Try.underlying54 ?_ (vc_one _) ?_); rfl; rfl; exact cells_vote OKV.out.1; intro w2 hw hg hz; have H2 := bx hw; have B2 := bx (EX.out.grown hg EX.out.size (fun k hk => by cases hk; exact Nat.le_refl _)); clear hw hg hz))
          have BW := bx (BL.out.trans (B2.out.mono BL.out.size))
          have O2 := bx (OR.out.below B2.out OR.out.lt)
          have GM2 := bx (GM1.out.below BW.out GM1.out.lt)
          have IM2 := bx (IM1.out.below BW.out IM1.out.lt)
          have hlk := GM2.out.look (wf_i64 (x := (m : Int)) (by omega) (by omega))
          have hch : w2.cell? ⟨wr.heap.size, 0, none⟩ = some (.bool hh) := H2.out.cell 0
          have LR : Bx (r.length = 32) := ⟨OKV.out.1⟩
          have BR : Bx (Bt r) := ⟨OKV.out.2⟩
          have RT : Bx (w2.rangeAt wr.heap.size 2 (ints .u8 r)) := ⟨by have := range_part (ds := ints .u8 r) 2 H2.out.rangeAll (fun j u hu => by rw [Nat.add_comm]; exact hu); simpa using this⟩
          have LSZ : Bx (w1.heap.size ≤ w2.heap.size) := ⟨BW.out.size⟩
          clear P0 EX OR BL B2 GM2 VROW HVV VLN hc4
          cases hh with
          | false =>
            have DD := bx (DCH.out rfl)
            clear hlk DCH DGU DNO DYE
            go_wp2_with fail
            go_roundw
            case rel => exact ⟨m + 1, HMN.out, by go_num, by rw [DD.out]; exact O2.out, BW.out⟩
            case measure => exact MEA.out
          | true =>
            by_cases hg : (m : Int) ∈ G
            · have DD := bx (DGU.out hg)
              rw [decide_eq_true hg] at hlk
              clear hg DCH DGU DNO DYE
              go_wp2_with fail
              go_roundw
              case rel => exact ⟨m + 1, HMN.out, by go_num, by rw [DD.out]; exact O2.out, BW.out⟩
              case measure => exact MEA.out
            · rw [decide_eq_false hg] at hlk
              have hli := IM2.out.look LR.out BR.out
              cases hix : ix ns k r with
              | none =>
                have DD := bx (DNO.out rfl hg hix)
                have hli2 : (Instr.lookup 81 (.map (some (w.heap.size + 1 + 1))) (.agg (ints .u8 r).toArray) true).run Try.prog w2 = .ok (.tuple #[.int .i64 0, .bool false]) w2 := by rw [hix] at hli; exact hli
                clear hg DCH DGU DNO DYE hli hix IXS
                go_wp2_with ((with_reducible refine wpList_loadR 41 _ rfl ?_ wr.heap.size 2 (ints .u8 r) RT.out ?_ Try.underlying41 ?_ ?_ ?_); rfl; rfl; rfl; exact cells_root LR.out)
                go_roundw
                case rel => exact ⟨m + 1, HMN.out, by go_num, by rw [DD.out]; exact O2.out, BW.out⟩
                case measure => exact MEA.out
              | some i =>
                have DD := bx (DYE.out i rfl hg hix)
                have hli2 : (Instr.lookup 81 (.map (some (w.heap.size + 1 + 1))) (.agg (ints .u8 r).toArray) true).run Try.prog w2 = .ok (.tuple #[.int .i64 (i : Int), .bool true]) w2 := by rw [hix] at hli; exact hli
                have hin := IXS.out i hix
                have hil : i < (dirL ns vs G bs m).length := by rw [dirL_len, L0.out]; exact hin
                have hini : (i : Int) < (k : Int) := by omega
                have hi0 : (0 : Int) ≤ (i : Int) := by omega
                have hco : w2.cell? ⟨w1.heap.size, i, none⟩ = some (.int .u64 ((dirL ns vs G bs m).getD i 0)) := (O2.out.cell i).trans (ints_at hil)
                have hfo : w2.frozen? ⟨w1.heap.size, i, none⟩ = false := O2.out.frozen i
                have hxb : 0 ≤ (dirL ns vs G bs m).getD i 0 ∧ (dirL ns vs G bs m).getD i 0 ≤ 1008806316530991104 := by rw [getD_at hil]; exact DBD.out _ (List.getElem_mem hil)
                have S9 := bx (O2.out.set i (.int .u64 ((dirL ns vs G bs m).getD i 0 + y)))
                rw [set_w, ← DD.out] at S9
                have B9 := bx (BW.out.grown (grown_setCell w2 w1.heap.size i (.int .u64 ((dirL ns vs G bs m).getD i 0 + y))) BW.out.size (fun k hk => by cases hk; exact Nat.le_refl _))
                clear hg DCH DGU DNO DYE hli hix IXS DD DBD hil hin O2
                generalize (dirL ns vs G bs m).getD i 0 = x at *
                have hxy : (x + y) % 18446744073709551616 = x + y := by omega
                go_wp2_with ((with_reducible refine wpList_loadR 41 _ rfl ?_ wr.heap.size 2 (ints .u8 r) RT.out ?_ Try.underlying41 ?_ ?_ ?_); rfl; rfl; rfl; exact cells_root LR.out)
                go_roundw
                case rel => exact ⟨m + 1, HMN.out, by go_num, S9.out, B9.out⟩
                case measure => exact MEA.out
        · obtain rfl : m = n := by omega
          have U64D : Bx (U64 (dirL ns vs G bs m)) := ⟨fun x hx => by have := dirL_bd (ns := ns) (vs := vs) (G := G) HS.out (m := m) (by rw [L3.out]; exact Nat.le_refl _) hn7 x hx; omega⟩
          go_wp2_with fail
          go_ret
          exact ⟨_, _, rfl, U64D.out, ⟨by rw [dirL_len, L0.out], fun _ => ⟨_, [], rfl, by rw [List.append_nil]; exact OR.out⟩⟩, B1.out.trans (BL.out.mono B1.out.size)⟩
end Go.Proofs.Ytonkgjengplppaa
