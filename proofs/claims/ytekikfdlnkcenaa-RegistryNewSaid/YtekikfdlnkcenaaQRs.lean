/- Roots: slices.Values, slices.AppendSeq, slices.Collect, slices.SortFunc, slices.SortedFunc. -/
import Derived.Test.YtekikfdlnkcenaaAppC
import Derived.Test.YtekikfdlnkcenaaCmpC
import Derived.Test.YtekikfdlnkcenaaCmpR
import Derived.Test.YtekikfdlnkcenaaSortRow
import Derived.Test.YtekikfdlnkcenaaShelf
import Derived.Test.YtekikfdlnkcenaaRx
import Derived.RangeFuncKeeps
import Derived.Test.YtekikfdlnkcenaaMmE
import Derived.Test.YtekikfdlnkcenaaTbF
namespace Go.Proofs.Ytekikfdlnkcenaa
open Go.RowKit Go.Maps Go.Sort Go.Shelf
attribute [local go_sem] Oper.semAt_some
def encR (x : Rt) : Value := .agg (rc x).toArray
theorem zero_rt (w : World) : (zeroValue 33).run Try.prog w = .ok (.agg (rc r0).toArray) w := by kernel_rfl
theorem cells_rt (r : Rt) : Try.prog.cellsOf 33 = (rc r).length := by rw [rc_len]; kernel_rfl
theorem rc_oneA (r : Rt) : ∀ u ∈ rc r, u.oneCell' = true := rc_one r
def rts (l : List Rt) : List Value := l.flatMap rc
theorem none_below {w w' : World} (h : w.grownBy w' none) : Below w.heap.size w w' := ⟨h.os, h.tape, h.output, h.size, fun k hk => h.block k hk (by simp)⟩
instance : Inhabited Rt := ⟨r0⟩
/-- the roots in order -/
def srtR (l : List Rt) : List Rt := l.mergeSort fun x y => !ltOf cmpRt y x
theorem srtR_len (l : List Rt) : (srtR l).length = l.length := by simp [srtR]
theorem cmpLaysR (blk off size : Nat) (w : World) : CmpLays Try.prog 18 #[] rc 32 cmpRt blk off size w := fun m os dk hs x y => by
  refine (compare_lays (rt_fit x) (rt_fit y) x.len y.len _).mono fun e w' h => ?_
  obtain ⟨rfl, hl⟩ := h
  exact ⟨rfl, hl⟩
theorem cpr_enters (args : Array Value) (w : World) : (callFunc 18 args).run Try.prog w = .ok (.enter 18 args) w := enters_of Try.func18 (by kernel_rfl) rfl args w
theorem run_ldA {P : Program} (w : World) (ad : Addr) (ty : TypeId) (cs : List Value) (d : TypeDesc) (hc : ∀ j u, cs[j]? = some u → w.cell? (ad.add j) = some u)
    (hu : P.underlying ty = some d) (hd : d.isRow = true) (hi : (P.info? ty).map (·.size) = some cs.length) :
    (loadVar ty ad).run P w = .ok (.agg cs.toArray) w := by
  have hl : (loadCells ad cs.length).run P w = .ok cs.toArray w := run_loadCells_list (P := P) w ad cs hc
  cases hq : P.info? ty with
  | none => simp [hq] at hi
  | some i =>
    have hs : i.size = cs.length := by simpa [hq] using hi
    have hagg : (isAgg ty).run P w = .ok true w := by
      unfold isAgg
      rw [Sem.run_bind, run_underlying hu w]
      cases d <;> simp_all
    simp [loadVar, Sem.run_bind, hagg, sizeOf, typeInfo, hq, hs, hl]
theorem exec_ldA {o : Oper} {a : Act} {w : World} {ad : Addr} {r : Rt} {x : Operand} (hc : ∀ j u, (rc r)[j]? = some u → w.cell? (ad.add j) = some u) (ho : o.op = .load 33 x) (hx : a.eval x = .pointer (some ad)) :
    (execOp a.eval o).run Try.prog w = .ok (.value (.agg (rc r).toArray)) w := by
  have := run_ldA (P := Try.prog) w ad 33 (rc r) _ hc Try.underlying33 rfl (info_size Try.underlying33 (cells_rt r))
  unfold execOp
  simp only [ho, hx, Instr.loadAt, Instr.sureAddr, Sem.run_bind, Sem.run_pure, Result.andThen_ok, this]
set_option maxRecDepth 100000 in
set_option maxHeartbeats 1000000 in
theorem values1_in (F : Fence) (n : Nat) (hf : F.fn 86) (hro : F.round = none) (hn : 1 ≤ n) (l Bm n₀ : Nat) (A : Option Addr) (len cap : Nat) (X : List Rt) (hlen : X.length = len) (hl5 : len ≤ 65535) (J Jx : List Rt → World → Prop)
    (hY : ∀ pre x W, J pre W → pre.length < len → YieldAt F (n - 1) Try.prog l #[encR x] W fun e W' =>
      (e = .returned (.bool true) ∧ J (pre ++ [x]) W' ∧ Below n₀ W W') ∨ (e = .returned (.bool false) ∧ Jx (pre ++ [x]) W'))
    (W : World) (hJ : AbidesFrom W.heap.size J) (hm : W.cell? ⟨Bm, 0, none⟩ = some (.slice A len cap)) (hrow : Row W n₀ 32 A len (X.flatMap rc)) (hn0 : n₀ ≤ W.heap.size) (h0 : J [] W) :
    CallsIn F n Try.prog 86 #[.func (.yield l) #[] #[], .pointer (some ⟨Bm, 0, none⟩)] W fun e W' => (∃ v, e = .returned v) ∧
      ((∃ ss, ss = X ∧ J ss W') ∨ (∃ pre, True ∧ Jx pre W')) := by
  refine callsIn_of_wp Try.func86 rfl hf ?_ hro
  simp only [Try.ntmps86, List.size_toArray, List.length_cons, List.length_nil, Nat.reduceAdd, Nat.reduceSub, Array.replicate_succ, Array.replicate_zero, List.push_toArray, List.append_toArray, List.nil_append, List.cons_append]
  gi_wp2
  gi_loopw [7] (fun i wr => ∃ k : Nat, k ≤ len ∧ i = .int .i64 k ∧ J (X.take k) wr ∧ Below n₀ W wr) (fun i _ => len - (intOf i).toNat)
  case atStart => exact ⟨0, Nat.zero_le _, rfl, h0, Below.refl _ _⟩
  case round =>
    obtain ⟨k, hk, rfl, hJs, hnx⟩ := hrel
    by_cases hlt : k < len
    · have hkl : k < X.length := by rw [hlen]; exact hlt
      obtain ⟨ad, rfl, _, hcs⟩ := (hrow.below hnx).elem (fun x _ => rc_len x) (by decide) k hkl
      have HN := bx (List.take_succ_eq_append_getElem hkl)
      generalize X[k] = x at *
      have HC := bx hcs
      have HYS := bx (fun w3 (hg : wr.grownBy w3 none) => hY _ x w3 (hJ _ wr w3 none hJs hg (fun r e => by cases e)) (by rw [List.length_take]; omega))
      have XZ := bx (Has.new wr (rc r0) 33)
      have LZ : Bx ((rc r0).length = (rc x).length) := ⟨by rw [rc_len, rc_len]⟩
      have LC := bx (cells_rt x)
      have OC := bx (rc_oneA x)
      have G0 := bx (fun w3 (hg : (wr.alloc (.cells (rc r0).toArray 33)).grownBy w3 (some wr.heap.size)) => below_none ((ext_alloc wr (.cells (rc r0).toArray 33)).grown hg (ext_alloc wr (.cells (rc r0).toArray 33)).size (fun k hk => by cases hk; exact Nat.le_refl _)))
      have NX := bx hnx
      have HN0 := bx (Nat.le_trans hn0 hnx.size)
      have hki : (k : Int) < (len : Int) := by omega
      have hk0 : (0 : Int) ≤ (k : Int) := by omega
      clear hY hJ hcs hJs hnx h0 hm hrow hn0
      unfold encR at *
      gi_wp2_with (first
        | (with_reducible refine wpListIn_run rfl rfl (exec_ldA HC.out rfl rfl) ?_)
        | (with_reducible refine wpListIn_allocZ rfl 33 (rc r0) zero_rt rfl ?_)
        | ((with_reducible refine wpListIn_storeB rfl 33 _ _ rfl _ (rc x) _ ?_ ?_ XZ.out LZ.out Try.underlying33 LC.out OC.out ?_); rfl; rfl; intro w3 hw hg hz; have X3 := bx hw; have G3 := bx (G0.out w3 hg); obtain ⟨fn, tmps, assign, body, hy, hR⟩ := HYS.out w3 G3.out; clear hw hg hz)
        | ((with_reducible refine wpListIn_loadB rfl 33 _ rfl _ (rc x) ?_ X3.out Try.underlying33 rfl LC.out ?_); rfl))
      refine hR.mono ?_
      rintro e W3 (⟨rfl, hJ3, hk3⟩ | ⟨rfl, hJx3⟩)
      · gi_wp2
        go_roundw
        case rel => exact ⟨k + 1, by omega, by simp, by rw [HN.out]; exact hJ3, NX.out.trans (((none_below G3.out).mono HN0.out).trans hk3)⟩
        case measure => simp [intOf]; omega
      · gi_wp2
        refine bodyPost_ret (results_none rfl _ _ _) rfl ?_
        exact ⟨⟨_, rfl⟩, .inr ⟨_, trivial, hJx3⟩⟩
    · obtain rfl : k = len := by omega
      rw [List.take_of_length_le (by omega)] at hJs
      gi_wp2
      go_end0
      exact ⟨⟨_, rfl⟩, .inl ⟨_, rfl, hJs⟩⟩
theorem info_rt : (Try.prog.info? 33).map (fun i => (i.zero, i.size, i.bytes)) = some (some (.agg (rc r0).toArray), 32, 32) := by kernel_rfl
theorem bs_rt (ps : List (Nat × Value)) : Try.prog.builtSlice 33 1 ps = Instr.fill (fun i => some (i * 32, 32)) (rc r0).toArray ps := by kernel_rfl
theorem built_sliceR {c : Rt} : Try.prog.builtSlice 33 1 [(0, .agg (rc c).toArray)] = some (rc c).toArray := by
  rw [bs_rt]
  have e0 : rc r0 = [] ++ rc r0 ++ [] := by simp
  rw [e0, fill_part _ [] (rc r0) [] (rc c) 0 _ _ (by rw [rc_len c]; rfl) rfl (by rw [rc_len c]; rfl)]
  simp [Instr.fill]
theorem run_bsRt {o : Oper} {a : Act} {w : World} {x : Operand} {c : Rt} (ho : o.op = .buildSlice 46 1 #[(0, x)]) (hx : a.eval x = .agg (rc c).toArray) :
    (execOp a.eval o).run Try.prog w = .ok (.value (.slice (some ⟨w.heap.size, 0, none⟩) 1 1)) (w.alloc (.cells (rc c).toArray 33)) := by
  have e : (#[(0, x)].map fun (i, x) => (i, a.eval x)) = #[(0, .agg (rc c).toArray)] := by
    apply Array.ext'
    rw [Array.toList_map]
    show [(0, a.eval x)] = _
    rw [hx]
  have := run_sliceTo (P := Try.prog) w 46 33 1 #[(0, .agg (rc c).toArray)] _ Try.underlying46 built_sliceR
  unfold execOp
  simp only [ho, e, this, Sem.run_bind, Result.andThen_ok]
  rfl
theorem rts_push (l : List Rt) (x : Rt) : rts (l ++ [x]) = rts l ++ rc x := by simp [rts]
set_option maxRecDepth 100000 in
set_option maxHeartbeats 4000000 in
theorem appendSeqR_in (F : Fence) (n : Nat) (hf : F.fn 111) (hro : F.round = none) (hn : 2 ≤ n) (g : Nat) (lb : Array Value) (hFg : F.fn g) (eg : ∀ args w, (callFunc g args).run Try.prog w = .ok (.enter g args) w)
    (S Sp : List Rt → Prop) (N : Nat) (hN : N ≤ 65535) (w : World) (n₀ : Nat) (hn₀ : n₀ ≤ w.heap.size) (hseq : ∀ w', Below w.heap.size w w' → SeqStopsK F (n - 1) Try.prog g lb (fun x : Rt => #[encR x]) (Below n₀) S Sp N w') :
    CallsIn F n Try.prog 111 #[.slice none 0 0, .func (.func g) #[] lb] w fun e w' => ∃ (v : Value) (ss : List Rt), e = .returned v ∧ S ss ∧ w'.ownsRow w.heap.size 33 32 v ss.length (rts ss) ∧ Below w.heap.size w w' := by
  have h1 : 1 ≤ n := by omega
  obtain ⟨i0, hi, hz0, hz1, hz2⟩ := info_parts info_rt
  have HI := bx (show Try.prog.info? 33 = some i0 from hi)
  refine callsIn_of_wp_marks Try.func111 rfl hf ?_ hro
  simp only [Try.ntmps111, List.size_toArray, List.length_cons, List.length_nil, Nat.reduceAdd, Nat.reduceSub, Array.replicate_succ, Array.replicate_zero, List.push_toArray, List.append_toArray, List.nil_append, List.cons_append]
  gi_wp2
  have bS := Boxed.new w 46 (.slice none 0 0)
  have hB0 := ext_alloc w (.cells #[.slice none 0 0] 46)
  have hsz : (w.alloc (.cells #[.slice none 0 0] 46)).heap.size = w.heap.size + 1 := by simp
  obtain ⟨W0, hW0⟩ : ∃ W0, w.alloc (.cells #[.slice none 0 0] 46) = W0 := ⟨_, rfl⟩
  rw [hW0] at bS hB0 hsz ⊢
  clear hW0
  have hn₀' : n₀ ≤ W0.heap.size := by omega
  refine wpIn_rangeFunc_ownH hro h1 (gf := g) (lb := lb) rfl hFg eg (hseq W0 hB0) belowK_t (belowK_b hn₀') (Below.refl _ _) (fun _ => rfl)
    (fun pre W => (∃ v, Boxed W w.heap.size 46 v ∧ W.ownsRow w.heap.size 33 32 v pre.length (rts pre) ∧ True) ∧ Below w.heap.size w W)
    (fun _ _ _ => False)
    (OwnFrom.and (Own.from (holdsRow_own w.heap.size w.heap.size 46 33 32 (fun pre : List Rt => pre.length) (fun pre => rts pre) (fun _ _ => True)) _) (ownFrom_below (Nat.le_refl _) (by omega)))
    (fun _ _ _ _ _ hs _ _ => hs)
    ⟨⟨_, bS, World.ownsRow_nil _ _ _ _, trivial⟩, hB0⟩
    (fun x a' W => ∃ b, w.heap.size < b ∧ Has W b (rc x) ∧ a' = { tmps := #[.slice none 0 0, .func (.func g) #[] lb, .pointer (some ⟨w.heap.size, 0, none⟩), undef, .slice none 0 0, .pointer (some ⟨b, 0, none⟩), .func (.func g) #[] lb, encR x, undef, undef, undef, undef, undef], defers := [] })
    (fun x a' s W W' row h hg hr => by
      obtain ⟨b, h1, h2, h3⟩ := h
      exact ⟨b, h1, has_own _ b _ () W W' row h2 hg hr, h3⟩)
    ?assign ?body ?done ?stop
  case assign =>
    rintro l pre x W K hI hK
    have XZ := bx (Has.new W (rc r0) 33)
    have LZ : Bx ((rc r0).length = (rc x).length) := ⟨by rw [rc_len x]; rfl⟩
    have LC := bx (cells_rt x)
    have OC := bx (rc_oneA x)
    have HK := bx hK
    have HI2 := bx hI
    clear hK hI
    rw [zip1]
    change Code.wpIn (F.inRound l) (n - 1 - 1) Try.prog _ _ { tmps := #[.slice none 0 0, .func (.func g) #[] lb, .pointer (some ⟨w.heap.size, 0, none⟩), undef, .slice none 0 0, undef, .func (.func g) #[] lb, .agg (rc x).toArray, undef, undef, undef, undef, undef], defers := [] } W
    gi_wp2_with (first
        | (with_reducible refine wpListIn_allocZ rfl 33 (rc r0) zero_rt rfl ?_)
        | ((with_reducible refine wpListIn_storeB rfl 33 _ _ rfl _ (rc x) _ ?_ ?_ XZ.out LZ.out Try.underlying33 LC.out OC.out ?_); rfl; rfl; intro w3 hw hg hz; have X3 := bx hw; have G3 := bx (below_none ((ext_alloc W (.cells (rc r0).toArray 33)).grown hg (ext_alloc W (.cells (rc r0).toArray 33)).size (fun k hk => by cases hk; exact Nat.le_refl _))); clear hw hg hz))
    obtain ⟨⟨v, hv, hrow, _⟩, hB⟩ := HI2.out
    refine HK.out _ _ (keepsF G3.out) ((none_below G3.out).mono (Nat.le_trans hn₀ hB.size)) ⟨⟨v, hv.kept G3.out (by simp), hrow.kept G3.out (by by_cases h : v.ownBlock = none <;> simp [h]), trivial⟩, hB.grown G3.out hB.size (fun k hk => by cases hk)⟩ ⟨W.heap.size, hv.lt, X3.out, rfl⟩
  case body =>
    rintro l pre x a' W hl ⟨r, hr⟩ ⟨⟨v, hv, hrow, _⟩, hB⟩ ⟨b, hb, hX, rfl⟩ hlt
    have hc0 := hv.cell
    have LC := bx (cells_rt x)
    have XB := bx hX
    have XN := bx (Has.new W (rc x) 33)
    have HV := bx hv
    have HROW := bx hrow
    have HBW := bx hB
    have NEWS : Bx (∀ j u, (rc x)[j]? = some u → (W.alloc (.cells (rc x).toArray 33)).cell? ((⟨W.heap.size, 0, none⟩ : Addr).add j) = some u) := ⟨fun j u hu => by rw [add_at, XN.out.cell, Nat.zero_add]; exact hu⟩
    have LEN : Bx ((rc x).length = 1 * 32) := ⟨by rw [rc_len x]⟩
    have ONE := bx (rc_oneA x)
    have M1 : Bx (pre.length + 1 ≤ maxLen) := ⟨by unfold maxLen; omega⟩
    have M2 : Bx ((pre.length + 1) * 32 ≤ 140737488355328) := ⟨by omega⟩
    have SZ : Bx (w.heap.size ≤ (W.alloc (.cells (rc x).toArray 33)).heap.size) := ⟨Nat.le_trans hB.size (by simp)⟩
    clear hX hr hlt hseq hv hrow hB
    gi_wp2_with (first
        | ((with_reducible refine wpListIn_loadB rfl 33 _ rfl _ (rc x) ?_ XB.out Try.underlying33 rfl LC.out ?_); rfl)
        | (with_reducible refine wpListIn_run rfl rfl (run_bsRt rfl rfl) ?_)
        | (gi_at_builtin; refine wpListIn_append_own _ rfl _ _ 46 rfl w.heap.size 33 i0 (.agg (rc r0).toArray) 32 32 Try.underlying46 HI.out hz0 hz1 hz2 rfl (by decide) _ _ _ rfl (HROW.out.alloc _) ⟨W.heap.size, 0, none⟩ 1 1 (rc x) rfl LEN.out NEWS.out ONE.out M1.out M2.out SZ.out ?_; intro v' w1 hown' hgrow hnl; obtain ⟨g', cap', rfl⟩ := ownsRow_succ hown'; obtain ⟨hv1, hv2, hr2, hk2, hb2⟩ := HV.out.appended (by decide) HROW.out HBW.out.size (Nat.le_refl _) hown' hgrow; have hc1 := hv1.cell; have hf1 := hv1.frozen; clear hown' hgrow hnl hv1 hc0))
    exact ⟨hk2.from _, hb2.mono hn₀, ⟨_, hv2, by rw [rts_push, List.length_append]; exact hr2, trivial⟩, HBW.out.trans hb2⟩
  case done =>
    rintro D ys W hD hS ⟨⟨v, hv, hrow, _⟩, hB⟩ hK
    have hc0 := hv.cell
    gi_wp2
    refine ⟨by simp, .inl ⟨_, _, rfl, run_takeDeferred hK, ?_⟩⟩
    exact ⟨_, results_tmp rfl _ _ _, v, ys, rfl, hS, ownsRow_putObj hrow _ hK rfl, hB.grown (grownBy_putObj' W D _) hB.size (fun k e => by cases e; omega)⟩
  case stop =>
    rintro D c pre W _ _ h _
    exact h.elim
/-- slices.SortFunc of a row of the call's own -/
theorem sortFuncR_any (base : Nat) (v : Value) (ss : List Rt) (hn : ss.length ≤ 65535) (w : World) (hb : base ≤ w.heap.size) (h : w.ownsRow base 33 32 v ss.length (rts ss)) :
    Calls Try.prog 85 #[v, .func (.func 18) #[] #[]] w fun e w' => e = .returned (.tuple #[]) ∧ w'.ownsRow base 33 32 v ss.length (rts (srtR ss)) ∧ Below base w w' := by
  rcases h.2 with ⟨rfl, hz⟩ | ⟨gb, cap, cur, rfl, hbase, hgb, r1, r2, r3, r4⟩
  · have hss : ss = [] := List.eq_nil_of_length_eq_zero hz
    subst hss
    refine (AnyF.slices_SortFunc_none { Try.sortR with } none 0 (.func (.func 18) #[] #[]) w).mono fun e w' h' => ?_
    obtain ⟨rfl, rfl⟩ := h'
    exact ⟨rfl, by simpa [srtR] using h, Below.refl _ _⟩
  · have hH := holdsK_of_block (enc := rc) rc_len (d := ss) hgb r4
    have hgl : gb < w.heap.size := (Array.getElem?_eq_some_iff.1 hgb).1
    have hc := AnyQ.slices_SortFunc_total Try.sortR 32 Try.isAgg33 Try.sizeOf33 rc rc_len rc_one cmpRt (swo_of (fun r : Rt => r.l) 32 (fun r => r.len)) 18 #[] gb 0 cap ss.toArray w cpr_enters (cmpLaysR gb 0 _ w) hH hgl (by simp; omega) (tot_of (fun r : Rt => r.l) 32 (fun r => r.len) (fun _ _ h => Rt.ext' h))
    rw [show ss.toArray.size = ss.length by simp] at hc
    refine hc.mono fun e w' h' => ?_
    obtain ⟨rfl, n, os, rfl⟩ := h'
    exact ⟨rfl, ownsRow_sortedK rc_len (srtR_len ss) hbase hgb r1 r2 r3, (Below.refl _ _).grown (grownBy_sortedK _) hb (fun k e => by cases e; exact hbase)⟩
set_option maxRecDepth 100000 in
set_option maxHeartbeats 1000000 in
theorem collectR_in (F : Fence) (n : Nat) (hf : F.fn 84) (hfa : F.fn 111) (hro : F.round = none) (hn : 3 ≤ n) (g : Nat) (lb : Array Value) (hFg : F.fn g) (eg : ∀ args w, (callFunc g args).run Try.prog w = .ok (.enter g args) w)
    (S Sp : List Rt → Prop) (N : Nat) (hN : N ≤ 65535) (w : World) (n₀ : Nat) (hn₀ : n₀ ≤ w.heap.size) (hseq : ∀ w', Below w.heap.size w w' → SeqStopsK F (n - 1 - 1) Try.prog g lb (fun x : Rt => #[encR x]) (Below n₀) S Sp N w') :
    CallsIn F n Try.prog 84 #[.func (.func g) #[] lb] w fun e w' => ∃ (v : Value) (ss : List Rt), e = .returned v ∧ S ss ∧ w'.ownsRow w.heap.size 33 32 v ss.length (rts ss) ∧ Below w.heap.size w w' := by
  have h1 : 1 ≤ n := by omega
  have HA := bx (appendSeqR_in F (n - 1) hfa hro (by omega) g lb hFg eg S Sp N hN w n₀ hn₀ hseq)
  clear hseq
  refine callsIn_of_wp Try.func84 rfl hf ?_ hro
  simp only [Try.ntmps84, List.size_toArray, List.length_cons, List.length_nil, Nat.reduceAdd, Nat.reduceSub, Array.replicate_succ, Array.replicate_zero, List.push_toArray, List.append_toArray, List.nil_append, List.cons_append]
  gi_wp2_with (gi_at_call 111; refine HA.out.mono ?_; rintro e w' ⟨v, ss, rfl, hS, hrow, hb⟩)
  go_ret
  exact ⟨v, ss, rfl, hS, hrow, hb⟩
/-- slices.SortedFunc(slices.Values(l), roots.Compare), from the iterator on -/
theorem values_stops (F : Fence) (n : Nat) (hf : F.fn 86) (hro : F.round = none) (hn : 1 ≤ n) (Bm n₀ : Nat) (A : Option Addr) (len cap : Nat) (X : List Rt) (hlen : X.length = len) (hl5 : len ≤ 65535) (w : World) (hBm : Bm < w.heap.size) (hn0 : n₀ ≤ w.heap.size)
    (hm : w.cell? ⟨Bm, 0, none⟩ = some (.slice A len cap)) (hrow : Row w n₀ 32 A len (X.flatMap rc)) :
    SeqStopsK F n Try.prog 86 #[.pointer (some ⟨Bm, 0, none⟩)] (fun x : Rt => #[encR x]) (Below n₀) (fun ss => ss = X) (fun _ => True) len w := fun l J Jx W hW hJ _ hY h0 =>
  values1_in F n hf hro hn l Bm n₀ A len cap X hlen hl5 J Jx hY W hJ ((hW.cell (p := ⟨Bm, 0, none⟩) hBm).trans hm) (hrow.below (hW.mono hn0)) (Nat.le_trans hn0 hW.size) h0
theorem values_any (A : Option Addr) (len cap : Nat) (w : World) :
    Calls Try.prog 50 #[.slice A len cap] w fun e w' => e = .returned (.func (.func 86) #[] #[.pointer (some ⟨w.heap.size, 0, none⟩)]) ∧ w' = w.alloc (.cells #[.slice A len cap] 46) := by
  have hmf : ∀ (fn : Fn) (first cap : Array Value) (w : World), (Instr.makeFunc fn first cap).run Try.prog w = .ok (.func fn first cap) w := fun _ _ _ _ => rfl
  go_enter Try.func50, Try.ntmps50
  go_wp2_with fail
  go_ret
  exact ⟨rfl, rfl⟩
set_option maxRecDepth 100000 in
set_option maxHeartbeats 1000000 in
theorem sortedVals_any (Bm n₀ : Nat) (A : Option Addr) (len cap : Nat) (X : List Rt) (hlen : X.length = len) (hl5 : len ≤ 65535) (w : World) (hBm : Bm < w.heap.size) (hn0 : n₀ ≤ w.heap.size) (hm : w.cell? ⟨Bm, 0, none⟩ = some (.slice A len cap)) (hrow : Row w n₀ 32 A len (X.flatMap rc)) :
    Calls Try.prog 49 #[.func (.func 86) #[] #[.pointer (some ⟨Bm, 0, none⟩)], .func (.func 18) #[] #[]] w
      fun e w' => ∃ (v : Value), e = .returned v ∧ w'.ownsRow w.heap.size 33 32 v X.length (rts (srtR X)) ∧ Below w.heap.size w w' := by
  have eg : ∀ args w, (callFunc 86 args).run Try.prog w = .ok (.enter 86 args) w := enters_of Try.func86 (by kernel_rfl) rfl
  have HC := bx (callsIn_wide.1 (collectR_in Fence.wide 3 trivial trivial rfl (Nat.le_refl _) _ _ trivial eg (fun ss => ss = X) (fun _ => True) len hl5 w n₀ hn0 (fun w' hb => values_stops Fence.wide _ trivial rfl (by decide) Bm n₀ A len cap X hlen hl5 w' (Nat.lt_of_lt_of_le hBm hb.size) (Nat.le_trans hn0 hb.size) ((hb.cell (p := ⟨Bm, 0, none⟩) hBm).trans hm) (hrow.below (hb.mono hn0)))))
  clear hm hrow
  go_enter Try.func49, Try.ntmps49
  go_wp2_with (go_at_call 84; refine HC.out.mono ?_; rintro e w1 ⟨v, ss, rfl, rfl, hrow, hb⟩)
  have HF := bx (sortFuncR_any w.heap.size v ss (by omega) w1 hb.size hrow)
  clear hrow
  go_wp2_with (go_at_call 85; refine HF.out.mono ?_; rintro e w2 ⟨rfl, hrow2, hb2⟩)
  go_ret
  exact ⟨v, rfl, hrow2, hb.trans hb2⟩
theorem cmpRt_flip (a b : Rt) : cmpRt b a = - cmpRt a b := cmpI_flip _ _
theorem cmpRt_zero {a b : Rt} (h : cmpRt a b = 0) : a = b := Rt.ext' (cmpI_zero _ _ (by rw [a.len, b.len]) h)
theorem cmpRt_self (a : Rt) : cmpRt a a = 0 := cmpI_self _
theorem cmpRt_le {a b c : Rt} (h1 : cmpRt a b ≤ 0) (h2 : cmpRt b c ≤ 0) : cmpRt a c ≤ 0 := cmpI_trans _ _ _ (by rw [a.len, b.len]) (by rw [b.len, c.len]) h1 h2
theorem cmpRt_lt_of_le {a b c : Rt} (h1 : cmpRt a b ≤ 0) (h2 : cmpRt b c < 0) : cmpRt a c < 0 := by
  have h3 := cmpRt_le h1 (Int.le_of_lt h2)
  rcases Int.lt_or_eq_of_le h3 with h | h
  · exact h
  · have := cmpRt_zero h
    subst this
    have := cmpRt_flip a b
    omega
theorem cmpRt_trans {a b c : Rt} (h1 : cmpRt a b < 0) (h2 : cmpRt b c < 0) : cmpRt a c < 0 := cmpRt_lt_of_le (Int.le_of_lt h1) h2
/-- ascending, each root once -/
def AscR (l : List Rt) : Prop := l.Pairwise fun a b => cmpRt a b < 0
theorem AscR.nodup {l : List Rt} (h : AscR l) : l.Nodup := List.Pairwise.imp (S := fun a b => a ≠ b) (fun {a b} h (e : a = b) => by rw [e, cmpRt_self] at h; omega) h
theorem AscR.uniq {a b : List Rt} (ha : AscR a) (hb : AscR b) (h : ∀ x, x ∈ a ↔ x ∈ b) : a = b := by
  have hp : a.Perm b := (List.perm_ext_iff_of_nodup ha.nodup hb.nodup).2 h
  refine List.Perm.eq_of_pairwise (le := fun x y : Rt => cmpRt x y < 0) (fun x y _ _ h1 h2 => ?_) ha hb hp
  have := cmpRt_flip x y
  omega
/-- not descending -/
def LeR (l : List Rt) : Prop := l.Pairwise fun a b => cmpRt a b ≤ 0
theorem srtR_le (l : List Rt) : LeR (srtR l) := by
  have swo : SWO (ltOf cmpRt) := swo_of (fun r : Rt => r.l) 32 (fun r => r.len)
  have hlt : ∀ x y : Rt, ltOf cmpRt x y = true ↔ cmpRt x y < 0 := fun x y => by simp [ltOf]
  have := List.pairwise_mergeSort (le := fun x y => !ltOf cmpRt y x) (fun a b c h1 h2 => by
    simp only [Bool.not_eq_true'] at *
    exact swo.ntrans _ _ _ h2 h1) (fun a b => by
    simp only [Bool.or_eq_true, Bool.not_eq_true']
    cases e : ltOf cmpRt b a with
    | false => exact .inl rfl
    | true =>
      refine .inr ?_
      cases e2 : ltOf cmpRt a b with
      | false => rfl
      | true => have := swo.trans _ _ _ e e2; rw [swo.irrefl] at this; cases this) l
  exact this.imp fun {a b} h => by
    have h2 : ¬ cmpRt b a < 0 := fun h3 => by
      have h4 := (hlt b a).2 h3
      rw [h4] at h
      exact Bool.noConfusion h
    have := cmpRt_flip a b
    omega
theorem srtR_mem (l : List Rt) (x : Rt) : x ∈ srtR l ↔ x ∈ l := (List.mergeSort_perm l _).mem_iff
/-- runs of one root are made one root: of the first k -/
def cptR (l : List Rt) : Nat → List Rt
  | 0 => []
  | k + 1 => if 0 < k ∧ l[k]? = l[k - 1]? then cptR l k else cptR l k ++ (l[k]?).toList
theorem cptR_len (l : List Rt) : ∀ k, (cptR l k).length ≤ k
  | 0 => Nat.le_refl _
  | k + 1 => by
    have := cptR_len l k
    unfold cptR
    split
    · omega
    · rw [List.length_append]
      have : (l[k]?).toList.length ≤ 1 := by cases l[k]? <;> simp
      omega
theorem cptR_pos (l : List Rt) (hl : 0 < l.length) : ∀ k, 0 < k → 0 < (cptR l k).length
  | 1, _ => by
    unfold cptR
    rw [if_neg (fun h => Nat.lt_irrefl _ h.1), List.getElem?_eq_getElem hl]
    simp [cptR]
  | k + 2, _ => by
    have := cptR_pos l hl (k + 1) (Nat.succ_pos _)
    unfold cptR
    split
    · exact this
    · rw [List.length_append]; omega
theorem cptR_all (l : List Rt) : ∀ k, k ≤ l.length → (∀ j, 0 < j → j < k → l[j]? ≠ l[j - 1]?) → cptR l k = l.take k
  | 0, _, _ => rfl
  | k + 1, hk, h => by
    have ih := cptR_all l k (by omega) (fun j h0 h1 => h j h0 (by omega))
    unfold cptR
    rw [if_neg (fun e => h k e.1 (by omega) e.2), ih, List.take_succ_eq_append_getElem (by omega), List.getElem?_eq_getElem (by omega)]
    rfl
theorem cptR_law {l : List Rt} (hl : LeR l) : ∀ k, k ≤ l.length → AscR (cptR l k) ∧ (∀ x, x ∈ cptR l k ↔ x ∈ l.take k)
  | 0, _ => ⟨List.Pairwise.nil, fun x => by simp [cptR]⟩
  | k + 1, hk => by
    obtain ⟨h1, h2⟩ := cptR_law hl k (by omega)
    have hkl : k < l.length := by omega
    have hle : ∀ j (hj : j < l.length), j < k → cmpRt l[j] l[k] ≤ 0 := fun j hj hjk => List.pairwise_iff_getElem.1 hl j k hj hkl hjk
    unfold cptR
    rw [List.take_succ_eq_append_getElem hkl]
    split
    · rename_i hc
      obtain ⟨h0, he⟩ := hc
      rw [List.getElem?_eq_getElem hkl, List.getElem?_eq_getElem (by omega)] at he
      have he' : l[k] = l[k - 1] := Option.some.inj he
      refine ⟨h1, fun x => ?_⟩
      rw [h2, List.mem_append]
      constructor
      · exact .inl
      · rintro (h | h)
        · exact h
        · have hx : x = l[k] := by simpa using h
          rw [hx, he']
          exact List.mem_take_iff_getElem.2 ⟨k - 1, by omega, rfl⟩
    · rename_i hc
      rw [List.getElem?_eq_getElem hkl]
      refine ⟨?_, fun x => by rw [List.mem_append, List.mem_append, h2]; simp⟩
      show AscR (cptR l k ++ [l[k]])
      unfold AscR
      rw [List.pairwise_append]
      refine ⟨h1, List.pairwise_singleton _ _, fun x hx y hy => ?_⟩
      have hy' : y = l[k] := by simpa using hy
      subst hy'
      obtain ⟨j, hj, ej⟩ := List.mem_take_iff_getElem.1 ((h2 x).1 hx)
      have hjk : j < k := by omega
      have hk0 : 0 < k := by omega
      have hne : l[k - 1] ≠ l[k] := fun e => hc ⟨hk0, by rw [List.getElem?_eq_getElem hkl, List.getElem?_eq_getElem (by omega), e]⟩
      have hlast : cmpRt l[k - 1] l[k] < 0 := by
        have h3 := hle (k - 1) (by omega) (by omega)
        rcases Int.lt_or_eq_of_le h3 with h | h
        · exact h
        · exact absurd (cmpRt_zero h) hne
      have hxle : cmpRt x l[k - 1] ≤ 0 := by
        rw [← ej]
        rcases Nat.lt_or_eq_of_le (show j ≤ k - 1 by omega) with h | h
        · exact List.pairwise_iff_getElem.1 hl j (k - 1) (by omega) (by omega) h
        · subst h; rw [cmpRt_self]; exact Int.le_refl _
      exact cmpRt_lt_of_le hxle hlast
/-- a list of roots, sorted, each once -/
def rsU (l : List Rt) : List Rt := cptR (srtR l) l.length
theorem rsU_law (l : List Rt) : AscR (rsU l) ∧ ∀ x, x ∈ rsU l ↔ x ∈ l := by
  obtain ⟨h1, h2⟩ := cptR_law (srtR_le l) l.length (by rw [srtR_len]; exact Nat.le_refl _)
  refine ⟨h1, fun x => ?_⟩
  show x ∈ cptR (srtR l) l.length ↔ _
  rw [h2, List.take_of_length_le (by rw [srtR_len]; exact Nat.le_refl _), srtR_mem]
theorem rsU_uniq {l a : List Rt} (ha : AscR a) (h : ∀ x, x ∈ a ↔ x ∈ l) : a = rsU l := AscR.uniq ha (rsU_law l).1 fun x => (h x).trans ((rsU_law l).2 x).symm
theorem rsU_idem (l : List Rt) : rsU (rsU l) = rsU l := (rsU_uniq (rsU_law l).1 fun _ => Iff.rfl).symm
theorem rsU_len (l : List Rt) : (rsU l).length ≤ l.length := cptR_len _ _
/-- the last is the greatest -/
theorem AscR.last {l : List Rt} (h : AscR l) (hn : l ≠ []) {x : Rt} (hx : x ∈ l) : cmpRt x (l.getLast hn) ≤ 0 := by
  obtain ⟨j, hj, rfl⟩ := List.getElem_of_mem hx
  rw [List.getLast_eq_getElem]
  rcases Nat.lt_or_eq_of_le (show j ≤ l.length - 1 by omega) with h1 | h1
  · exact Int.le_of_lt (List.pairwise_iff_getElem.1 h j (l.length - 1) hj (by omega) h1)
  · simp only [← h1, cmpRt_self]; exact Int.le_refl _
theorem elRt' : ElT Try.prog 46 33 32 32 := elT_of Try.underlying46 (by kernel_rfl) (by decide) (by decide)
theorem rts_len (X : List Rt) : (rts X).length = X.length * 32 := flat_len X fun x _ => rc_len x
section
variable {Γ0 Γ : Gam} {w0 w : World} {L : List Ent} {R : List RowE} {Pg : Program} {ops : Array Oper} {rest : List Oper} {op : Oper} {a : Act} {Q : Exit → Act → World → Prop}
theorem MM.rootAt {g c n : Nat} {X : List Rt} (M : MM Γ0 w0 Γ w L (⟨.slice (some ⟨g, 0, none⟩) n c, 33, 32, n, rts X⟩ :: R)) (i : Nat) (hi : i < X.length) : ∀ w', Cls w.heap.size w w' → w'.rangeAt g (i * 32) (rc X[i]) := fun w' h => by
  have M' := M.below h.out
  exact M'.rowGet (f := rc) (fun x _ => rc_len x) i hi
theorem run_clear_gen {P : Program} (w w' : World) (t e ty : TypeId) (z : Value) (ht : P.underlying t = some (.slice e)) (hv : ∀ w, (zeroValue e).run P w = .ok z w) (b o n c : Nat) (hn : 0 < n) (vs : List Value) (hz : (Builtin.zeroCells z.cells n).toList = vs)
    (hst : (storeCells ⟨b, o, none⟩ vs).run P w = .ok () w') : (Builtin.clear_ #[t] ty #[.slice (some ⟨b, o, none⟩) n c]).run P w = .ok (.tuple #[]) w' := by
  obtain ⟨m, rfl⟩ : ∃ m, n = m + 1 := ⟨n - 1, by omega⟩
  simp [Builtin.clear_, run_underlying ht, hv, hz, hst]
/-- clear -/
theorem clear_roots {n c m k : Nat} {g : Nat} {X : List Rt} (M : MM Γ0 w0 Γ w L (⟨.slice (some ⟨g, 0, none⟩) n c, 33, 32, n, rts X⟩ :: R)) (hn : X.length = n) (hk : k + m = n) (hm : 0 < m) (ty : TypeId) (c' : Nat) :
    ∃ w', (Builtin.clear_ #[46] ty #[.slice (some ⟨g, k * 32, none⟩) m c']).run Try.prog w = .ok (.tuple #[]) w' ∧ MM Γ0 w0 Γ w' L (⟨.slice (some ⟨g, 0, none⟩) n c, 33, 32, n, rts (X.take k ++ List.replicate m r0)⟩ :: R) := by
  have e0 : rts X = rts (X.take k) ++ rts (X.drop k) ++ [] := by rw [List.append_nil]; unfold rts; rw [← List.flatMap_append, List.take_append_drop]
  rw [e0] at M
  have hz : (Builtin.zeroCells (Value.agg (rc r0).toArray).cells m).toList = rts (List.replicate m r0) := by
    have h1 := made_flat rc r0 (rc r0).toArray (by simp) (rc_len r0) (by decide) m
    show (Builtin.zeroCells (rc r0).toArray m).toList = _
    have h2 : Builtin.zeroCells (rc r0).toArray m = madeCells (rc r0).toArray (m * 32) := by
      unfold Builtin.zeroCells madeCells
      rw [List.size_toArray, rc_len]
    rw [h2, h1]; rfl
  have hlen : (rts (X.drop k)).length = (rts (List.replicate m r0)).length := by rw [rts_len, rts_len, List.length_drop, List.length_replicate]; congr 1; omega
  obtain ⟨q1, q2⟩ := M.rowPut hlen
  have hp : (rts (X.take k)).length = k * 32 := by rw [rts_len, List.length_take]; congr 1; omega
  rw [hp] at q1 q2
  have hst := run_storeCells_cells (P := Try.prog) g (k * 32) (rts (List.replicate m r0)) 0 w (fun j hj => by rw [Nat.add_zero]; exact (q1 j hj).1) (fun j hj => by rw [Nat.add_zero]; exact (q1 j hj).2) (by
    intro v hv
    unfold rts at hv
    obtain ⟨x, _, hx⟩ := List.mem_flatMap.1 hv
    exact rc_one x v hx)
  rw [Nat.add_zero] at hst
  refine ⟨w.setCells g (k * 32) (rts (List.replicate m r0)), ?_, ?_⟩
  · exact run_clear_gen w _ _ _ ty _ Try.underlying46 zero_rt g (k * 32) m c' hm _ hz hst
  · have e1 : rts (X.take k ++ List.replicate m r0) = rts (X.take k) ++ rts (List.replicate m r0) ++ [] := by rw [List.append_nil]; unfold rts; rw [List.flatMap_append]
    rw [e1]; exact q2
theorem wpList_clearR {n c m k : Nat} {g : Nat} {X : List Rt} (M : MM Γ0 w0 Γ w L (⟨.slice (some ⟨g, 0, none⟩) n c, 33, 32, n, rts X⟩ :: R)) (hn : X.length = n) (hk : k + m = n) (hm : 0 < m) (hgd : op.guard = none) (x : Operand) (ho : op.op = .call { callee := .builtin .clear, args := #[x], argTypes := #[46] }) (c' : Nat) (hx : a.eval x = .slice (some ⟨g, k * 32, none⟩) m c')
    (h : ∀ w', MM Γ0 w0 Γ w' L (⟨.slice (some ⟨g, 0, none⟩) n c, 33, 32, n, rts (X.take k ++ List.replicate m r0)⟩ :: R) → wpList Try.prog ops Q rest (a.put op.dst (.tuple #[])) w') : wpList Try.prog ops Q (op :: rest) a w := by
  obtain ⟨w', hr, hM⟩ := clear_roots M hn hk hm op.type c'
  refine wpList_plain hgd fun K hK => ?_
  unfold Oper.wp execOp
  simp only [ho, resolve, invoke, builtin, Sem.run_bind, Sem.run_pure, Result.andThen_ok, List.map_toArray, List.map_cons, List.map_nil, hx, hr]
  exact hK _ _ (h w' hM)
end
set_option maxRecDepth 20000 in
set_option maxHeartbeats 1000000 in
theorem compactR_any {Γ0 Γ : Gam} {w0 w : World} {L : List Ent} {R : List RowE} (A : Option Addr) (n c : Nat) (X : List Rt) (hn : X.length = n) (hn5 : n ≤ 65535) (hM : MM Γ0 w0 Γ w L (⟨.slice A n c, 33, 32, n, rts X⟩ :: R)) :
    Calls Try.prog 51 #[.slice A n c] w fun e w' => ∃ Y : List Rt, e = .returned (.slice A (cptR X n).length c) ∧ MM Γ0 w0 Γ w' L (⟨.slice A n c, 33, 32, n, rts Y⟩ :: R) ∧ Y.take (cptR X n).length = cptR X n := by
  have M := bx hM
  have HN := bx hn
  clear hM
  by_cases h2 : n < 2
  · have hni : (n : Int) < 2 := by omega
    have HC : Bx (cptR X n = X) := ⟨by
      rw [cptR_all X n (by omega) (fun j h0 h1 => by omega), List.take_of_length_le (by omega)]⟩
    go_enter Try.func51, Try.ntmps51
    go_wp2_with fail
    go_ret
    exact ⟨X, by rw [HC.out, HN.out]; rfl, M.out, by rw [HC.out]; exact List.take_length ..⟩
  · obtain ⟨g, rfl, hnc, _⟩ := M.out.rowHd (by omega)
    have hni : ¬ (n : Int) < 2 := by omega
    have CAP := bx hnc
    clear hnc
    go_enter Try.func51, Try.ntmps51
    go_wp2_with fail
    go_loopw [3] (fun s wr => ∃ p : Nat, p + 1 ≤ n ∧ s = .int .i64 ((p : Int) + 1) ∧ (∀ j, 0 < j → j < p + 1 → X[j]? ≠ X[j - 1]?) ∧ MM Γ0 w0 Γ wr L (⟨.slice (some ⟨g, 0, none⟩) n c, 33, 32, n, rts X⟩ :: R)) (fun s _ => n - (intOf s).toNat)
    case atStart => exact ⟨0, by omega, rfl, fun j h0 h1 => by omega, M.out⟩
    case round =>
      obtain ⟨p, hp, rfl, hno, hM⟩ := hrel
      clear M
      have M := bx hM
      have HNO := bx hno
      clear hM hno
      by_cases hpn : p + 1 < n
      · have hpi : (p : Int) + 1 < (n : Int) := by omega
        have hp0 : (0 : Int) ≤ (p : Int) := by omega
        have hl1 : p + 1 < X.length := by omega
        have hl0 : p < X.length := by omega
        have HS := bx (rt_same X[p + 1] X[p])
        have HE := bx (show decide (X[p + 1] = X[p]) = decide (X[p + 1]? = X[p]?) by rw [decide_eq_decide, List.getElem?_eq_getElem hl1, List.getElem?_eq_getElem hl0, Option.some.injEq])
        generalize hd : decide (X[p + 1] = X[p]) = d at *
        cases d with
        | true =>
          have R1 := bx (M.out.rootAt (p + 1) hl1)
          have R0 := bx (M.out.rootAt p hl0)
          have hq := HS.out
          have HC1 : Bx (cptR X (p + 1) = X.take (p + 1)) := ⟨cptR_all X (p + 1) (by omega) HNO.out⟩
          have HC2 : Bx (cptR X (p + 2) = X.take (p + 1)) := ⟨by
            rw [← HC1.out]
            show (if 0 < p + 1 ∧ X[p + 1]? = X[p + 1 - 1]? then cptR X (p + 1) else _) = _
            rw [if_pos ⟨Nat.succ_pos _, of_decide_eq_true HE.out.symm⟩]⟩
          go_wp2_with fail
          refine region_cls wr.heap.size (by kernel_rfl) (by kernel_rfl) ?_
          repeat (first | go_big_quiet_skip | (go_big_quiet_want; first | (first | ((with_reducible apply quiet_ranged); rfl; rfl; exact rtRoot; exact R1.out; exact rc_len _; go_big_quiet_on; (simp only [Act.put, List.setIfInBounds_toArray, List.set_cons_succ, List.set_cons_zero])) | ((with_reducible apply quiet_ranged); rfl; rfl; exact rtRoot; exact R0.out; exact rc_len _; go_big_quiet_on; (simp only [Act.put, List.setIfInBounds_toArray, List.set_cons_succ, List.set_cons_zero]))) | (go_big_quiet_op; first | go_big_quiet_on | ((with_reducible refine ⟨_, fun _ _ => rfl, ?_⟩); go_big_quiet_on))))
          refine wpQuiet_nil ?_; intro w4 hw4; have M' := M.out.below hw4.out; (clear M; have M := bx M'; clear M'); clear hw4
          clear R1 R0 HS HE
          have hc1 : ¬ c = p + 1 := by have := CAP.out; omega
          have hc2 : p + 1 < c := by have := CAP.out; omega
          have hc3 : ((p : Int) + 1) ≤ (c : Int) := by omega
          obtain ⟨m, hm⟩ : ∃ m, p + 1 + m = n := ⟨n - (p + 1), by omega⟩
          have HM := bx hm
          have hnm : n - (p + 1) = m := by omega
          go_wp2_with fail
          have HL1 : Bx ((cptR X (p + 2)).length = p + 1) := ⟨by rw [HC2.out, List.length_take]; omega⟩
          have hpn' : p + 1 < n := hpn
          clear hd hq hnm hm hpi hpn
          go_loopw [3, 5] (fun s3 s5 wr => ∃ (q kk : Nat) (Y : List Rt), q + 1 ≤ m ∧ s5 = .int .i64 ((q : Int) + 1) ∧ s3 = .int .i64 (kk : Int) ∧ kk = (cptR X (p + q + 2)).length ∧ kk ≤ p + 1 + q ∧ Y.length = n ∧ Y.take kk = cptR X (p + q + 2) ∧ (∀ j, p + 1 + q ≤ j → Y[j]? = X[j]?) ∧ MM Γ0 w0 Γ wr L (⟨.slice (some ⟨g, 0, none⟩) n c, 33, 32, n, rts Y⟩ :: R)) (fun _ s5 _ => m - (intOf s5).toNat)
          case atStart => exact ⟨0, p + 1, X, by have := HM.out; omega, rfl, by go_num, HL1.out.symm, by omega, HN.out, HC2.out.symm, fun _ _ => rfl, M.out⟩
          case round =>
            obtain ⟨q, kk, Y, hq, rfl, rfl, hkk, hkq, hYn, hYt, hYr, hM⟩ := hrel
            clear M
            have M := bx hM
            have HYT := bx hYt
            have HYR := bx hYr
            have HKK := bx hkk
            have HYN := bx hYn
            have HMn := HM.out
            clear hM hYt hYr hkk
            by_cases hqm : q + 1 < m
            · have hqi : (q : Int) + 1 < (m : Int) := by omega
              have hq0 : (0 : Int) ≤ (q : Int) := by omega
              have hk0 : (0 : Int) ≤ (kk : Int) := by omega
              have hkn : (kk : Int) < (n : Int) := by omega
              have hl1 : p + 1 + (q + 1) < Y.length := by omega
              have hl0 : p + 1 + q < Y.length := by omega
              have hkl : kk < Y.length := by omega
              have R1 : Bx (∀ w', Cls wr.heap.size wr w' → w'.rangeAt g ((p + 1) * 32 + (q + 1) * 32) (rc Y[p + 1 + (q + 1)])) := ⟨by rw [← Nat.add_mul]; exact M.out.rootAt _ hl1⟩
              have R0 : Bx (∀ w', Cls wr.heap.size wr w' → w'.rangeAt g ((p + 1) * 32 + q * 32) (rc Y[p + 1 + q])) := ⟨by rw [← Nat.add_mul]; exact M.out.rootAt _ hl0⟩
              have HS := bx (rt_same Y[p + 1 + (q + 1)] Y[p + 1 + q])
              have HX1 : Bx (X[p + q + 2]? = some Y[p + 1 + (q + 1)]) := ⟨by rw [show p + q + 2 = p + 1 + (q + 1) by omega, ← HYR.out _ (by omega)]; exact List.getElem?_eq_getElem hl1⟩
              have HX0 : Bx (X[p + q + 2 - 1]? = some Y[p + 1 + q]) := ⟨by rw [show p + q + 2 - 1 = p + 1 + q by omega, ← HYR.out _ (by omega)]; exact List.getElem?_eq_getElem hl0⟩
              have CE : Bx (Y[p + 1 + (q + 1)] = Y[p + 1 + q] → cptR X (p + q + 3) = cptR X (p + q + 2)) := ⟨fun e => by
                show (if 0 < p + q + 2 ∧ X[p + q + 2]? = X[p + q + 2 - 1]? then _ else _) = _
                rw [if_pos ⟨by omega, by rw [HX1.out, HX0.out, e]⟩]⟩
              have CN : Bx (Y[p + 1 + (q + 1)] ≠ Y[p + 1 + q] → cptR X (p + q + 3) = cptR X (p + q + 2) ++ [Y[p + 1 + (q + 1)]]) := ⟨fun e => by
                show (if 0 < p + q + 2 ∧ X[p + q + 2]? = X[p + q + 2 - 1]? then _ else cptR X (p + q + 2) ++ (X[p + q + 2]?).toList) = _
                rw [if_neg (fun h => e (by have h2 := h.2; rw [HX1.out, HX0.out] at h2; exact Option.some.inj h2)), HX1.out]; rfl⟩
              have YS := bx (fun (x : Rt) => show (Y.set kk x).take (kk + 1) = Y.take kk ++ [x] by
                rw [List.take_succ_eq_append_getElem (by rw [List.length_set]; exact hkl), List.take_set_of_le (Nat.le_refl _), List.getElem_set_self])
              have YR := bx (fun (x : Rt) (j : Nat) (hj : p + 1 + (q + 1) ≤ j) => show (Y.set kk x)[j]? = X[j]? by
                rw [List.getElem?_set_ne (by omega)]; exact HYR.out j (by omega))
              clear HX1 HX0
              generalize Y[p + 1 + (q + 1)] = x1 at *
              generalize Y[p + 1 + q] = x0 at *
              by_cases he : x1 = x0
              · have hqq := HS.out
                rw [decide_eq_true he] at hqq
                have CE' := bx (CE.out he)
                clear he CE CN HS
                go_wp2_with fail
                refine region_cls wr.heap.size (by kernel_rfl) (by kernel_rfl) ?_
                repeat (first | go_big_quiet_skip | (go_big_quiet_want; first | (first | ((with_reducible apply quiet_ranged); rfl; rfl; exact rtRoot; exact R1.out; exact rc_len _; go_big_quiet_on; (simp only [Act.put, List.setIfInBounds_toArray, List.set_cons_succ, List.set_cons_zero])) | ((with_reducible apply quiet_ranged); rfl; rfl; exact rtRoot; exact R0.out; exact rc_len _; go_big_quiet_on; (simp only [Act.put, List.setIfInBounds_toArray, List.set_cons_succ, List.set_cons_zero]))) | (go_big_quiet_op; first | go_big_quiet_on | ((with_reducible refine ⟨_, fun _ _ => rfl, ?_⟩); go_big_quiet_on))))
                refine wpQuiet_nil ?_; intro w4 hw4; have M' := M.out.below hw4.out; (clear M; have M := bx M'; clear M'); clear hw4
                go_wp2_with fail
                go_roundw
                case rel => exact ⟨q + 1, kk, Y, by omega, by go_num, rfl, by rw [show p + (q + 1) + 2 = p + q + 3 by omega, CE'.out]; exact HKK.out, by omega, HYN.out, by rw [show p + (q + 1) + 2 = p + q + 3 by omega, CE'.out]; exact HYT.out, fun j hj => HYR.out j (by omega), M.out⟩
                case measure => simp [intOf]; omega
              · have hqq := HS.out
                rw [decide_eq_false he] at hqq
                have CN' := bx (CN.out he)
                clear he CE CN HS
                go_wp2_with fail
                refine region_cls wr.heap.size (by kernel_rfl) (by kernel_rfl) ?_
                repeat (first | go_big_quiet_skip | (go_big_quiet_want; first | (first | ((with_reducible apply quiet_ranged); rfl; rfl; exact rtRoot; exact R1.out; exact rc_len _; go_big_quiet_on; (simp only [Act.put, List.setIfInBounds_toArray, List.set_cons_succ, List.set_cons_zero])) | ((with_reducible apply quiet_ranged); rfl; rfl; exact rtRoot; exact R0.out; exact rc_len _; go_big_quiet_on; (simp only [Act.put, List.setIfInBounds_toArray, List.set_cons_succ, List.set_cons_zero]))) | (go_big_quiet_op; first | go_big_quiet_on | ((with_reducible refine ⟨_, fun _ _ => rfl, ?_⟩); go_big_quiet_on))))
                refine wpQuiet_nil ?_
                intro w4 hw4
                have R2 : Bx (w4.rangeAt g ((p + 1) * 32 + (q + 1) * 32) (rc x1)) := ⟨R1.out w4 hw4⟩
                have M' := M.out.below hw4.out
                (clear M; have M := bx M'; clear M')
                clear hw4 R1 R0
                go_wp2_with (first | (with_reducible refine wpList_ranged rfl rfl rfl rtRoot ⟨R2.out, rc_len _⟩ ?_) | ((with_reducible apply wpList_stE M.out (fun x _ => rc_len x) kk hkl x1 (rc_len x1) (rc_one x1)); rfl; rfl; rfl; rfl; exact rtRoot; intro w' M'; (clear M; have M := bx M'; clear M')))
                go_roundw
                case rel => exact ⟨q + 1, kk + 1, Y.set kk x1, by omega, by go_num, by go_num, by rw [show p + (q + 1) + 2 = p + q + 3 by omega, CN'.out, List.length_append, ← HKK.out]; rfl, by omega, by rw [List.length_set]; exact HYN.out, by rw [show p + (q + 1) + 2 = p + q + 3 by omega, CN'.out, YS.out, HYT.out], fun j hj => YR.out x1 j (by omega), M.out⟩
                case measure => simp [intOf]; omega
            · obtain rfl : q + 1 = m := by omega
              have hk0 : (0 : Int) ≤ (kk : Int) := by omega
              have hkn : (kk : Int) ≤ (n : Int) := by omega
              have hk1 : ¬ c = kk := by have := CAP.out; omega
              have hk2 : kk < c := by have := CAP.out; omega
              have hk3 : (kk : Int) ≤ (c : Int) := by omega
              obtain ⟨t, ht⟩ : ∃ t, kk + t = n := ⟨n - kk, by omega⟩
              have ht0 : 0 < t := by omega
              have htn : n - kk = t := by omega
              have HE : Bx (p + q + 2 = n) := ⟨by omega⟩
              rw [HE.out] at HKK HYT
              have HT := bx ht
              obtain ⟨w9, hclr, hM9⟩ := clear_roots M.out HYN.out HT.out ht0 0 (c - kk)
              have M9 := bx hM9
              clear hM9
              go_wp2_with fail
              go_ret
              exact ⟨Y.take kk ++ List.replicate t r0, by rw [← HKK.out]; rfl, M9.out, by rw [← HKK.out, List.take_left' (by rw [List.length_take, HYN.out]; omega)]; exact HYT.out⟩
        | false =>
          have R1 := bx (M.out.rootAt (p + 1) hl1)
          have R0 := bx (M.out.rootAt p hl0)
          have hq := HS.out
          go_wp2_with fail
          refine region_cls wr.heap.size (by kernel_rfl) (by kernel_rfl) ?_
          repeat (first | go_big_quiet_skip | (go_big_quiet_want; first | (first | ((with_reducible apply quiet_ranged); rfl; rfl; exact rtRoot; exact R1.out; exact rc_len _; go_big_quiet_on; (simp only [Act.put, List.setIfInBounds_toArray, List.set_cons_succ, List.set_cons_zero])) | ((with_reducible apply quiet_ranged); rfl; rfl; exact rtRoot; exact R0.out; exact rc_len _; go_big_quiet_on; (simp only [Act.put, List.setIfInBounds_toArray, List.set_cons_succ, List.set_cons_zero]))) | (go_big_quiet_op; first | go_big_quiet_on | ((with_reducible refine ⟨_, fun _ _ => rfl, ?_⟩); go_big_quiet_on))))
          refine wpQuiet_nil ?_; intro w4 hw4; have M' := M.out.below hw4.out; (clear M; have M := bx M'; clear M'); clear hw4
          clear R1 R0 HS
          go_wp2_with fail
          go_roundw
          case rel => exact ⟨p + 1, by omega, by go_num, fun j h0 h1 => by
            rcases Nat.lt_or_eq_of_le (Nat.le_of_lt_succ h1) with h | h
            · exact HNO.out j h0 h
            · subst h; exact of_decide_eq_false HE.out.symm, M.out⟩
          case measure => simp [intOf]; omega
      · obtain rfl : p + 1 = n := by omega
        have HC : Bx (cptR X (p + 1) = X) := ⟨by rw [cptR_all X (p + 1) (by omega) HNO.out, List.take_of_length_le (by omega)]⟩
        go_wp2_with fail
        go_ret
        exact ⟨X, by rw [HC.out, HN.out]; rfl, M.out, by rw [HC.out]; exact List.take_length ..⟩
/-- the roots of a slice, wherever it lies -/
def RtRow (w : World) (A : Option Addr) (n : Nat) (X : List Rt) : Prop := X.length = n ∧ Row w w.heap.size 32 A n (X.flatMap rc)
theorem RtRow.below {w w' : World} {A : Option Addr} {n : Nat} {X : List Rt} (h : RtRow w A n X) (hb : Below w.heap.size w w') : RtRow w' A n X := ⟨h.1, (h.2.below hb).more hb.size⟩
theorem RtRow.at {w : World} {A : Option Addr} {n : Nat} {X : List Rt} (h : RtRow w A n X) (i : Nat) (hi : i < X.length) : ∃ ad : Addr, A = some ad ∧ ∀ w', Cls w.heap.size w w' → ∀ j u, (rc X[i])[j]? = some u → w'.cell? ((ad.add (i * 32)).add j) = some u := by
  obtain ⟨ad, e, hb, hc⟩ := h.2.elem (f := rc) (fun x _ => rc_len x) (by decide) i hi
  refine ⟨ad, e, fun w' hw j u hu => ?_⟩
  rw [hw.out.cell (by rw [add_block, add_block]; exact hb)]
  exact hc j u hu
theorem quiet_ldA {C : World → Prop} {K : Act → Prop} {op : Oper} {a : Act} {x : Operand} {ad : Addr} {r : Rt} (ho : op.op = .load 33 x) (hx : a.eval x = .pointer (some ad)) (hr : ∀ w', C w' → ∀ j u, (rc r)[j]? = some u → w'.cell? (ad.add j) = some u)
    (h : K (a.put op.dst (.agg (rc r).toArray))) : op.quiet Try.prog a C K := by
  refine ⟨_, fun w hw => ?_, h⟩
  have := run_ldA (P := Try.prog) w ad 33 (rc r) _ (hr w hw) Try.underlying33 rfl (info_size Try.underlying33 (cells_rt r))
  unfold Oper.quietAt execOp
  simp only [ho, hx, Instr.loadAt, Instr.sureAddr, Sem.run_bind, Sem.run_pure, Result.andThen_ok, this]
  exact ⟨rfl, rfl⟩
theorem wpList_ldAr {w : World} {ops : Array Oper} {rest : List Oper} {op : Oper} {a : Act} {Q : Exit → Act → World → Prop} {x : Operand} {ad : Addr} {r : Rt} (hr : ∀ j u, (rc r)[j]? = some u → w.cell? (ad.add j) = some u) (ho : op.op = .load 33 x) (hgd : Region.wanted op (yielded ops a.tmps) = true) (hx : a.eval x = .pointer (some ad))
    (h : wpList Try.prog ops Q rest (a.put op.dst (.agg (rc r).toArray)) w) : wpList Try.prog ops Q (op :: rest) a w :=
  wpList_go hgd fun K hK => by
    have := run_ldA (P := Try.prog) w ad 33 (rc r) _ hr Try.underlying33 rfl (info_size Try.underlying33 (cells_rt r))
    unfold Oper.wp execOp
    simp only [ho, hx, Instr.loadAt, Instr.sureAddr, Sem.run_bind, Sem.run_pure, Result.andThen_ok, this, Oper.upon]
    exact hK _ _ h
theorem ztRt : ZeroT Try.prog 33 [rc r0] [32] := ⟨fun w => by have := zero_rt w; simpa [fl] using this, by simp [rc_len]⟩
theorem and_find {X : List Rt} {p : Rt → Bool} : (0 ≤ idxI p X) ↔ ∃ x ∈ X, p x = true := by
  rcases idxI_cases p X with ⟨h1, h2⟩ | ⟨k, hk, h1, h2, _⟩
  · rw [h1]
    exact ⟨fun h => by omega, fun ⟨x, hx, hp⟩ => by rw [h2 x hx] at hp; cases hp⟩
  · rw [h1]
    exact ⟨fun _ => ⟨_, List.getElem_mem hk, h2⟩, fun _ => Int.natCast_nonneg k⟩
set_option maxRecDepth 20000 in
set_option maxHeartbeats 1000000 in
theorem indexR_any (A : Option Addr) (n c : Nat) (X : List Rt) (r : Rt) (hn5 : n ≤ 65535) (w : World) (h : RtRow w A n X) :
    Calls Try.prog 88 #[.slice A n c, .agg (rc r).toArray] w fun e w' => e = .returned (.int .i64 (idxI (fun x => decide (r = x)) X)) ∧ Below w.heap.size w w' := by
  have M := bx (MM.start (ok_g0 w))
  have HR := bx h
  have LN := bx h.1
  clear h
  change Calls Try.prog _ #[_, .agg (fl [rc r]).toArray] _ _
  go_enter Try.func88, Try.ntmps88
  go_wp2_with ((with_reducible apply wpList_box M.out); rfl; rfl; rfl; exact lenR r; intro w' g M' hb'; (clear M; have M := bx M'; clear M'); clear hb')
  go_loopw [8] (fun i wr => ∃ k : Nat, k ≤ n ∧ i = .int .i64 k ∧ (∀ j (hj : j < X.length), j < k → decide (r = X[j]) = false) ∧ MM g0 w g0 wr [⟨g, [rc r], [32]⟩] []) (fun i _ => n - (intOf i).toNat)
  case atStart => exact ⟨0, Nat.zero_le _, rfl, fun j _ hj => absurd hj (Nat.not_lt_zero _), M.out⟩
  case round =>
    obtain ⟨k, hk, rfl, hno, hM⟩ := hrel
    clear M
    have M := bx hM
    have HNO := bx hno
    clear hM hno
    by_cases hkn : k < n
    · have hkl : k < X.length := by rw [LN.out]; exact hkn
      obtain ⟨ad, rfl, hc⟩ := (HR.out.below M.out.ext.bel).at k hkl
      have QC := bx hc
      have QM := bx M.out.at0.cls
      have HS := bx (rt_same r X[k])
      have FND := bx (fun e => idxI_some (p := fun x => decide (r = x)) hkl (fun j hj => HNO.out j (Nat.lt_trans hj hkl) hj) e)
      have NXT := bx (fun (e : decide (r = X[k]) = false) j (hj : j < X.length) (hjk : j < k + 1) => (Nat.lt_or_eq_of_le (Nat.le_of_lt_succ hjk)).elim (HNO.out j hj) (fun h => by subst h; exact e))
      have hki : (k : Int) < (n : Int) := by omega
      have hk0 : 0 ≤ (k : Int) := by omega
      clear hc
      generalize X[k] = y at *
      have hq := HS.out
      cases he : decide (r = y) with
      | true =>
        rw [he] at hq
        have HE := bx he
        clear he
        go_wp2_with fail
        refine region_cls wr.heap.size (by kernel_rfl) (by kernel_rfl) ?_
        repeat (first | go_big_quiet_skip | (go_big_quiet_want; first | (first | ((with_reducible apply quiet_ldp QM.out (lenR _)); rfl; rfl; (first | exact rtRoot | exact rtCk | exact rtTb); rfl; rfl; go_big_quiet_on; (simp only [Act.put, List.setIfInBounds_toArray, List.set_cons_succ, List.set_cons_zero])) | ((with_reducible apply quiet_ld1 QM.out); rfl; rfl; (first | exact otInt | exact otU64 | exact otU64s); rfl; rfl; go_big_quiet_on; (simp only [Act.put, List.setIfInBounds_toArray, List.set_cons_succ, List.set_cons_zero])) | ((with_reducible apply quiet_lds QM.out (lenR _)); rfl; rfl; (first | exact rtRoot | exact rtCk | exact rtTb); rfl; (try simp only [Nat.reduceAdd, List.drop_zero, cut_cp, cut_tb, cut_tb_c]); go_big_quiet_on; (simp only [Act.put, List.setIfInBounds_toArray, List.set_cons_succ, List.set_cons_zero])) | ((with_reducible apply quiet_ldA); rfl; rfl; exact QC.out; go_big_quiet_on; (simp only [Act.put, List.setIfInBounds_toArray, List.set_cons_succ, List.set_cons_zero]))) | (go_big_quiet_op; first | go_big_quiet_on | ((with_reducible refine ⟨_, fun _ _ => rfl, ?_⟩); go_big_quiet_on))))
        refine wpQuiet_nil ?_; intro w4 hw4; have M' := M.out.below hw4.out; (clear M; have M := bx M'; clear M'); clear hw4
        go_wp2_with fail
        go_ret
        exact ⟨by rw [FND.out HE.out]; rfl, M.out.ext.bel⟩
      | false =>
        rw [he] at hq
        have HE := bx he
        clear he
        go_wp2_with fail
        refine region_cls wr.heap.size (by kernel_rfl) (by kernel_rfl) ?_
        repeat (first | go_big_quiet_skip | (go_big_quiet_want; first | (first | ((with_reducible apply quiet_ldp QM.out (lenR _)); rfl; rfl; (first | exact rtRoot | exact rtCk | exact rtTb); rfl; rfl; go_big_quiet_on; (simp only [Act.put, List.setIfInBounds_toArray, List.set_cons_succ, List.set_cons_zero])) | ((with_reducible apply quiet_ld1 QM.out); rfl; rfl; (first | exact otInt | exact otU64 | exact otU64s); rfl; rfl; go_big_quiet_on; (simp only [Act.put, List.setIfInBounds_toArray, List.set_cons_succ, List.set_cons_zero])) | ((with_reducible apply quiet_lds QM.out (lenR _)); rfl; rfl; (first | exact rtRoot | exact rtCk | exact rtTb); rfl; (try simp only [Nat.reduceAdd, List.drop_zero, cut_cp, cut_tb, cut_tb_c]); go_big_quiet_on; (simp only [Act.put, List.setIfInBounds_toArray, List.set_cons_succ, List.set_cons_zero])) | ((with_reducible apply quiet_ldA); rfl; rfl; exact QC.out; go_big_quiet_on; (simp only [Act.put, List.setIfInBounds_toArray, List.set_cons_succ, List.set_cons_zero]))) | (go_big_quiet_op; first | go_big_quiet_on | ((with_reducible refine ⟨_, fun _ _ => rfl, ?_⟩); go_big_quiet_on))))
        refine wpQuiet_nil ?_; intro w4 hw4; have M' := M.out.below hw4.out; (clear M; have M := bx M'; clear M'); clear hw4
        go_wp2_with fail
        go_roundw
        case rel => exact ⟨k + 1, by omega, by go_num, NXT.out HE.out, M.out⟩
        case measure => simp [intOf]; omega
    · obtain rfl : k = n := by omega
      have HRs := bx (idxI_none (p := fun x => decide (r = x)) (fun j hj => HNO.out j hj (by rw [← LN.out]; exact hj)))
      go_wp2_with fail
      go_ret
      exact ⟨by rw [HRs.out]; rfl, M.out.ext.bel⟩
theorem has_dec {X : List Rt} {r : Rt} : decide ((0 : Int) ≤ idxI (fun x => decide (r = x)) X) = decide (r ∈ X) := by
  rw [decide_eq_decide, and_find]
  exact ⟨fun ⟨x, hx, h⟩ => by have := of_decide_eq_true h; subst this; exact hx, fun h => ⟨r, h, decide_eq_true rfl⟩⟩
set_option maxRecDepth 20000 in
set_option maxHeartbeats 1000000 in
theorem slContainsR_any (A : Option Addr) (n c : Nat) (X : List Rt) (r : Rt) (hn5 : n ≤ 65535) (w : World) (h : RtRow w A n X) :
    Calls Try.prog 53 #[.slice A n c, .agg (rc r).toArray] w fun e w' => e = .returned (.bool (decide (r ∈ X))) ∧ Below w.heap.size w w' := by
  have M := bx (MM.start (ok_g0 w))
  have HR := bx h
  clear h
  rw [← has_dec]
  change Calls Try.prog _ #[_, .agg (fl [rc r]).toArray] _ _
  go_enter Try.func53, Try.ntmps53
  go_wp2_with (first | ((with_reducible apply wpList_box M.out); rfl; rfl; rfl; exact lenR r; intro w' g M' hb'; (clear M; have M := bx M'; clear M'); clear hb') | ((with_reducible apply wpList_ldp M.out.at0); rfl; rfl; rfl; (first | exact rtRoot | exact rtCk | exact rtTb); rfl; rfl) | ((with_reducible apply wpList_ld1 M.out.at0); rfl; rfl; rfl; (first | exact otInt | exact otU64 | exact otU64s); rfl; rfl) | ((with_reducible apply wpList_lds M.out.at0); rfl; rfl; rfl; (first | exact rtRoot | exact rtCk | exact rtTb); rfl; (try simp only [Nat.reduceAdd, List.drop_zero, cut_cp, cut_tb, cut_tb_c])))
  refine (indexR_any A n c X r hn5 _ (HR.out.below M.out.ext.bel)).mono ?_; rintro e w1 ⟨rfl, hb⟩
  have M' := M.out.below hb
  (clear M; have M := bx M'; clear M')
  clear hb
  obtain ⟨v, hv0⟩ : ∃ v, idxI (fun x => decide (r = x)) X = v := ⟨_, rfl⟩
  have LV := bx hv0
  rw [hv0]
  clear hv0
  by_cases hv : 0 ≤ v
  · go_wp2_with fail
    go_ret
    exact ⟨by rw [LV.out]; simp [hv], M.out.ext.bel⟩
  · go_wp2_with fail
    go_ret
    exact ⟨by rw [LV.out]; simp [hv], M.out.ext.bel⟩
set_option maxRecDepth 20000 in
set_option maxHeartbeats 1000000 in
theorem containsR_any (A : Option Addr) (n c : Nat) (X : List Rt) (r : Rt) (hn5 : n ≤ 65535) (w : World) (h : RtRow w A n X) :
    Calls Try.prog 19 #[.slice A n c, .agg (rc r).toArray] w fun e w' => e = .returned (.bool (decide (r ∈ X))) ∧ Below w.heap.size w w' := by
  have M := bx (MM.start (ok_g0 w))
  have HR := bx h
  clear h
  change Calls Try.prog _ #[_, .agg (fl [rc r]).toArray] _ _
  go_enter Try.func19, Try.ntmps19
  go_wp2_with (first | ((with_reducible apply wpList_box M.out); rfl; rfl; rfl; exact lenR r; intro w' g M' hb'; (clear M; have M := bx M'; clear M'); clear hb') | ((with_reducible apply wpList_ldp M.out.at0); rfl; rfl; rfl; (first | exact rtRoot | exact rtCk | exact rtTb); rfl; rfl) | ((with_reducible apply wpList_ld1 M.out.at0); rfl; rfl; rfl; (first | exact otInt | exact otU64 | exact otU64s); rfl; rfl) | ((with_reducible apply wpList_lds M.out.at0); rfl; rfl; rfl; (first | exact rtRoot | exact rtCk | exact rtTb); rfl; (try simp only [Nat.reduceAdd, List.drop_zero, cut_cp, cut_tb, cut_tb_c])))
  refine (slContainsR_any A n c X r hn5 _ (HR.out.below M.out.ext.bel)).mono ?_; rintro e w1 ⟨rfl, hb⟩
  have M' := M.out.below hb
  (clear M; have M := bx M'; clear M')
  clear hb
  go_wp2_with fail
  go_ret
  exact ⟨rfl, M.out.ext.bel⟩
set_option maxRecDepth 20000 in
set_option maxHeartbeats 1000000 in
theorem refContainsR_any (A : Option Addr) (n c : Nat) (X : List Rt) (r : Rt) (hn5 : n ≤ 65535) (w : World) (h : RtRow w A n X) :
    Calls Try.prog 21 #[.slice A n c, .agg (rc r).toArray] w fun e w' => e = .returned (.bool (decide (r ∈ X))) ∧ Below w.heap.size w w' := by
  have M := bx (MM.start (ok_g0 w))
  have HR := bx h
  have LN := bx h.1
  clear h
  change Calls Try.prog _ #[_, .agg (fl [rc r]).toArray] _ _
  go_enter Try.func21, Try.ntmps21
  go_wp2_with ((with_reducible apply wpList_box M.out); rfl; rfl; rfl; exact lenR r; intro w' g M' hb'; (clear M; have M := bx M'; clear M'); clear hb')
  go_loopw [5] (fun i wr => ∃ k : Nat, k ≤ n ∧ i = .int .i64 k ∧ (∀ j (hj : j < X.length), j < k → X[j] ≠ r) ∧ MM g0 w g0 wr [⟨g, [rc r], [32]⟩] []) (fun i _ => n - (intOf i).toNat)
  case atStart => exact ⟨0, Nat.zero_le _, rfl, fun j _ hj => absurd hj (Nat.not_lt_zero _), M.out⟩
  case round =>
    obtain ⟨k, hk, rfl, hno, hM⟩ := hrel
    clear M
    have M := bx hM
    have HNO := bx hno
    clear hM hno
    by_cases hkn : k < n
    · have hkl : k < X.length := by rw [LN.out]; exact hkn
      obtain ⟨ad, rfl, hc⟩ := (HR.out.below M.out.ext.bel).at k hkl
      have QC := bx hc
      have QM := bx M.out.at0.cls
      have HS := bx (rt_same X[k] r)
      have FND := bx (fun (e : X[k] = r) => show decide (r ∈ X) = true from decide_eq_true (e ▸ List.getElem_mem hkl))
      have NXT := bx (fun (e : X[k] ≠ r) j (hj : j < X.length) (hjk : j < k + 1) => (Nat.lt_or_eq_of_le (Nat.le_of_lt_succ hjk)).elim (HNO.out j hj) (fun h => by subst h; exact e))
      have hki : (k : Int) < (n : Int) := by omega
      have hk0 : 0 ≤ (k : Int) := by omega
      clear hc
      generalize X[k] = y at *
      have hq := HS.out
      by_cases he : y = r
      · rw [decide_eq_true he] at hq
        have HE := bx he
        clear he
        go_wp2_with fail
        refine region_cls wr.heap.size (by kernel_rfl) (by kernel_rfl) ?_
        repeat (first | go_big_quiet_skip | (go_big_quiet_want; first | (first | ((with_reducible apply quiet_ldp QM.out (lenR _)); rfl; rfl; (first | exact rtRoot | exact rtCk | exact rtTb); rfl; rfl; go_big_quiet_on; (simp only [Act.put, List.setIfInBounds_toArray, List.set_cons_succ, List.set_cons_zero])) | ((with_reducible apply quiet_ld1 QM.out); rfl; rfl; (first | exact otInt | exact otU64 | exact otU64s); rfl; rfl; go_big_quiet_on; (simp only [Act.put, List.setIfInBounds_toArray, List.set_cons_succ, List.set_cons_zero])) | ((with_reducible apply quiet_lds QM.out (lenR _)); rfl; rfl; (first | exact rtRoot | exact rtCk | exact rtTb); rfl; (try simp only [Nat.reduceAdd, List.drop_zero, cut_cp, cut_tb, cut_tb_c]); go_big_quiet_on; (simp only [Act.put, List.setIfInBounds_toArray, List.set_cons_succ, List.set_cons_zero])) | ((with_reducible apply quiet_ldA); rfl; rfl; exact QC.out; go_big_quiet_on; (simp only [Act.put, List.setIfInBounds_toArray, List.set_cons_succ, List.set_cons_zero]))) | (go_big_quiet_op; first | go_big_quiet_on | ((with_reducible refine ⟨_, fun _ _ => rfl, ?_⟩); go_big_quiet_on))))
        refine wpQuiet_nil ?_; intro w4 hw4; have M' := M.out.below hw4.out; (clear M; have M := bx M'; clear M'); clear hw4
        go_wp2_with fail
        go_ret
        exact ⟨by rw [FND.out HE.out]; rfl, M.out.ext.bel⟩
      · rw [decide_eq_false he] at hq
        have HE := bx he
        clear he
        go_wp2_with fail
        refine region_cls wr.heap.size (by kernel_rfl) (by kernel_rfl) ?_
        repeat (first | go_big_quiet_skip | (go_big_quiet_want; first | (first | ((with_reducible apply quiet_ldp QM.out (lenR _)); rfl; rfl; (first | exact rtRoot | exact rtCk | exact rtTb); rfl; rfl; go_big_quiet_on; (simp only [Act.put, List.setIfInBounds_toArray, List.set_cons_succ, List.set_cons_zero])) | ((with_reducible apply quiet_ld1 QM.out); rfl; rfl; (first | exact otInt | exact otU64 | exact otU64s); rfl; rfl; go_big_quiet_on; (simp only [Act.put, List.setIfInBounds_toArray, List.set_cons_succ, List.set_cons_zero])) | ((with_reducible apply quiet_lds QM.out (lenR _)); rfl; rfl; (first | exact rtRoot | exact rtCk | exact rtTb); rfl; (try simp only [Nat.reduceAdd, List.drop_zero, cut_cp, cut_tb, cut_tb_c]); go_big_quiet_on; (simp only [Act.put, List.setIfInBounds_toArray, List.set_cons_succ, List.set_cons_zero])) | ((with_reducible apply quiet_ldA); rfl; rfl; exact QC.out; go_big_quiet_on; (simp only [Act.put, List.setIfInBounds_toArray, List.set_cons_succ, List.set_cons_zero]))) | (go_big_quiet_op; first | go_big_quiet_on | ((with_reducible refine ⟨_, fun _ _ => rfl, ?_⟩); go_big_quiet_on))))
        refine wpQuiet_nil ?_; intro w4 hw4; have M' := M.out.below hw4.out; (clear M; have M := bx M'; clear M'); clear hw4
        go_wp2_with fail
        go_roundw
        case rel => exact ⟨k + 1, by omega, by go_num, NXT.out HE.out, M.out⟩
        case measure => simp [intOf]; omega
    · obtain rfl : k = n := by omega
      have HRs : Bx (decide (r ∈ X) = false) := ⟨decide_eq_false (fun h => by
        obtain ⟨j, hj, e⟩ := List.getElem_of_mem h
        exact HNO.out j hj (by rw [← LN.out]; exact hj) e)⟩
      go_wp2_with fail
      go_ret
      exact ⟨by rw [HRs.out]; rfl, M.out.ext.bel⟩
/-- a call of a function value, in a region that draws its order -/
theorem mix_callV {Pg : Program} {w : World} {ops : Array Oper} {op : Oper} {a : Act} {Q : Exit → Act → World → Prop} {ts : Array Value} {K : Act → World → Prop} {E : Prop} {f : FuncId} {fn : Func} {args : Array Value} {Post : Ending → World → Prop}
    (hc : Calls Pg f args w Post) (hf : Pg.funcs[f]? = some fn) (hn : (fn.name == "runtime.NumGoroutine") = false) (hb : fn.body.isNone = false) (x : Operand) (xs : Array Operand) (tt : Array TypeId)
    (ho : op.op = .call { callee := .value x, args := xs, argTypes := tt }) (hx : a.eval x = .func (.func f) #[] #[]) (hargs0 : xs.toList.map a.eval = args.toList) (hw : Region.wanted op (yielded ops ts) = true)
    (hk : ∀ e w', Post e w' → ∃ v, e = .returned v ∧ K (a.put op.dst v) w') : if Region.wanted op (yielded ops ts) = true then op.wp Pg a w K Q else E := by
  rw [if_pos hw]
  have hargs : xs.map a.eval = args := Array.ext' (by rw [Array.toList_map]; exact hargs0)
  unfold Oper.wp execOp
  simp only [ho, resolve, Sem.run_bind, Sem.run_pure, Result.andThen_ok, hargs, hx, Deferred.ofValue, invoke, Array.append_empty, Array.empty_append, run_enter hf hn hb, Oper.upon]
  refine Calls.mono hc ?_
  intro e w' hp
  obtain ⟨v, rfl, hK⟩ := hk e w' hp
  exact hK
theorem cmpRt_any (a b : Rt) (w : World) : Calls Try.prog 18 #[.agg (rc a).toArray, .agg (rc b).toArray] w fun e w' => e = .returned (.int .i64 (cmpRt a b)) ∧ Below w.heap.size w w' :=
  (compare_lays (rt_fit a) (rt_fit b) a.len b.len w).mono fun e w' h => ⟨h.1, h.2.below⟩
/-- the greatest -/
def MaxP (X : List Rt) (w : World) (e : Ending) (w' : World) : Prop := ∃ m : Rt, e = .returned (.agg (rc m).toArray) ∧ m ∈ X ∧ (∀ x ∈ X, cmpRt x m ≤ 0) ∧ Below w.heap.size w w'
set_option maxRecDepth 20000 in
set_option maxHeartbeats 1000000 in
theorem maxR_any (A : Option Addr) (n c : Nat) (X : List Rt) (hn0 : 0 < n) (hn5 : n ≤ 65535) (w : World) (h : RtRow w A n X) :
    Calls Try.prog 55 #[.slice A n c, .func (.func 18) #[] #[]] w (MaxP X w) := by
  have M := bx (MM.start (ok_g0 w))
  have HR := bx h
  have LN := bx h.1
  have h0 : 0 < X.length := by rw [h.1]; exact hn0
  obtain ⟨ad, rfl, hc⟩ := h.at 0 h0
  have HX0 : Bx (∀ x ∈ X.take 1, cmpRt x X[0] ≤ 0) := ⟨fun x hx => by
    obtain ⟨j, hj, e⟩ := List.mem_take_iff_getElem.1 hx
    have hj0 : j = 0 := by omega
    subst hj0
    rw [← e, cmpRt_self]; exact Int.le_refl _⟩
  have HM0 := bx (List.getElem_mem h0)
  have HC0 := bx hc
  clear h hc
  generalize X[0] = x0 at *
  have hni : ¬ (n : Int) < 1 := by omega
  have hn1 : (0 : Int) < (n : Int) := by omega
  go_enter Try.func55, Try.ntmps55
  go_upto_region 1 with ((with_reducible apply wpList_alc M.out); rfl; rfl; exact ztRt; intro w' g M' hb'; (clear M; have M := bx M'; clear M'); clear hb')
  obtain ⟨g4, hg4⟩ : ∃ x, x = g := ⟨_, rfl⟩
  subst hg4
  have HC1 : Bx (∀ j u, (rc x0)[j]? = some u → w'.cell? (ad.add j) = some u) := ⟨fun j u hu => by
    have := HC0.out w' M.out.ext.bel j u hu
    rw [Nat.zero_mul, addr_add2, Nat.zero_add] at this
    exact this⟩
  go_wp2_with (first | ((with_reducible apply wpList_ldAr HC1.out); rfl; rfl; rfl) | ((with_reducible apply wpList_alc M.out); rfl; rfl; exact ztRt; intro w' g M' hb'; (clear M; have M := bx M'; clear M'); clear hb') | ((with_reducible apply wpList_sts M.out 0 [rc x0] [rc x0]); rfl; rfl; rfl; rfl; rfl; (first | exact rtRoot | exact rtCk | exact rtTb); rfl; exact lenR _; exact rc_one _; rfl; intro w' M' hg'; (simp only [List.set_cons_zero, List.set_cons_succ] at M'); (clear M; have M := bx M'; clear M'); clear hg'))
  obtain ⟨g5, hg5⟩ : ∃ x, x = g := ⟨_, rfl⟩
  subst hg5
  go_loopw [6] (fun i wr => ∃ (k : Nat) (m : Rt), 1 ≤ k ∧ k ≤ n ∧ i = .int .i64 k ∧ m ∈ X ∧ (∀ x ∈ X.take k, cmpRt x m ≤ 0) ∧ MM g0 w g0 wr [⟨g5, [rc m], [32]⟩, ⟨g4, [rc r0], [32]⟩] []) (fun i _ => n - (intOf i).toNat)
  case atStart => exact ⟨1, x0, Nat.le_refl _, hn0, rfl, HM0.out, HX0.out, M.out⟩
  case round =>
    obtain ⟨k, m, hk1, hk, rfl, hm, hmx, hM⟩ := hrel
    clear M
    have M := bx hM
    have HMX := bx hmx
    have HMM := bx hm
    clear hM hmx hm HC0 HC1 HX0 HM0
    by_cases hkn : k < n
    · have hkl : k < X.length := by rw [LN.out]; exact hkn
      obtain ⟨ad', ea, hc⟩ := (HR.out.below M.out.ext.bel).at k hkl
      cases ea
      have hki : (k : Int) < (n : Int) := by omega
      have hk0 : 0 ≤ (k : Int) := by omega
      have HMY := bx (List.getElem_mem hkl)
      have HTK := bx (List.take_succ_eq_append_getElem hkl)
      go_wp2_with fail
      refine wp_region_mix6 [] (.steps [(1, 0), (1, 1), (1, 2), (1, 3), (0, 4), (0, 5), (2, 6), (1, 7)] .leaf) (by kernel_rfl) (by kernel_rfl) ?_
      simp only [MixT6, MT.steps, stepAt, List.getD_cons_zero, List.getD_cons_succ]
      have M' := M.out.drew
      (clear M; have M := bx M'; clear M')
      have QC : Bx (∀ w', Cls wr.drew.heap.size wr.drew w' → ∀ j u, (rc X[k])[j]? = some u → w'.cell? ((ad.add (k * 32)).add j) = some u) := ⟨fun w' h => hc w' ((Below.refl wr.heap.size wr).drew.trans h.out)⟩
      have QM := bx M.out.at0.cls
      clear hc
      generalize hyk : X[k] = y at *
      have HYK := bx hyk
      repeat (first | (with_reducible refine wpQuiet_nil ?_) | (first | go_big_quiet_skip | (go_big_quiet_want; first | (first | ((with_reducible apply quiet_ldp QM.out (lenR _)); rfl; rfl; (first | exact rtRoot | exact rtCk | exact rtTb); rfl; rfl; go_big_quiet_on; (simp only [Act.put, List.setIfInBounds_toArray, List.set_cons_succ, List.set_cons_zero])) | ((with_reducible apply quiet_ld1 QM.out); rfl; rfl; (first | exact otInt | exact otU64 | exact otU64s); rfl; rfl; go_big_quiet_on; (simp only [Act.put, List.setIfInBounds_toArray, List.set_cons_succ, List.set_cons_zero])) | ((with_reducible apply quiet_lds QM.out (lenR _)); rfl; rfl; (first | exact rtRoot | exact rtCk | exact rtTb); rfl; (try simp only [Nat.reduceAdd, List.drop_zero, cut_cp, cut_tb, cut_tb_c]); go_big_quiet_on; (simp only [Act.put, List.setIfInBounds_toArray, List.set_cons_succ, List.set_cons_zero])) | ((with_reducible apply quiet_ldA); rfl; rfl; exact QC.out; go_big_quiet_on; (simp only [Act.put, List.setIfInBounds_toArray, List.set_cons_succ, List.set_cons_zero]))) | (go_big_quiet_op; first | go_big_quiet_on | ((with_reducible refine ⟨_, fun _ _ => rfl, ?_⟩); go_big_quiet_on)))))
      clear QM QC
      refine mix_callV (cmpRt_any y m _) Try.func18 rfl rfl _ _ _ rfl rfl rfl rfl ?_
      rintro e w2 ⟨rfl, hb⟩
      refine ⟨_, rfl, hb, ?_⟩
      have M' := M.out.below hb
      (clear M; have M := bx M'; clear M')
      clear hb
      simp only [Act.put, List.setIfInBounds_toArray, List.set_cons_succ, List.set_cons_zero]
      repeat (first | (first | go_big_quiet_skip | (go_big_quiet_want; first | fail | (go_big_quiet_op; first | go_big_quiet_on | ((with_reducible refine ⟨_, fun _ _ => rfl, ?_⟩); go_big_quiet_on)))) | (with_reducible refine wpQuiet_nil ?_))
      refine NoPanic.normal ?_
      generalize hcm : cmpRt y m = v at *
      by_cases hv : 0 < v
      · have HV := bx hcm
        obtain ⟨ad2, ea2, hc2⟩ := (HR.out.below M.out.ext.bel).at k hkl
        cases ea2
        have LX : Bx (∀ j u, (rc y)[j]? = some u → w2.cell? ((ad.add (k * 32)).add j) = some u) := ⟨by
          have := hc2 w2 (Below.refl _ _)
          rw [HYK.out] at this
          exact this⟩
        clear hc2 hcm hyk
        go_wp2_with (first | ((with_reducible apply wpList_ldAr LX.out); rfl; rfl; rfl) | ((with_reducible apply wpList_sts M.out 0 [rc y] [rc y]); rfl; rfl; rfl; rfl; rfl; (first | exact rtRoot | exact rtCk | exact rtTb); rfl; exact lenR _; exact rc_one _; rfl; intro w' M' hg'; (simp only [List.set_cons_zero, List.set_cons_succ] at M'); (clear M; have M := bx M'; clear M'); clear hg'))
        go_roundw
        case rel => exact ⟨k + 1, y, by omega, by omega, by go_num, HMY.out, fun x hx => by
          rw [HTK.out] at hx
          rcases List.mem_append.1 hx with h | h
          · refine cmpRt_le (HMX.out x h) ?_
            have h1 := HV.out
            have h2 := cmpRt_flip y m
            omega
          · have hxy : x = y := by simpa using h
            rw [hxy, cmpRt_self]; exact Int.le_refl _, M.out⟩
        case measure => simp [intOf]; omega
      · have HV := bx hcm
        clear hcm
        go_wp2_with fail
        go_roundw
        case rel => exact ⟨k + 1, m, by omega, by omega, by go_num, HMM.out, fun x hx => by
          rw [HTK.out] at hx
          rcases List.mem_append.1 hx with h | h
          · exact HMX.out x h
          · have hxy : x = y := by simpa using h
            rw [hxy, HV.out]; omega, M.out⟩
        case measure => simp [intOf]; omega
    · obtain rfl : k = n := by omega
      rw [List.take_of_length_le (by rw [LN.out]; exact Nat.le_refl _)] at HMX
      go_wp2_with (first | ((with_reducible apply wpList_ldp M.out.at0); rfl; rfl; rfl; (first | exact rtRoot | exact rtCk | exact rtTb); rfl; rfl) | ((with_reducible apply wpList_ld1 M.out.at0); rfl; rfl; rfl; (first | exact otInt | exact otU64 | exact otU64s); rfl; rfl) | ((with_reducible apply wpList_lds M.out.at0); rfl; rfl; rfl; (first | exact rtRoot | exact rtCk | exact rtTb); rfl; (try simp only [Nat.reduceAdd, List.drop_zero, cut_cp, cut_tb, cut_tb_c])) | ((with_reducible apply wpList_sts M.out 1 [rc m] [rc m]); rfl; rfl; rfl; rfl; rfl; (first | exact rtRoot | exact rtCk | exact rtTb); rfl; exact lenR _; exact rc_one _; rfl; intro w' M' hg'; (simp only [List.set_cons_zero, List.set_cons_succ] at M'); (clear M; have M := bx M'; clear M'); clear hg'))
      exact bodyPost_ret (results_L (by rfl) _ M.out.at1 (by rfl) rtRoot rfl) rfl ⟨m, by simp [fl], HMM.out, HMX.out, M.out.ext.bel⟩
/-- roots.Greatest -/
def GrP (X : List Rt) (w : World) (e : Ending) (w' : World) : Prop := ((X = [] ∧ e = .returned (.tuple #[.agg (rc r0).toArray, .bool false])) ∨ ∃ m : Rt, e = .returned (.tuple #[.agg (rc m).toArray, .bool true]) ∧ m ∈ X ∧ ∀ x ∈ X, cmpRt x m ≤ 0) ∧ Below w.heap.size w w'
set_option maxRecDepth 20000 in
set_option maxHeartbeats 1000000 in
theorem greatestR_any (A : Option Addr) (n c : Nat) (X : List Rt) (hn5 : n ≤ 65535) (w : World) (h : RtRow w A n X) :
    Calls Try.prog 22 #[.slice A n c] w (GrP X w) := by
  have M := bx (MM.start (ok_g0 w))
  have HR := bx h
  have LN := bx h.1
  clear h
  rcases Nat.eq_zero_or_pos n with h0 | h0
  · subst h0
    have HX : Bx (X = []) := ⟨List.eq_nil_of_length_eq_zero LN.out⟩
    go_enter Try.func22, Try.ntmps22
    go_wp2_with (first | ((with_reducible apply wpList_alc M.out); rfl; rfl; exact ztRt; intro w' g M' hb'; (clear M; have M := bx M'; clear M'); clear hb') | ((with_reducible refine wpList_buildTo rfl 33 _ rfl [] (fl [rc r0]) ?_ (by kernel_rfl) ?_); rfl) | ((with_reducible apply wpList_sts M.out 0 [rc r0] [rc r0]); rfl; rfl; rfl; rfl; rfl; (first | exact rtRoot | exact rtCk | exact rtTb); rfl; exact lenR _; exact rc_one _; rfl; intro w' M' hg'; (simp only [List.set_cons_zero, List.set_cons_succ] at M'); (clear M; have M := bx M'; clear M'); clear hg'))
    exact bodyPost_ret (results_Lt (by rfl) _ M.out.at0 (by rfl) rtRoot rfl) rfl ⟨.inl ⟨HX.out, by simp [fl]⟩, M.out.ext.bel⟩
  · have hni : ¬ (n : Int) = 0 := by omega
    go_enter Try.func22, Try.ntmps22
    go_wp2_with ((with_reducible apply wpList_alc M.out); rfl; rfl; exact ztRt; intro w' g M' hb'; (clear M; have M := bx M'; clear M'); clear hb')
    refine (maxR_any A n c X h0 hn5 _ (HR.out.below M.out.ext.bel)).mono ?_; rintro e w1 ⟨m, rfl, hm, hmx, hb⟩
    have M' := M.out.below hb
    (clear M; have M := bx M'; clear M')
    have HM1 := bx hm
    have HM2 := bx hmx
    clear hb hm hmx
    go_wp2_with (first | ((with_reducible apply wpList_sts M.out 0 [rc m] [rc m]); rfl; rfl; rfl; rfl; rfl; (first | exact rtRoot | exact rtCk | exact rtTb); rfl; exact lenR _; exact rc_one _; rfl; intro w' M' hg'; (simp only [List.set_cons_zero, List.set_cons_succ] at M'); (clear M; have M := bx M'; clear M'); clear hg'))
    exact bodyPost_ret (results_Lt (by rfl) _ M.out.at0 (by rfl) rtRoot rfl) rfl ⟨.inr ⟨m, by simp [fl], HM1.out, HM2.out⟩, M.out.ext.bel⟩
/-- a list of roots in new memory -/
def RtsP (Γ : Gam) (w : World) (X : List Rt) (e : Ending) (w' : World) : Prop := ∃ (A : Option Addr) (c : Nat) (Γ' : Gam), e = .returned (.slice A X.length c) ∧ CapOk A X.length c ∧ SlG Γ' A X.length (rts X) ∧ Ext Γ w Γ' w'
theorem SlG.pre {Γ : Gam} {A : Option Addr} {n m : Nat} {xs ys : List Value} (h : SlG Γ A n (xs ++ ys)) (hm : m ≤ n) : SlG Γ A m xs := fun h0 => by
  obtain ⟨g, post, e, hg⟩ := h (by omega)
  exact ⟨g, ys ++ post, e, by rw [hg, List.append_assoc]⟩
set_option maxRecDepth 20000 in
set_option maxHeartbeats 1000000 in
theorem sortR_any (Γ : Gam) (A : Option Addr) (n c : Nat) (X : List Rt) (hn5 : n ≤ 65535) (w : World) (ok : Ok Γ w) (h : RtRow w A n X) :
    Calls Try.prog 17 #[.slice A n c] w (RtsP Γ w (rsU X)) := by
  have M := bx (MM.start ok)
  have LN := bx h.1
  have SV := bx (sortedVals_any w.heap.size w.heap.size A n c X h.1 hn5 (w.alloc (.cells #[.slice A n c] 46)) (by simp) (by simp) ((Has.new w [.slice A n c] 46).cell 0) (h.2.alloc (Nat.le_refl _) _))
  have VA := bx (values_any A n c w)
  clear h ok
  go_enter Try.func17, Try.ntmps17
  go_wp2_with fail
  refine VA.out.mono ?_; rintro e w1 ⟨rfl, rfl⟩
  go_wp2_with fail
  refine SV.out.mono ?_; rintro e w2 ⟨v, rfl, hrow, hb⟩
  have M1 := (M.out.below (ext_alloc w (.cells #[.slice A n c] 46))).rowNew hb hrow
  obtain ⟨A2, c2, rfl⟩ := own_slice hrow
  rw [LN.out] at M1 ⊢
  clear M SV VA hrow hb
  have M := bx M1
  clear M1
  go_wp2_with fail
  refine (compactR_any A2 n c2 (srtR X) (by rw [srtR_len]; exact LN.out) hn5 M.out).mono ?_; rintro e w3 ⟨Y, rfl, hM, hY⟩
  obtain ⟨Γ', h1, h2, h3, h4⟩ := hM.frz
  have HU : cptR (srtR X) n = rsU X := by unfold rsU; rw [LN.out]
  rw [HU] at hY ⊢
  have hl : (rsU X).length ≤ n := by have := rsU_len X; rw [LN.out] at this; exact this
  have e0 : Y = rsU X ++ Y.drop (rsU X).length := by
    have := List.take_append_drop (rsU X).length Y
    rw [hY] at this
    exact this.symm
  have e1 : rts Y = rts (rsU X) ++ rts (Y.drop (rsU X).length) := by
    rw [← show rts (rsU X ++ Y.drop (rsU X).length) = rts (rsU X) ++ rts (Y.drop (rsU X).length) from List.flatMap_append, ← e0]
  rw [e1] at h2
  have HC := bx (show CapOk A2 (rsU X).length c2 from ⟨Nat.le_trans hl h1.le, h1.mx, h1.nil⟩)
  have HS := bx (h2.pre hl)
  have HE := bx h4.ext
  clear hM hY h1 h2 h3 h4 e0 e1 hl HU
  go_wp2_with fail
  go_ret
  exact ⟨A2, c2, Γ', rfl, HC.out, HS.out, HE.out⟩
end Go.Proofs.Ytekikfdlnkcenaa
