/- Roots: slices.Values, slices.AppendSeq, slices.Collect, slices.SortFunc, slices.SortedFunc. -/
import Derived.Test.YtekikfdlnkcenaaAppC
import Derived.Test.YtekikfdlnkcenaaCmpC
import Derived.Test.YtekikfdlnkcenaaCmpR
import Derived.Test.YtekikfdlnkcenaaSortRow
import Derived.Test.YtekikfdlnkcenaaShelf
import Derived.Test.YtekikfdlnkcenaaRx
import Derived.RangeFuncKeeps
namespace Go.Proofs.Ytekikfdlnkcenaa
open Go.RowKit Go.Maps Go.Sort Go.Shelf
attribute [local go_sem] Oper.semAt_some
def encR (x : Rt) : Value := .agg (rc x).toArray
theorem zero_rt (w : World) : (zeroValue 33).run Try.prog w = .ok (.agg (rc r0).toArray) w := by kernel_rfl
theorem cells_rt (r : Rt) : Try.prog.cellsOf 33 = (rc r).length := by rw [rc_len]; kernel_rfl
theorem rc_oneA (r : Rt) : ∀ u ∈ rc r, u.oneCell' = true := rc_one r
def rts (l : List Rt) : List Value := l.flatMap rc
theorem none_below {w w' : World} (h : w.grownBy w' none) : Below w.heap.size w w' := ⟨h.os, h.tape, h.output, h.size, fun k hk => h.block k hk (by simp)⟩
instance : Inhabited Rt := ⟨r0⟩
/-- the roots in order -/
def srtR (l : List Rt) : List Rt := l.mergeSort fun x y => !ltOf cmpRt y x
theorem srtR_len (l : List Rt) : (srtR l).length = l.length := by simp [srtR]
theorem cmpLaysR (blk off size : Nat) (w : World) : CmpLays Try.prog 18 #[] rc 32 cmpRt blk off size w := fun m os dk hs x y => by
  refine (compare_lays (rt_fit x) (rt_fit y) x.len y.len _).mono fun e w' h => ?_
  obtain ⟨rfl, hl⟩ := h
  exact ⟨rfl, hl⟩
theorem cpr_enters (args : Array Value) (w : World) : (callFunc 18 args).run Try.prog w = .ok (.enter 18 args) w := enters_of Try.func18 (by kernel_rfl) rfl args w
theorem run_ldA {P : Program} (w : World) (ad : Addr) (ty : TypeId) (cs : List Value) (d : TypeDesc) (hc : ∀ j u, cs[j]? = some u → w.cell? (ad.add j) = some u)
    (hu : P.underlying ty = some d) (hd : d.isRow = true) (hi : (P.info? ty).map (·.size) = some cs.length) :
    (loadVar ty ad).run P w = .ok (.agg cs.toArray) w := by
  have hl : (loadCells ad cs.length).run P w = .ok cs.toArray w := run_loadCells_list (P := P) w ad cs hc
  cases hq : P.info? ty with
  | none => simp [hq] at hi
  | some i =>
    have hs : i.size = cs.length := by simpa [hq] using hi
    have hagg : (isAgg ty).run P w = .ok true w := by
      unfold isAgg
      rw [Sem.run_bind, run_underlying hu w]
      cases d <;> simp_all
    simp [loadVar, Sem.run_bind, hagg, sizeOf, typeInfo, hq, hs, hl]
theorem exec_ldA {o : Oper} {a : Act} {w : World} {ad : Addr} {r : Rt} {x : Operand} (hc : ∀ j u, (rc r)[j]? = some u → w.cell? (ad.add j) = some u) (ho : o.op = .load 33 x) (hx : a.eval x = .pointer (some ad)) :
    (execOp a.eval o).run Try.prog w = .ok (.value (.agg (rc r).toArray)) w := by
  have := run_ldA (P := Try.prog) w ad 33 (rc r) _ hc Try.underlying33 rfl (info_size Try.underlying33 (cells_rt r))
  unfold execOp
  simp only [ho, hx, Instr.loadAt, Instr.sureAddr, Sem.run_bind, Sem.run_pure, Result.andThen_ok, this]
set_option maxRecDepth 100000 in
set_option maxHeartbeats 1000000 in
theorem values1_in (F : Fence) (n : Nat) (hf : F.fn 86) (hro : F.round = none) (hn : 1 ≤ n) (l Bm n₀ : Nat) (A : Option Addr) (len cap : Nat) (X : List Rt) (hlen : X.length = len) (hl5 : len ≤ 65535) (J Jx : List Rt → World → Prop)
    (hY : ∀ pre x W, J pre W → pre.length < len → YieldAt F (n - 1) Try.prog l #[encR x] W fun e W' =>
      (e = .returned (.bool true) ∧ J (pre ++ [x]) W' ∧ Below n₀ W W') ∨ (e = .returned (.bool false) ∧ Jx (pre ++ [x]) W'))
    (W : World) (hJ : AbidesFrom W.heap.size J) (hm : W.cell? ⟨Bm, 0, none⟩ = some (.slice A len cap)) (hrow : Row W n₀ 32 A len (X.flatMap rc)) (hn0 : n₀ ≤ W.heap.size) (h0 : J [] W) :
    CallsIn F n Try.prog 86 #[.func (.yield l) #[] #[], .pointer (some ⟨Bm, 0, none⟩)] W fun e W' => (∃ v, e = .returned v) ∧
      ((∃ ss, ss = X ∧ J ss W') ∨ (∃ pre, True ∧ Jx pre W')) := by
  refine callsIn_of_wp Try.func86 rfl hf ?_ hro
  simp only [Try.ntmps86, List.size_toArray, List.length_cons, List.length_nil, Nat.reduceAdd, Nat.reduceSub, Array.replicate_succ, Array.replicate_zero, List.push_toArray, List.append_toArray, List.nil_append, List.cons_append]
  gi_wp2
  gi_loopw [7] (fun i wr => ∃ k : Nat, k ≤ len ∧ i = .int .i64 k ∧ J (X.take k) wr ∧ Below n₀ W wr) (fun i _ => len - (intOf i).toNat)
  case atStart => exact ⟨0, Nat.zero_le _, rfl, h0, Below.refl _ _⟩
  case round =>
    obtain ⟨k, hk, rfl, hJs, hnx⟩ := hrel
    by_cases hlt : k < len
    · have hkl : k < X.length := by rw [hlen]; exact hlt
      obtain ⟨ad, rfl, _, hcs⟩ := (hrow.below hnx).elem (fun x _ => rc_len x) (by decide) k hkl
      have HN := bx (List.take_succ_eq_append_getElem hkl)
      generalize X[k] = x at *
      have HC := bx hcs
      have HYS := bx (fun w3 (hg : wr.grownBy w3 none) => hY _ x w3 (hJ _ wr w3 none hJs hg (fun r e => by cases e)) (by rw [List.length_take]; omega))
      have XZ := bx (Has.new wr (rc r0) 33)
      have LZ : Bx ((rc r0).length = (rc x).length) := ⟨by rw [rc_len, rc_len]⟩
      have LC := bx (cells_rt x)
      have OC := bx (rc_oneA x)
      have G0 := bx (fun w3 (hg : (wr.alloc (.cells (rc r0).toArray 33)).grownBy w3 (some wr.heap.size)) => below_none ((ext_alloc wr (.cells (rc r0).toArray 33)).grown hg (ext_alloc wr (.cells (rc r0).toArray 33)).size (fun k hk => by cases hk; exact Nat.le_refl _)))
      have NX := bx hnx
      have HN0 := bx (Nat.le_trans hn0 hnx.size)
      have hki : (k : Int) < (len : Int) := by omega
      have hk0 : (0 : Int) ≤ (k : Int) := by omega
      clear hY hJ hcs hJs hnx h0 hm hrow hn0
      unfold encR at *
      gi_wp2_with (first
        | (with_reducible refine wpListIn_run rfl rfl (exec_ldA HC.out rfl rfl) ?_)
        | (with_reducible refine wpListIn_allocZ rfl 33 (rc r0) zero_rt rfl ?_)
        | ((with_reducible refine wpListIn_storeB rfl 33 _ _ rfl _ (rc x) _ ?_ ?_ XZ.out LZ.out Try.underlying33 LC.out OC.out ?_); rfl; rfl; intro w3 hw hg hz; have X3 := bx hw; have G3 := bx (G0.out w3 hg); obtain ⟨fn, tmps, assign, body, hy, hR⟩ := HYS.out w3 G3.out; clear hw hg hz)
        | ((with_reducible refine wpListIn_loadB rfl 33 _ rfl _ (rc x) ?_ X3.out Try.underlying33 rfl LC.out ?_); rfl))
      refine hR.mono ?_
      rintro e W3 (⟨rfl, hJ3, hk3⟩ | ⟨rfl, hJx3⟩)
      · gi_wp2
        go_roundw
        case rel => exact ⟨k + 1, by omega, by simp, by rw [HN.out]; exact hJ3, NX.out.trans (((none_below G3.out).mono HN0.out).trans hk3)⟩
        case measure => simp [intOf]; omega
      · gi_wp2
        refine bodyPost_ret (results_none rfl _ _ _) rfl ?_
        exact ⟨⟨_, rfl⟩, .inr ⟨_, trivial, hJx3⟩⟩
    · obtain rfl : k = len := by omega
      rw [List.take_of_length_le (by omega)] at hJs
      gi_wp2
      go_end0
      exact ⟨⟨_, rfl⟩, .inl ⟨_, rfl, hJs⟩⟩
theorem info_rt : (Try.prog.info? 33).map (fun i => (i.zero, i.size, i.bytes)) = some (some (.agg (rc r0).toArray), 32, 32) := by kernel_rfl
theorem bs_rt (ps : List (Nat × Value)) : Try.prog.builtSlice 33 1 ps = Instr.fill (fun i => some (i * 32, 32)) (rc r0).toArray ps := by kernel_rfl
theorem built_sliceR {c : Rt} : Try.prog.builtSlice 33 1 [(0, .agg (rc c).toArray)] = some (rc c).toArray := by
  rw [bs_rt]
  have e0 : rc r0 = [] ++ rc r0 ++ [] := by simp
  rw [e0, fill_part _ [] (rc r0) [] (rc c) 0 _ _ (by rw [rc_len c]; rfl) rfl (by rw [rc_len c]; rfl)]
  simp [Instr.fill]
theorem run_bsRt {o : Oper} {a : Act} {w : World} {x : Operand} {c : Rt} (ho : o.op = .buildSlice 46 1 #[(0, x)]) (hx : a.eval x = .agg (rc c).toArray) :
    (execOp a.eval o).run Try.prog w = .ok (.value (.slice (some ⟨w.heap.size, 0, none⟩) 1 1)) (w.alloc (.cells (rc c).toArray 33)) := by
  have e : (#[(0, x)].map fun (i, x) => (i, a.eval x)) = #[(0, .agg (rc c).toArray)] := by
    apply Array.ext'
    rw [Array.toList_map]
    show [(0, a.eval x)] = _
    rw [hx]
  have := run_sliceTo (P := Try.prog) w 46 33 1 #[(0, .agg (rc c).toArray)] _ Try.underlying46 built_sliceR
  unfold execOp
  simp only [ho, e, this, Sem.run_bind, Result.andThen_ok]
  rfl
theorem rts_push (l : List Rt) (x : Rt) : rts (l ++ [x]) = rts l ++ rc x := by simp [rts]
set_option maxRecDepth 100000 in
set_option maxHeartbeats 4000000 in
theorem appendSeqR_in (F : Fence) (n : Nat) (hf : F.fn 111) (hro : F.round = none) (hn : 2 ≤ n) (g : Nat) (lb : Array Value) (hFg : F.fn g) (eg : ∀ args w, (callFunc g args).run Try.prog w = .ok (.enter g args) w)
    (S Sp : List Rt → Prop) (N : Nat) (hN : N ≤ 65535) (w : World) (n₀ : Nat) (hn₀ : n₀ ≤ w.heap.size) (hseq : ∀ w', Below w.heap.size w w' → SeqStopsK F (n - 1) Try.prog g lb (fun x : Rt => #[encR x]) (Below n₀) S Sp N w') :
    CallsIn F n Try.prog 111 #[.slice none 0 0, .func (.func g) #[] lb] w fun e w' => ∃ (v : Value) (ss : List Rt), e = .returned v ∧ S ss ∧ w'.ownsRow w.heap.size 33 32 v ss.length (rts ss) ∧ Below w.heap.size w w' := by
  have h1 : 1 ≤ n := by omega
  obtain ⟨i0, hi, hz0, hz1, hz2⟩ := info_parts info_rt
  have HI := bx (show Try.prog.info? 33 = some i0 from hi)
  refine callsIn_of_wp_marks Try.func111 rfl hf ?_ hro
  simp only [Try.ntmps111, List.size_toArray, List.length_cons, List.length_nil, Nat.reduceAdd, Nat.reduceSub, Array.replicate_succ, Array.replicate_zero, List.push_toArray, List.append_toArray, List.nil_append, List.cons_append]
  gi_wp2
  have bS := Boxed.new w 46 (.slice none 0 0)
  have hB0 := ext_alloc w (.cells #[.slice none 0 0] 46)
  have hsz : (w.alloc (.cells #[.slice none 0 0] 46)).heap.size = w.heap.size + 1 := by simp
  obtain ⟨W0, hW0⟩ : ∃ W0, w.alloc (.cells #[.slice none 0 0] 46) = W0 := ⟨_, rfl⟩
  rw [hW0] at bS hB0 hsz ⊢
  clear hW0
  have hn₀' : n₀ ≤ W0.heap.size := by omega
  refine wpIn_rangeFunc_ownH hro h1 (gf := g) (lb := lb) rfl hFg eg (hseq W0 hB0) belowK_t (belowK_b hn₀') (Below.refl _ _) (fun _ => rfl)
    (fun pre W => (∃ v, Boxed W w.heap.size 46 v ∧ W.ownsRow w.heap.size 33 32 v pre.length (rts pre) ∧ True) ∧ Below w.heap.size w W)
    (fun _ _ _ => False)
    (OwnFrom.and (Own.from (holdsRow_own w.heap.size w.heap.size 46 33 32 (fun pre : List Rt => pre.length) (fun pre => rts pre) (fun _ _ => True)) _) (ownFrom_below (Nat.le_refl _) (by omega)))
    (fun _ _ _ _ _ hs _ _ => hs)
    ⟨⟨_, bS, World.ownsRow_nil _ _ _ _, trivial⟩, hB0⟩
    (fun x a' W => ∃ b, w.heap.size < b ∧ Has W b (rc x) ∧ a' = { tmps := #[.slice none 0 0, .func (.func g) #[] lb, .pointer (some ⟨w.heap.size, 0, none⟩), undef, .slice none 0 0, .pointer (some ⟨b, 0, none⟩), .func (.func g) #[] lb, encR x, undef, undef, undef, undef, undef], defers := [] })
    (fun x a' s W W' row h hg hr => by
      obtain ⟨b, h1, h2, h3⟩ := h
      exact ⟨b, h1, has_own _ b _ () W W' row h2 hg hr, h3⟩)
    ?assign ?body ?done ?stop
  case assign =>
    rintro l pre x W K hI hK
    have XZ := bx (Has.new W (rc r0) 33)
    have LZ : Bx ((rc r0).length = (rc x).length) := ⟨by rw [rc_len x]; rfl⟩
    have LC := bx (cells_rt x)
    have OC := bx (rc_oneA x)
    have HK := bx hK
    have HI2 := bx hI
    clear hK hI
    rw [zip1]
    change Code.wpIn (F.inRound l) (n - 1 - 1) Try.prog _ _ { tmps := #[.slice none 0 0, .func (.func g) #[] lb, .pointer (some ⟨w.heap.size, 0, none⟩), undef, .slice none 0 0, undef, .func (.func g) #[] lb, .agg (rc x).toArray, undef, undef, undef, undef, undef], defers := [] } W
    gi_wp2_with (first
        | (with_reducible refine wpListIn_allocZ rfl 33 (rc r0) zero_rt rfl ?_)
        | ((with_reducible refine wpListIn_storeB rfl 33 _ _ rfl _ (rc x) _ ?_ ?_ XZ.out LZ.out Try.underlying33 LC.out OC.out ?_); rfl; rfl; intro w3 hw hg hz; have X3 := bx hw; have G3 := bx (below_none ((ext_alloc W (.cells (rc r0).toArray 33)).grown hg (ext_alloc W (.cells (rc r0).toArray 33)).size (fun k hk => by cases hk; exact Nat.le_refl _))); clear hw hg hz))
    obtain ⟨⟨v, hv, hrow, _⟩, hB⟩ := HI2.out
    refine HK.out _ _ (keepsF G3.out) ((none_below G3.out).mono (Nat.le_trans hn₀ hB.size)) ⟨⟨v, hv.kept G3.out (by simp), hrow.kept G3.out (by by_cases h : v.ownBlock = none <;> simp [h]), trivial⟩, hB.grown G3.out hB.size (fun k hk => by cases hk)⟩ ⟨W.heap.size, hv.lt, X3.out, rfl⟩
  case body =>
    rintro l pre x a' W hl ⟨r, hr⟩ ⟨⟨v, hv, hrow, _⟩, hB⟩ ⟨b, hb, hX, rfl⟩ hlt
    have hc0 := hv.cell
    have LC := bx (cells_rt x)
    have XB := bx hX
    have XN := bx (Has.new W (rc x) 33)
    have HV := bx hv
    have HROW := bx hrow
    have HBW := bx hB
    have NEWS : Bx (∀ j u, (rc x)[j]? = some u → (W.alloc (.cells (rc x).toArray 33)).cell? ((⟨W.heap.size, 0, none⟩ : Addr).add j) = some u) := ⟨fun j u hu => by rw [add_at, XN.out.cell, Nat.zero_add]; exact hu⟩
    have LEN : Bx ((rc x).length = 1 * 32) := ⟨by rw [rc_len x]⟩
    have ONE := bx (rc_oneA x)
    have M1 : Bx (pre.length + 1 ≤ maxLen) := ⟨by unfold maxLen; omega⟩
    have M2 : Bx ((pre.length + 1) * 32 ≤ 140737488355328) := ⟨by omega⟩
    have SZ : Bx (w.heap.size ≤ (W.alloc (.cells (rc x).toArray 33)).heap.size) := ⟨Nat.le_trans hB.size (by simp)⟩
    clear hX hr hlt hseq hv hrow hB
    gi_wp2_with (first
        | ((with_reducible refine wpListIn_loadB rfl 33 _ rfl _ (rc x) ?_ XB.out Try.underlying33 rfl LC.out ?_); rfl)
        | (with_reducible refine wpListIn_run rfl rfl (run_bsRt rfl rfl) ?_)
        | (gi_at_builtin; refine wpListIn_append_own _ rfl _ _ 46 rfl w.heap.size 33 i0 (.agg (rc r0).toArray) 32 32 Try.underlying46 HI.out hz0 hz1 hz2 rfl (by decide) _ _ _ rfl (HROW.out.alloc _) ⟨W.heap.size, 0, none⟩ 1 1 (rc x) rfl LEN.out NEWS.out ONE.out M1.out M2.out SZ.out ?_; intro v' w1 hown' hgrow hnl; obtain ⟨g', cap', rfl⟩ := ownsRow_succ hown'; obtain ⟨hv1, hv2, hr2, hk2, hb2⟩ := HV.out.appended (by decide) HROW.out HBW.out.size (Nat.le_refl _) hown' hgrow; have hc1 := hv1.cell; have hf1 := hv1.frozen; clear hown' hgrow hnl hv1 hc0))
    exact ⟨hk2.from _, hb2.mono hn₀, ⟨_, hv2, by rw [rts_push, List.length_append]; exact hr2, trivial⟩, HBW.out.trans hb2⟩
  case done =>
    rintro D ys W hD hS ⟨⟨v, hv, hrow, _⟩, hB⟩ hK
    have hc0 := hv.cell
    gi_wp2
    refine ⟨by simp, .inl ⟨_, _, rfl, run_takeDeferred hK, ?_⟩⟩
    exact ⟨_, results_tmp rfl _ _ _, v, ys, rfl, hS, ownsRow_putObj hrow _ hK rfl, hB.grown (grownBy_putObj' W D _) hB.size (fun k e => by cases e; omega)⟩
  case stop =>
    rintro D c pre W _ _ h _
    exact h.elim
/-- slices.SortFunc of a row of the call's own -/
theorem sortFuncR_any (base : Nat) (v : Value) (ss : List Rt) (hn : ss.length ≤ 65535) (w : World) (hb : base ≤ w.heap.size) (h : w.ownsRow base 33 32 v ss.length (rts ss)) :
    Calls Try.prog 85 #[v, .func (.func 18) #[] #[]] w fun e w' => e = .returned (.tuple #[]) ∧ w'.ownsRow base 33 32 v ss.length (rts (srtR ss)) ∧ Below base w w' := by
  rcases h.2 with ⟨rfl, hz⟩ | ⟨gb, cap, cur, rfl, hbase, hgb, r1, r2, r3, r4⟩
  · have hss : ss = [] := List.eq_nil_of_length_eq_zero hz
    subst hss
    refine (AnyF.slices_SortFunc_none { Try.sortR with } none 0 (.func (.func 18) #[] #[]) w).mono fun e w' h' => ?_
    obtain ⟨rfl, rfl⟩ := h'
    exact ⟨rfl, by simpa [srtR] using h, Below.refl _ _⟩
  · have hH := holdsK_of_block (enc := rc) rc_len (d := ss) hgb r4
    have hgl : gb < w.heap.size := (Array.getElem?_eq_some_iff.1 hgb).1
    have hc := AnyQ.slices_SortFunc_total Try.sortR 32 Try.isAgg33 Try.sizeOf33 rc rc_len rc_one cmpRt (swo_of (fun r : Rt => r.l) 32 (fun r => r.len)) 18 #[] gb 0 cap ss.toArray w cpr_enters (cmpLaysR gb 0 _ w) hH hgl (by simp; omega) (tot_of (fun r : Rt => r.l) 32 (fun r => r.len) (fun _ _ h => Rt.ext' h))
    rw [show ss.toArray.size = ss.length by simp] at hc
    refine hc.mono fun e w' h' => ?_
    obtain ⟨rfl, n, os, rfl⟩ := h'
    exact ⟨rfl, ownsRow_sortedK rc_len (srtR_len ss) hbase hgb r1 r2 r3, (Below.refl _ _).grown (grownBy_sortedK _) hb (fun k e => by cases e; exact hbase)⟩
set_option maxRecDepth 100000 in
set_option maxHeartbeats 1000000 in
theorem collectR_in (F : Fence) (n : Nat) (hf : F.fn 84) (hfa : F.fn 111) (hro : F.round = none) (hn : 3 ≤ n) (g : Nat) (lb : Array Value) (hFg : F.fn g) (eg : ∀ args w, (callFunc g args).run Try.prog w = .ok (.enter g args) w)
    (S Sp : List Rt → Prop) (N : Nat) (hN : N ≤ 65535) (w : World) (n₀ : Nat) (hn₀ : n₀ ≤ w.heap.size) (hseq : ∀ w', Below w.heap.size w w' → SeqStopsK F (n - 1 - 1) Try.prog g lb (fun x : Rt => #[encR x]) (Below n₀) S Sp N w') :
    CallsIn F n Try.prog 84 #[.func (.func g) #[] lb] w fun e w' => ∃ (v : Value) (ss : List Rt), e = .returned v ∧ S ss ∧ w'.ownsRow w.heap.size 33 32 v ss.length (rts ss) ∧ Below w.heap.size w w' := by
  have h1 : 1 ≤ n := by omega
  have HA := bx (appendSeqR_in F (n - 1) hfa hro (by omega) g lb hFg eg S Sp N hN w n₀ hn₀ hseq)
  clear hseq
  refine callsIn_of_wp Try.func84 rfl hf ?_ hro
  simp only [Try.ntmps84, List.size_toArray, List.length_cons, List.length_nil, Nat.reduceAdd, Nat.reduceSub, Array.replicate_succ, Array.replicate_zero, List.push_toArray, List.append_toArray, List.nil_append, List.cons_append]
  gi_wp2_with (gi_at_call 111; refine HA.out.mono ?_; rintro e w' ⟨v, ss, rfl, hS, hrow, hb⟩)
  go_ret
  exact ⟨v, ss, rfl, hS, hrow, hb⟩
/-- slices.SortedFunc(slices.Values(l), roots.Compare), from the iterator on -/
theorem values_stops (F : Fence) (n : Nat) (hf : F.fn 86) (hro : F.round = none) (hn : 1 ≤ n) (Bm n₀ : Nat) (A : Option Addr) (len cap : Nat) (X : List Rt) (hlen : X.length = len) (hl5 : len ≤ 65535) (w : World) (hBm : Bm < w.heap.size) (hn0 : n₀ ≤ w.heap.size)
    (hm : w.cell? ⟨Bm, 0, none⟩ = some (.slice A len cap)) (hrow : Row w n₀ 32 A len (X.flatMap rc)) :
    SeqStopsK F n Try.prog 86 #[.pointer (some ⟨Bm, 0, none⟩)] (fun x : Rt => #[encR x]) (Below n₀) (fun ss => ss = X) (fun _ => True) len w := fun l J Jx W hW hJ _ hY h0 =>
  values1_in F n hf hro hn l Bm n₀ A len cap X hlen hl5 J Jx hY W hJ ((hW.cell (p := ⟨Bm, 0, none⟩) hBm).trans hm) (hrow.below (hW.mono hn0)) (Nat.le_trans hn0 hW.size) h0
theorem values_any (A : Option Addr) (len cap : Nat) (w : World) :
    Calls Try.prog 50 #[.slice A len cap] w fun e w' => e = .returned (.func (.func 86) #[] #[.pointer (some ⟨w.heap.size, 0, none⟩)]) ∧ w' = w.alloc (.cells #[.slice A len cap] 46) := by
  have hmf : ∀ (fn : Fn) (first cap : Array Value) (w : World), (Instr.makeFunc fn first cap).run Try.prog w = .ok (.func fn first cap) w := fun _ _ _ _ => rfl
  go_enter Try.func50, Try.ntmps50
  go_wp2_with fail
  go_ret
  exact ⟨rfl, rfl⟩
set_option maxRecDepth 100000 in
set_option maxHeartbeats 1000000 in
theorem sortedVals_any (Bm n₀ : Nat) (A : Option Addr) (len cap : Nat) (X : List Rt) (hlen : X.length = len) (hl5 : len ≤ 65535) (w : World) (hBm : Bm < w.heap.size) (hn0 : n₀ ≤ w.heap.size) (hm : w.cell? ⟨Bm, 0, none⟩ = some (.slice A len cap)) (hrow : Row w n₀ 32 A len (X.flatMap rc)) :
    Calls Try.prog 49 #[.func (.func 86) #[] #[.pointer (some ⟨Bm, 0, none⟩)], .func (.func 18) #[] #[]] w
      fun e w' => ∃ (v : Value), e = .returned v ∧ w'.ownsRow w.heap.size 33 32 v X.length (rts (srtR X)) ∧ Below w.heap.size w w' := by
  have eg : ∀ args w, (callFunc 86 args).run Try.prog w = .ok (.enter 86 args) w := enters_of Try.func86 (by kernel_rfl) rfl
  have HC := bx (callsIn_wide.1 (collectR_in Fence.wide 3 trivial trivial rfl (Nat.le_refl _) _ _ trivial eg (fun ss => ss = X) (fun _ => True) len hl5 w n₀ hn0 (fun w' hb => values_stops Fence.wide _ trivial rfl (by decide) Bm n₀ A len cap X hlen hl5 w' (Nat.lt_of_lt_of_le hBm hb.size) (Nat.le_trans hn0 hb.size) ((hb.cell (p := ⟨Bm, 0, none⟩) hBm).trans hm) (hrow.below (hb.mono hn0)))))
  clear hm hrow
  go_enter Try.func49, Try.ntmps49
  go_wp2_with (go_at_call 84; refine HC.out.mono ?_; rintro e w1 ⟨v, ss, rfl, rfl, hrow, hb⟩)
  have HF := bx (sortFuncR_any w.heap.size v ss (by omega) w1 hb.size hrow)
  clear hrow
  go_wp2_with (go_at_call 85; refine HF.out.mono ?_; rintro e w2 ⟨rfl, hrow2, hb2⟩)
  go_ret
  exact ⟨v, rfl, hrow2, hb.trans hb2⟩
end Go.Proofs.Ytekikfdlnkcenaa
