/- slices.AppendSeq and slices.Collect at checkpoints. -/
import Derived.Test.YtekikfdlnkcenaaSeqC
import Derived.Test.YtekikfdlnkcenaaAw7
namespace Go.Proofs.Ytekikfdlnkcenaa
open Go.RowKit Go.Maps Go.Sort Go.Shelf
attribute [local go_sem] Oper.semAt_some
theorem info_ck : (Try.prog.info? 35).map (fun i => (i.zero, i.size, i.bytes)) = some (some (.agg (ckc zck).toArray), 33, 40) := by kernel_rfl
theorem bs_ck (ps : List (Nat × Value)) : Try.prog.builtSlice 35 1 ps = Instr.fill (fun i => some (i * 33, 33)) (ckc zck).toArray ps := by kernel_rfl
theorem built_sliceC {c : Ck} (h : c.2.length = 32) : Try.prog.builtSlice 35 1 [(0, .agg (ckc c).toArray)] = some (ckc c).toArray := by
  rw [bs_ck]
  have e0 : ckc zck = [] ++ ckc zck ++ [] := by simp
  rw [e0, fill_part _ [] (ckc zck) [] (ckc c) 0 _ _ (by rw [ckc_len h]; rfl) rfl (by rw [ckc_len h]; rfl)]
  simp [Instr.fill]
theorem run_bsC {o : Oper} {a : Act} {w : World} {x : Operand} {c : Ck} (h : c.2.length = 32) (ho : o.op = .buildSlice 157 1 #[(0, x)]) (hx : a.eval x = .agg (ckc c).toArray) :
    (execOp a.eval o).run Try.prog w = .ok (.value (.slice (some ⟨w.heap.size, 0, none⟩) 1 1)) (w.alloc (.cells (ckc c).toArray 35)) := by
  have e : (#[(0, x)].map fun (i, x) => (i, a.eval x)) = #[(0, .agg (ckc c).toArray)] := by
    apply Array.ext'
    rw [Array.toList_map]
    show [(0, a.eval x)] = _
    rw [hx]
  have := run_sliceTo (P := Try.prog) w 157 35 1 #[(0, .agg (ckc c).toArray)] _ Try.underlying157 (built_sliceC h)
  unfold execOp
  simp only [ho, e, this, Sem.run_bind, Result.andThen_ok]
  rfl
def cks (l : List CkS) : List Value := l.flatMap fun x => ckc x.c
theorem cks_push (l : List CkS) (x : CkS) : cks (l ++ [x]) = cks l ++ ckc x.c := by simp [cks]
theorem keepsF {B : Nat} {w w' : World} (h : w.grownBy w' none) : KeepsFrom B w w' := KeepsFrom.of_grownBy h (fun j e => by cases e)
theorem keepsW {w w' : World} (h : w.grownBy w' none) : KeepsWalks w w' := KeepsWalks.of_grownBy h (fun j o e => by cases e)
theorem has_own (B b : Nat) (cs : List Value) : OwnFrom B (fun (_ : Unit) W => Has W b cs) := fun s W W' row h hg hr => h.grown hg (fun e => by
  obtain ⟨_, o, ho, hc⟩ := hr b e.symm
  obtain ⟨t, ht⟩ := h
  rw [ht] at ho; cases ho; cases hc)
theorem zip1 (t : Array Value) (p : Nat) (v : Value) : (Array.zip #[p] #[v]).foldl (fun t (x : Nat × Value) => match x with | (p, v) => t.setIfInBounds p v) t = t.setIfInBounds p v := by simp
set_option maxRecDepth 100000 in
set_option maxHeartbeats 4000000 in
theorem appendSeq_in (F : Fence) (n : Nat) (hf : F.fn 125) (hro : F.round = none) (hn : 2 ≤ n) (g : Nat) (lb : Array Value) (hFg : F.fn g) (eg : ∀ args w, (callFunc g args).run Try.prog w = .ok (.enter g args) w)
    (S Sp : List CkS → Prop) (N : Nat) (hN : N ≤ 65535) (w : World) (hseq : ∀ w', Below w.heap.size w w' → SeqStopsK F (n - 1) Try.prog g lb (fun x : CkS => #[encC x]) KeepsWalks S Sp N w') :
    CallsIn F n Try.prog 125 #[.slice none 0 0, .func (.func g) #[] lb] w fun e w' => ∃ (v : Value) (ss : List CkS), e = .returned v ∧ S ss ∧ w'.ownsRow w.heap.size 35 33 v ss.length (cks ss) ∧ Below w.heap.size w w' := by
  have h1 : 1 ≤ n := by omega
  obtain ⟨i0, hi, hz0, hz1, hz2⟩ := info_parts info_ck
  have HI := bx (show Try.prog.info? 35 = some i0 from hi)
  refine callsIn_of_wp_marks Try.func125 rfl hf ?_ hro
  simp only [Try.ntmps125, List.size_toArray, List.length_cons, List.length_nil, Nat.reduceAdd, Nat.reduceSub, Array.replicate_succ, Array.replicate_zero, List.push_toArray, List.append_toArray, List.nil_append, List.cons_append]
  gi_wp2
  have bS := Boxed.new w 157 (.slice none 0 0)
  have hB0 := ext_alloc w (.cells #[.slice none 0 0] 157)
  have hsz : (w.alloc (.cells #[.slice none 0 0] 157)).heap.size = w.heap.size + 1 := by simp
  obtain ⟨W0, hW0⟩ : ∃ W0, w.alloc (.cells #[.slice none 0 0] 157) = W0 := ⟨_, rfl⟩
  rw [hW0] at bS hB0 hsz ⊢
  clear hW0
  refine wpIn_rangeFunc_ownH hro h1 (gf := g) (lb := lb) rfl hFg eg (hseq W0 hB0) walksK_t walksK_b (Below.refl _ _) (fun _ => rfl)
    (fun pre W => (∃ v, Boxed W w.heap.size 157 v ∧ W.ownsRow w.heap.size 35 33 v pre.length (cks pre) ∧ True) ∧ Below w.heap.size w W)
    (fun _ _ _ => False)
    (OwnFrom.and (Own.from (holdsRow_own w.heap.size w.heap.size 157 35 33 (fun pre : List CkS => pre.length) (fun pre => cks pre) (fun _ _ => True)) _) (ownFrom_below (Nat.le_refl _) (by omega)))
    (fun _ _ _ _ _ hs _ _ => hs)
    ⟨⟨_, bS, World.ownsRow_nil _ _ _ _, trivial⟩, hB0⟩
    (fun x a' W => ∃ b, w.heap.size < b ∧ Has W b (ckc x.c) ∧ a' = { tmps := #[.slice none 0 0, .func (.func g) #[] lb, .pointer (some ⟨w.heap.size, 0, none⟩), undef, .slice none 0 0, .pointer (some ⟨b, 0, none⟩), .func (.func g) #[] lb, encC x, undef, undef, undef, undef, undef], defers := [] })
    (fun x a' s W W' row h hg hr => by
      obtain ⟨b, h1, h2, h3⟩ := h
      exact ⟨b, h1, has_own _ b _ () W W' row h2 hg hr, h3⟩)
    ?assign ?body ?done ?stop
  case assign =>
    rintro l pre x W K hI hK
    have XZ := bx (Has.new W (ckc (0, zroot)) 35)
    have LZ : Bx ((ckc (0, zroot)).length = (ckc x.c).length) := ⟨by rw [ckc_len x.ok.r]; rfl⟩
    have LC := bx (cells_ck x.ok.r)
    have OC := bx (ckc_one x.c)
    have HK := bx hK
    have HI2 := bx hI
    clear hK hI
    rw [zip1]
    change Code.wpIn (F.inRound l) (n - 1 - 1) Try.prog _ _ { tmps := #[.slice none 0 0, .func (.func g) #[] lb, .pointer (some ⟨w.heap.size, 0, none⟩), undef, .slice none 0 0, undef, .func (.func g) #[] lb, .agg (ckc x.c).toArray, undef, undef, undef, undef, undef], defers := [] } W
    gi_wp2_with (first
        | (with_reducible refine wpListIn_allocZ rfl 35 (ckc (0, zroot)) zero_ck rfl ?_)
        | ((with_reducible refine wpListIn_storeB rfl 35 _ _ rfl _ (ckc x.c) _ ?_ ?_ XZ.out LZ.out Try.underlying35 LC.out OC.out ?_); rfl; rfl; intro w3 hw hg hz; have X3 := bx hw; have G3 := bx (below_none ((ext_alloc W (.cells (ckc (0, zroot)).toArray 35)).grown hg (ext_alloc W (.cells (ckc (0, zroot)).toArray 35)).size (fun k hk => by cases hk; exact Nat.le_refl _))); clear hw hg hz))
    obtain ⟨⟨v, hv, hrow, _⟩, hB⟩ := HI2.out
    refine HK.out _ _ (keepsF G3.out) (keepsW G3.out) ⟨⟨v, hv.kept G3.out (by simp), hrow.kept G3.out (by by_cases h : v.ownBlock = none <;> simp [h]), trivial⟩, hB.grown G3.out hB.size (fun k hk => by cases hk)⟩ ⟨W.heap.size, hv.lt, X3.out, rfl⟩
  case body =>
    rintro l pre x a' W hl ⟨r, hr⟩ ⟨⟨v, hv, hrow, _⟩, hB⟩ ⟨b, hb, hX, rfl⟩ hlt
    have hc0 := hv.cell
    have LC := bx (cells_ck x.ok.r)
    have XB := bx hX
    have XN := bx (Has.new W (ckc x.c) 35)
    have OKX := bx x.ok.r
    have HV := bx hv
    have HROW := bx hrow
    have HBW := bx hB
    have NEWS : Bx (∀ j u, (ckc x.c)[j]? = some u → (W.alloc (.cells (ckc x.c).toArray 35)).cell? ((⟨W.heap.size, 0, none⟩ : Addr).add j) = some u) := ⟨fun j u hu => by rw [add_at, XN.out.cell, Nat.zero_add]; exact hu⟩
    have LEN : Bx ((ckc x.c).length = 1 * 33) := ⟨by rw [ckc_len x.ok.r]⟩
    have ONE := bx (ckc_one x.c)
    have M1 : Bx (pre.length + 1 ≤ maxLen) := ⟨by unfold maxLen; omega⟩
    have M2 : Bx ((pre.length + 1) * 40 ≤ 140737488355328) := ⟨by omega⟩
    have SZ : Bx (w.heap.size ≤ (W.alloc (.cells (ckc x.c).toArray 35)).heap.size) := ⟨Nat.le_trans hB.size (by simp)⟩
    clear hX hr hlt hseq hv hrow hB
    gi_wp2_with (first
        | ((with_reducible refine wpListIn_loadB rfl 35 _ rfl _ (ckc x.c) ?_ XB.out Try.underlying35 rfl LC.out ?_); rfl)
        | (with_reducible refine wpListIn_run rfl rfl (run_bsC OKX.out rfl rfl) ?_)
        | (gi_at_builtin; refine wpListIn_append_own _ rfl _ _ 157 rfl w.heap.size 35 i0 (.agg (ckc zck).toArray) 33 40 Try.underlying157 HI.out hz0 hz1 hz2 rfl (by decide) _ _ _ rfl (HROW.out.alloc _) ⟨W.heap.size, 0, none⟩ 1 1 (ckc x.c) rfl LEN.out NEWS.out ONE.out M1.out M2.out SZ.out ?_; intro v' w1 hown' hgrow hnl; obtain ⟨g', cap', rfl⟩ := ownsRow_succ hown'; obtain ⟨hv1, hv2, hr2, hk2, hb2⟩ := HV.out.appended (by decide) HROW.out HBW.out.size (Nat.le_refl _) hown' hgrow; have hc1 := hv1.cell; have hf1 := hv1.frozen; clear hown' hgrow hnl hv1 hc0))
    exact ⟨hk2.from _, hk2.walks, ⟨_, hv2, by rw [cks_push, List.length_append]; exact hr2, trivial⟩, HBW.out.trans hb2⟩
  case done =>
    rintro D ys W hD hS ⟨⟨v, hv, hrow, _⟩, hB⟩ hK
    have hc0 := hv.cell
    gi_wp2
    refine ⟨by simp, .inl ⟨_, _, rfl, run_takeDeferred hK, ?_⟩⟩
    exact ⟨_, results_tmp rfl _ _ _, v, ys, rfl, hS, ownsRow_putObj hrow _ hK rfl, hB.grown (grownBy_putObj' W D _) hB.size (fun k e => by cases e; omega)⟩
  case stop =>
    rintro D c pre W _ _ h _
    exact h.elim
end Go.Proofs.Ytekikfdlnkcenaa
