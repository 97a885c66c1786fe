/- slices.SortedFunc at the keys of a map of tables. -/
import Derived.Test.YtekikfdlnkcenaaAppC
import Derived.Test.YtekikfdlnkcenaaCmpC
import Derived.Test.YtekikfdlnkcenaaSortRow
import Derived.Test.YtekikfdlnkcenaaShelf
namespace Go.Proofs.Ytekikfdlnkcenaa
open Go.RowKit Go.Maps Go.Sort Go.Shelf
theorem zck_ok : CkOk (0, zroot) := ⟨by decide, by decide, rfl, fun x hx => by
  have : x = 0 := by simpa [zroot] using hx
  subst this; exact ⟨by decide, by decide⟩⟩
instance : Inhabited CkS := ⟨⟨(0, zroot), zck_ok⟩⟩
def encs (x : CkS) : List Value := ckc x.c
theorem encs_len (x : CkS) : (encs x).length = 33 := ckc_len x.ok.r
theorem cks_eq (l : List CkS) : cks l = l.flatMap encs := rfl
/-- the keys in order -/
def srtC (l : List CkS) : List CkS := l.mergeSort fun x y => !ltOf cmpS y x
theorem srtC_len (l : List CkS) : (srtC l).length = l.length := by simp [srtC]
theorem cmpLaysC (blk off size : Nat) (w : World) : CmpLays Try.prog 82 #[] encs 33 cmpS blk off size w := fun m os dk hs x y => by
  refine (checkpoints_any x.c y.c x.ok y.ok _).mono fun e w' h => ?_
  obtain ⟨rfl, hl⟩ := h
  exact ⟨by rw [cmpCk_eq]; rfl, hl⟩
theorem cps_enters (args : Array Value) (w : World) : (callFunc 82 args).run Try.prog w = .ok (.enter 82 args) w := enters_of Try.func82 (by kernel_rfl) rfl args w
/-- slices.SortFunc of a row of the call's own -/
theorem sortFunc_any (base : Nat) (v : Value) (ss : List CkS) (hn : ss.length ≤ 65535) (w : World) (hb : base ≤ w.heap.size) (h : w.ownsRow base 35 33 v ss.length (cks ss)) :
    Calls Try.prog 106 #[v, .func (.func 82) #[] #[]] w fun e w' => e = .returned (.tuple #[]) ∧ w'.ownsRow base 35 33 v ss.length (cks (srtC ss)) ∧ Below base w w' := by
  rcases h.2 with ⟨rfl, hz⟩ | ⟨gb, cap, cur, rfl, hbase, hgb, r1, r2, r3, r4⟩
  · have hss : ss = [] := List.eq_nil_of_length_eq_zero hz
    subst hss
    refine (AnyF.slices_SortFunc_none { Try.sortC with } none 0 (.func (.func 82) #[] #[]) w).mono fun e w' h' => ?_
    obtain ⟨rfl, rfl⟩ := h'
    exact ⟨rfl, by simpa [srtC] using h, Below.refl _ _⟩
  · have hH := holdsK_of_block (enc := encs) encs_len (d := ss) hgb r4
    have hgl : gb < w.heap.size := (Array.getElem?_eq_some_iff.1 hgb).1
    have hc := AnyQ.slices_SortFunc_total Try.sortC 33 Try.isAgg35 Try.sizeOf35 encs encs_len (fun x => ckc_one x.c) cmpS (swo_of flC 33 flC_len) 82 #[] gb 0 cap ss.toArray w cps_enters (cmpLaysC gb 0 _ w) hH hgl (by simp; omega) (tot_of flC 33 flC_len flC_inj)
    rw [show ss.toArray.size = ss.length by simp] at hc
    refine hc.mono fun e w' h' => ?_
    obtain ⟨rfl, n, os, rfl⟩ := h'
    exact ⟨rfl, ownsRow_sortedK encs_len (srtC_len ss) hbase hgb r1 r2 r3, (Below.refl _ _).grown (grownBy_sortedK _) hb (fun k e => by cases e; exact hbase)⟩
set_option maxRecDepth 100000 in
set_option maxHeartbeats 1000000 in
theorem collect_in (F : Fence) (n : Nat) (hf : F.fn 105) (hfa : F.fn 125) (hro : F.round = none) (hn : 3 ≤ n) (g : Nat) (lb : Array Value) (hFg : F.fn g) (eg : ∀ args w, (callFunc g args).run Try.prog w = .ok (.enter g args) w)
    (S Sp : List CkS → Prop) (N : Nat) (hN : N ≤ 65535) (w : World) (hseq : ∀ w', Below w.heap.size w w' → SeqStopsK F (n - 1 - 1) Try.prog g lb (fun x : CkS => #[encC x]) KeepsWalks S Sp N w') :
    CallsIn F n Try.prog 105 #[.func (.func g) #[] lb] w fun e w' => ∃ (v : Value) (ss : List CkS), e = .returned v ∧ S ss ∧ w'.ownsRow w.heap.size 35 33 v ss.length (cks ss) ∧ Below w.heap.size w w' := by
  have h1 : 1 ≤ n := by omega
  have HA := bx (appendSeq_in F (n - 1) hfa hro (by omega) g lb hFg eg S Sp N hN w hseq)
  clear hseq
  refine callsIn_of_wp Try.func105 rfl hf ?_ hro
  simp only [Try.ntmps105, List.size_toArray, List.length_cons, List.length_nil, Nat.reduceAdd, Nat.reduceSub, Array.replicate_succ, Array.replicate_zero, List.push_toArray, List.append_toArray, List.nil_append, List.cons_append]
  gi_wp2_with (gi_at_call 125; refine HA.out.mono ?_; rintro e w' ⟨v, ss, rfl, hS, hrow, hb⟩)
  go_ret
  exact ⟨v, ss, rfl, hS, hrow, hb⟩
theorem stopsK_bounded {α : Type} {F : Fence} {n : Nat} {P : Program} {g : Nat} {lb : Array Value} {enc : α → Array Value} {S Sp : List α → Prop} {N : Nat} {w : World}
    (h : SeqStopsK F n P g lb enc KeepsWalks S Sp N w) : SeqStopsK F n P g lb enc KeepsWalks (fun xs => S xs ∧ xs.length ≤ N) Sp N w := fun l J Jx W hW hJ hJx hY h0 => by
  refine (h l (fun xs W' => J xs W' ∧ xs.length ≤ N) Jx W hW (fun s A B row hs hg hr => ⟨hJ s A B row hs.1 hg hr, hs.2⟩) hJx
    (fun pre x W1 hj hl => (hY pre x W1 hj.1 hl).mono (fun e w' hr => ?_)) ⟨h0, Nat.zero_le _⟩).mono ?_
  · rcases hr with ⟨h1, h2, h3⟩ | hr
    · exact .inl ⟨h1, ⟨h2, by simp; omega⟩, h3⟩
    · exact .inr hr
  · rintro e W' ⟨hv, ⟨xs, hS, hJ', hlen⟩ | hp⟩
    · exact ⟨hv, .inl ⟨xs, ⟨hS, hlen⟩, hJ'⟩⟩
    · exact ⟨hv, .inr hp⟩
/-- slices.SortedFunc(maps.Keys(m), order.Checkpoints), from the iterator on -/
theorem sortedKeys_any (Bm b nn : Nat) (D0 : DataW Value) (hsz : Maps.size D0 ≤ 65535) (w : World) (hBm : Bm < w.heap.size) (hm : w.cell? ⟨Bm, 0, none⟩ = some (.map (some b))) (hown : w.ownsMap Try.prog 35 heldR b nn D0) :
    Calls Try.prog 80 #[.func (.func 107) #[] #[.pointer (some ⟨Bm, 0, none⟩)], .func (.func 82) #[] #[]] w
      fun e w' => ∃ (v : Value) (ss : List CkS), e = .returned v ∧ KeysOfMap D0 ss ∧ w'.ownsRow w.heap.size 35 33 v ss.length (cks (srtC ss)) ∧ Below w.heap.size w w' := by
  have eg : ∀ args w, (callFunc 107 args).run Try.prog w = .ok (.enter 107 args) w := enters_of Try.func107 (by kernel_rfl) rfl
  have HC := bx (callsIn_wide.1 (collect_in Fence.wide 3 trivial trivial rfl (Nat.le_refl _) _ _ trivial eg (fun ss => KeysOfMap D0 ss ∧ ss.length ≤ Maps.size D0) (fun _ => True) (Maps.size D0) hsz w (fun w' hb => by
    have hbl := hown.lt
    refine stopsK_bounded (keys_stops Fence.wide _ trivial rfl (by decide) Bm b nn D0 w' (Nat.lt_of_lt_of_le hBm hb.size) ((hb.cell (p := ⟨Bm, 0, none⟩) hBm).trans hm) ?_)
    obtain ⟨es, clock, hbb, Ft, hs, hD⟩ := hown
    exact ⟨es, clock, (hb.block b hbl).trans hbb, Ft, hs, hD⟩)))
  clear hown hm
  go_enter Try.func80, Try.ntmps80
  go_wp2_with (go_at_call 105; refine HC.out.mono ?_; rintro e w1 ⟨v, ss, rfl, ⟨hS, hlen⟩, hrow, hb⟩)
  have HF := bx (sortFunc_any w.heap.size v ss (by omega) w1 hb.size hrow)
  clear hrow
  go_wp2_with (go_at_call 106; refine HF.out.mono ?_; rintro e w2 ⟨rfl, hrow2, hb2⟩)
  go_ret
  exact ⟨v, ss, rfl, hS, hrow2, hb.trans hb2⟩
end Go.Proofs.Ytekikfdlnkcenaa
