/- The keys of a map of tables, by the library's iterator. -/
import Derived.Test.YtekikfdlnkcenaaBkR
import Derived.Test.YtekikfdlnkcenaaInL
namespace Go.Proofs.Ytekikfdlnkcenaa
open Go.RowKit Go.Maps Go.Sort Go.Shelf
/-- checkpoints that may be keys -/
structure CkS where
  c : Ck
  ok : CkOk c
theorem CkS.ext' {x y : CkS} (h : x.c = y.c) : x = y := by cases x; cases y; cases h; rfl
instance : DecidableEq CkS := fun x y => if h : x.c = y.c then .isTrue (CkS.ext' h) else .isFalse (fun e => h (e ▸ rfl))
def encC (x : CkS) : Value := .agg (ckc x.c).toArray
theorem encC_inj {x y : CkS} (h : encC x = encC y) : x = y := CkS.ext' (ckc_inj (congrArg Array.toList (Value.agg.inj h)))
theorem mapM_inv {α β : Type} {f : α → Option β} : ∀ (l : List α) {r : List β}, l.mapM f = some r → ∀ x ∈ l, ∃ y, f x = some y
  | [], _, _, x, hx => by simp at hx
  | a :: l, r, h, x, hx => by
    rw [List.mapM_cons] at h
    cases ha : f a with
    | none => rw [ha] at h; cases h
    | some y =>
      rw [ha] at h
      cases hl : l.mapM f with
      | none => rw [hl] at h; cases h
      | some ys =>
        rcases List.mem_cons.1 hx with rfl | hx
        · exact ⟨y, ha⟩
        · exact mapM_inv l hl x hx
theorem wf_u64_inv {n : Int} (h : (Lit.int .u64 n).wf = true) : 0 ≤ n ∧ n < 18446744073709551616 := by
  simp only [Lit.wf, Bool.and_eq_true, decide_eq_true_eq] at h
  exact ⟨h.1, Int.lt_add_one_of_le h.2⟩
theorem wf_u8_inv {n : Int} (h : (Lit.int .u8 n).wf = true) : 0 ≤ n ∧ n < 256 := by
  simp only [Lit.wf, Bool.and_eq_true, decide_eq_true_eq] at h
  exact ⟨h.1, Int.lt_add_one_of_le h.2⟩
theorem keyLits_u64_inv {d : Nat} {cs : List Value} {ls : List Lit} (h : Try.prog.keyLits (d + 1) 30 cs = some ls) : ∃ n, cs = [.int .u64 n] ∧ (Lit.int .u64 n).wf = true := by
  unfold Program.keyLits at h
  simp only [Try.underlying30] at h
  match cs, h with
  | [.int q n], h =>
    simp only at h
    split at h
    · rename_i hc
      obtain ⟨rfl, hw⟩ := hc
      exact ⟨n, rfl, hw⟩
    · cases h
theorem keyLits_u8_inv {d : Nat} {cs : List Value} {ls : List Lit} (h : Try.prog.keyLits (d + 1) 5 cs = some ls) : ∃ n, cs = [.int .u8 n] ∧ (Lit.int .u8 n).wf = true := by
  unfold Program.keyLits at h
  simp only [Try.underlying5] at h
  match cs, h with
  | [.int q n], h =>
    simp only at h
    split at h
    · rename_i hc
      obtain ⟨rfl, hw⟩ := hc
      exact ⟨n, rfl, hw⟩
    · cases h
theorem u8s_of : ∀ {cs : List Value}, (∀ i, i < cs.length → ∃ n, (cs.drop i).take 1 = [Value.int .u8 n] ∧ 0 ≤ n ∧ n < 256) → ∃ l, cs = ints .u8 l ∧ Bt l
  | [], _ => ⟨[], rfl, fun x hx => by simp at hx⟩
  | c :: cs, h => by
    obtain ⟨n, h1, h2, h3⟩ := h 0 (by simp)
    obtain ⟨l, h4, h5⟩ := u8s_of (cs := cs) (fun i hi => by
      have := h (i + 1) (by simp; omega)
      simpa using this)
    have e : c = .int .u8 n := by simpa using h1
    refine ⟨n :: l, by rw [e, h4]; rfl, fun x hx => ?_⟩
    rcases List.mem_cons.1 hx with rfl | hx
    · exact ⟨h2, h3⟩
    · exact h5 x hx
theorem keyLits_root_inv {d : Nat} {cs : List Value} {ls : List Lit} (h : Try.prog.keyLits (d + 2) 33 cs = some ls) : ∃ r, cs = ints .u8 r ∧ r.length = 32 ∧ Bt r := by
  unfold Program.keyLits at h
  simp only [Try.underlying33] at h
  split at h
  · rename_i hl
    rw [cellsOf_root] at hl
    cases hm : (List.range 32).mapM (fun i => Try.prog.keyLits (d + 1) 5 ((cs.drop (i * Try.prog.cellsOf 5)).take (Try.prog.cellsOf 5))) with
    | none => rw [hm] at h; cases h
    | some r =>
      obtain ⟨l, e, hb⟩ := u8s_of (cs := cs) (fun i hi => by
        obtain ⟨y, hy⟩ := mapM_inv _ hm i (List.mem_range.2 (by omega))
        rw [cellsOf_u8, Nat.mul_one] at hy
        obtain ⟨n, h1, h2⟩ := keyLits_u8_inv hy
        exact ⟨n, h1, wf_u8_inv h2⟩)
      exact ⟨l, e, by rw [← hl, e]; simp [ints], hb⟩
  · cases h
/-- whatever reads as a key is a checkpoint -/
theorem keyOf_ck_inv {key : Value} {kl : Lit} (h : keyOf Try.prog 35 key = some kl) : ∃ x : CkS, key = encC x ∧ kl = kc x.c := by
  obtain ⟨m, hm⟩ := types_size2
  have h' := h
  unfold keyOf at h
  simp only [Try.underlying35] at h
  split at h
  · rename_i hcond
    have hf : key.formed Try.prog 35 = true := by simp only [Bool.and_eq_true] at hcond; exact hcond.2
    have hagg : ∃ cs, key = .agg cs := by
      unfold Value.formed at hf
      simp only [Try.underlying35] at hf
      cases key <;> first | exact ⟨_, rfl⟩ | (simp at hf; done)
    obtain ⟨cs, rfl⟩ := hagg
    rw [hm] at h
    unfold Program.keyLits at h
    simp only [Try.underlying35, Value.cells] at h
    have hsz : cs.toList.length = 33 := by
      unfold Value.formed at hf
      simp only [Try.underlying35] at hf
      rw [cells_ck33] at hf
      simpa using hf
    split at h
    rotate_left
    · cases h
    simp only [List.mapM_cons, List.mapM_nil, cellsOf_u64, cellsOf_root] at h
    cases h0 : Try.prog.keyLits (m + 2) 30 ((cs.toList.drop 0).take 1) with
    | none => rw [h0] at h; cases h
    | some l0 =>
      rw [h0] at h
      cases h1 : Try.prog.keyLits (m + 2) 33 ((cs.toList.drop 1).take 32) with
      | none => rw [h1] at h; cases h
      | some l1 =>
        obtain ⟨e, e1, e2⟩ := keyLits_u64_inv h0
        obtain ⟨r, r1, r2, r3⟩ := keyLits_root_inv h1
        obtain ⟨w1, w2⟩ := wf_u64_inv e2
        have hok : CkOk (e, r) := ⟨w1, w2, r2, r3⟩
        have hcs : cs.toList = ckc (e, r) := by
          have a3 : cs.toList = cs.toList.take 1 ++ cs.toList.drop 1 := (List.take_append_drop _ _).symm
          rw [List.drop_zero] at e1
          rw [List.take_of_length_le (by rw [List.length_drop]; omega)] at r1
          rw [a3, e1, r1]; rfl
        have hk : (Value.agg cs) = encC ⟨(e, r), hok⟩ := by
          unfold encC
          rw [← hcs]
        refine ⟨⟨(e, r), hok⟩, hk, ?_⟩
        have := keyOf_ck hok
        rw [hk] at h'
        unfold encC at h'
        rw [this] at h'
        exact (Option.some.inj h').symm
  · cases h
theorem ckc_one (c : Ck) : ∀ u ∈ ckc c, u.oneCell' = true := fun u hu => by
  simp only [ckc, List.mem_cons] at hu
  rcases hu with rfl | hu
  · rfl
  · exact one_ints _ _ u hu
theorem below_none {w w' : World} (h : Below w.heap.size w w') : w.grownBy w' none := ⟨h.os, h.tape, h.output, h.size, fun k hk _ => h.block k hk⟩
theorem zero_ck (w : World) : (zeroValue 35).run Try.prog w = .ok (.agg (ckc (0, zroot)).toArray) w := by kernel_rfl
/-- no key twice; a key is on the list just where the map has it and it is no longer to come -/
def ColC (D0 : DataW Value) (left : Lit → Bool) (ss : List CkS) : Prop := ss.Nodup ∧ ∀ x : CkS, x ∈ ss ↔ (has D0 (kc x.c) = true ∧ left (kc x.c) = false)
theorem ColC.start (D0 : DataW Value) : ColC D0 (has D0) [] := ⟨List.nodup_nil, fun x => by cases has D0 (kc x.c) <;> simp⟩
theorem kcS_inj {x y : CkS} (h : kc x.c = kc y.c) : x = y := CkS.ext' (kc_inj x.ok y.ok h)
theorem same_kc {x y : CkS} : (kc x.c).sameKey (kc y.c) = decide (x = y) := by
  by_cases h : x = y
  · subst h; rw [decide_eq_true rfl]; exact WideAt.sameKey_self (keyedC.key (keyOf_ck x.ok))
  · rw [decide_eq_false h]; exact sameKey_ne (fun e => h (kcS_inj e))
theorem ColC.step {D0 : DataW Value} {left : Lit → Bool} {ss : List CkS} (h : ColC D0 left ss) {x : CkS} {y : DataW Value} (hlk : left (kc x.c) = true) (hat : ∀ zd, D0.atKey (kc x.c) zd = y) : ColC D0 (fun z => left z && !z.sameKey (kc x.c)) (ss ++ [x]) := by
  have hhas : has D0 (kc x.c) = true := has_true_of_atKey hat
  have hnew : x ∉ ss := fun hx => by have := ((h.2 x).1 hx).2; rw [hlk] at this; cases this
  refine ⟨List.nodup_append.2 ⟨h.1, by simp, fun a ha b hb => by simp at hb; subst hb; exact fun e => hnew (e ▸ ha)⟩, fun y => ?_⟩
  simp only [same_kc]
  by_cases hy : y = x
  · subst hy; simp [hhas]
  · simp [h.2 y, hy]
/-- the keys of a map, each once -/
def KeysOfMap (D0 : DataW Value) (ss : List CkS) : Prop := ss.Nodup ∧ ∀ x : CkS, x ∈ ss ↔ has D0 (kc x.c) = true
set_option maxRecDepth 100000 in
set_option maxHeartbeats 1000000 in
theorem keys1_in (F : Fence) (n : Nat) (hf : F.fn 107) (hro : F.round = none) (hn : 1 ≤ n) (l Bm b nn : Nat) (D0 : DataW Value) (J Jx : List CkS → World → Prop)
    (hY : ∀ pre x W, J pre W → pre.length < Maps.size D0 → YieldAt F (n - 1) Try.prog l #[encC x] W fun e W' =>
      (e = .returned (.bool true) ∧ J (pre ++ [x]) W' ∧ KeepsWalks W W') ∨ (e = .returned (.bool false) ∧ Jx (pre ++ [x]) W'))
    (W : World) (hJ : AbidesFrom W.heap.size J) (hm : W.cell? ⟨Bm, 0, none⟩ = some (.map (some b))) (hown : W.ownsMap Try.prog 35 heldR b nn D0) (h0 : J [] W) :
    CallsIn F n Try.prog 107 #[.func (.yield l) #[] #[], .pointer (some ⟨Bm, 0, none⟩)] W fun e W' => (∃ v, e = .returned v) ∧
      ((∃ ss, KeysOfMap D0 ss ∧ J ss W') ∨ (∃ pre, True ∧ Jx pre W')) := by
  refine callsIn_of_wp Try.func107 rfl hf ?_ hro
  simp only [Try.ntmps107, List.size_toArray, List.length_cons, List.length_nil, Nat.reduceAdd, Nat.reduceSub, Array.replicate_succ, Array.replicate_zero, List.push_toArray, List.append_toArray, List.nil_append, List.cons_append]
  gi_wp2_with (first
    | (gi_at_range; refine wpListIn_range_own _ rfl _ 81 rfl 35 38 keyedC Try.underlying81 _ b nn _ rfl hown ?_; intro w0 hrg0 hg0 hs0))
  go_frame
  gi_loopw [3] (fun _ wr => ∃ (left : Lit → Bool) (cnt : Nat) (ss : List CkS), wr.ranges Try.prog 35 heldR b W.heap.size nn D0 left cnt ∧ ss.length + cnt ≤ Maps.size D0 ∧ ColC D0 left ss ∧ J ss wr)
    (fun _ wr => wr.rangeLeft b W.heap.size)
  case atStart =>
    exact ⟨_, _, [], hrg0, by simp, ColC.start D0, hJ [] W w0 none h0 hg0 (fun r e => by cases e)⟩
  case round =>
    obtain ⟨left, cnt, ss, hrg, hcs, hC, hJs⟩ := hrel
    gi_wp2_with (first
      | (gi_at_next; refine wpListIn_next_ranges _ rfl _ rfl 35 keyedC heldR encC id (fun key kl hk => by obtain ⟨x, hx, _⟩ := keyOf_ck_inv hk; exact ⟨x, hx⟩) (fun v _ _ => ⟨v, rfl⟩) b W.heap.size nn _ _ _ rfl hrg ?_ ?_))
    · -- nothing is left
      intro hc0 hl0
      gi_wp2
      go_end0
      exact ⟨⟨_, rfl⟩, .inl ⟨ss, ⟨hC.1, fun x => by rw [hC.2 x, hl0]; simp⟩, hJs⟩⟩
    · -- an entry has come
      intro x c kl yd yp w2 cnt2 hkey hlk hv hat hrg2 hlt hg2 hs2 hen
      obtain ⟨x', ex, rfl⟩ := keyOf_ck_inv hkey
      obtain rfl : x = x' := encC_inj ex
      have hJ2 : J ss w2 := hJ ss wr w2 (some W.heap.size) hJs hg2 (fun r e => by cases e; exact ⟨Nat.le_refl _, hrg.iter_walk⟩)
      clear hs2
      have XZ := bx (Has.new w2 (ckc (0, zroot)) 35)
      have LZ : Bx ((ckc (0, zroot)).length = (ckc x.c).length) := ⟨by rw [ckc_len x.ok.r]; rfl⟩
      have LC := bx (cells_ck x.ok.r)
      have OC := bx (ckc_one x.c)
      have G0 := bx (fun w3 (hg : (w2.alloc (.cells (ckc (0, zroot)).toArray 35)).grownBy w3 (some w2.heap.size)) => below_none ((ext_alloc w2 (.cells (ckc (0, zroot)).toArray 35)).grown hg (ext_alloc w2 (.cells (ckc (0, zroot)).toArray 35)).size (fun k hk => by cases hk; exact Nat.le_refl _)))
      have HYS := bx (fun w3 (hg : w2.grownBy w3 none) => hY ss x w3 (hJ ss w2 w3 none hJ2 hg (fun r e => by cases e)) (by omega))
      have RG := bx hrg2
      have HC := bx hC
      have HL := bx hlk
      have HAT := bx hat
      have HLT := bx hlt
      have HCS := bx hcs
      have RG0 := bx hrg
      clear hY hJ hJ2 hrg2 hC hlk hat hlt hcs hrg hv hkey hJs hg2 h0 hm
      unfold encC at *
      gi_wp2_with (first
        | (with_reducible refine wpListIn_allocZ rfl 35 (ckc (0, zroot)) zero_ck rfl ?_)
        | ((with_reducible refine wpListIn_storeB rfl 35 _ _ rfl _ (ckc x.c) _ ?_ ?_ XZ.out LZ.out Try.underlying35 LC.out OC.out ?_); rfl; rfl; intro w3 hw hg hz; have X3 := bx hw; have G3 := bx (G0.out w3 hg); obtain ⟨fn, tmps, assign, body, hy, hR⟩ := HYS.out w3 G3.out; clear hw hg hz)
        | ((with_reducible refine wpListIn_loadB rfl 35 _ rfl _ (ckc x.c) ?_ X3.out Try.underlying35 rfl LC.out ?_); rfl))
      refine hR.mono ?_
      rintro e W3 (⟨rfl, hJ3, hk3⟩ | ⟨rfl, hJx3⟩)
      · gi_wp2
        have hrg3 := (RG.out.kept G3.out (by simp) (by simp)).of_walks hk3
        have HC2 := HC.out.step HL.out HAT.out
        go_roundw
        case rel => exact ⟨_, cnt2, ss ++ [x], hrg3, by have := HLT.out; have := HCS.out; simp; omega, HC2, hJ3⟩
        case measure => rw [hrg3.left_eq, RG0.out.left_eq]; exact HLT.out
      · gi_wp2
        refine bodyPost_ret (results_none rfl _ _ _) rfl ?_
        exact ⟨⟨_, rfl⟩, .inr ⟨ss ++ [x], trivial, hJx3⟩⟩
/-- the iterator over the keys of a map -/
theorem keys_stops (F : Fence) (n : Nat) (hf : F.fn 107) (hro : F.round = none) (hn : 1 ≤ n) (Bm b nn : Nat) (D0 : DataW Value) (w : World) (hBm : Bm < w.heap.size)
    (hm : w.cell? ⟨Bm, 0, none⟩ = some (.map (some b))) (hown : w.ownsMap Try.prog 35 heldR b nn D0) :
    SeqStopsK F n Try.prog 107 #[.pointer (some ⟨Bm, 0, none⟩)] (fun x : CkS => #[encC x]) KeepsWalks (KeysOfMap D0) (fun _ => True) (Maps.size D0) w := fun l J Jx W hW hJ _ hY h0 => by
  have hown' : W.ownsMap Try.prog 35 heldR b nn D0 := by
    have hbl := hown.lt
    obtain ⟨es, clock, hb, Ft, hs, hD⟩ := hown
    exact ⟨es, clock, (hW.block b hbl).trans hb, Ft, hs, hD⟩
  exact keys1_in F n hf hro hn l Bm b nn D0 J Jx hY W hJ ((hW.cell (p := ⟨Bm, 0, none⟩) hBm).trans hm) hown' h0
set_option maxHeartbeats 1000000 in
theorem keys_in (F : Fence) (n : Nat) (hf : F.fn 81) (hro : F.round = none) (mb : Option Nat) (w : World) :
    CallsIn F n Try.prog 81 #[.map mb] w fun e w' => e = .returned (.func (.func 107) #[] #[.pointer (some ⟨w.heap.size, 0, none⟩)]) ∧ w' = w.alloc (.cells #[.map mb] 81) := by
  refine callsIn_of_wp Try.func81 rfl hf ?_ hro
  simp only [Try.ntmps81, List.size_toArray, List.length_cons, List.length_nil, Nat.reduceAdd, Nat.reduceSub, Array.replicate_succ, Array.replicate_zero, List.push_toArray, List.append_toArray, List.nil_append, List.cons_append]
  gi_wp2
  go_ret
  exact ⟨rfl, rfl⟩
end Go.Proofs.Ytekikfdlnkcenaa
