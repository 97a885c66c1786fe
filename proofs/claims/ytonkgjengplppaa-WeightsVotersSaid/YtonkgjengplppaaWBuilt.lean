/- A tree, votes for it and balances, built by the laws on weights. -/
import Derived.Test.YtonkgjengplppaaAw13
import Derived.Test.YtonkgjengplppaaVotW
import Derived.Test.YtonkgjengplppaaTreeX
namespace Go.Proofs.Ytonkgjengplppaa
open Go.RowKit
theorem results_ccs {P : Program} {fn : Func} {p q r : Tmp} {t1 t2 : TypeId} {w : World} {g1 g2 : Nat} {c1 c2 : List Value} (h : fn.results = #[.cell p t1, .cell q t2, .tmp r]) (tmps : Array Value)
    (hp : tmps.getD p undef = .pointer (some ⟨g1, 0, none⟩)) (hq : tmps.getD q undef = .pointer (some ⟨g2, 0, none⟩)) (h1 : Has w g1 c1) (h2 : Has w g2 c2)
    {d1 d2 : TypeDesc} (u1 : P.underlying t1 = some d1) (u2 : P.underlying t2 = some d2) (e1 : (match d1 with | .struct _ | .array _ _ => true | _ => false) = true) (e2 : (match d2 with | .struct _ | .array _ _ => true | _ => false) = true)
    (i1 : P.cellsOf t1 = c1.length) (i2 : P.cellsOf t2 = c2.length) :
    (results fn tmps).run P w = .ok (.tuple #[.agg c1.toArray, .agg c2.toArray, tmps.getD r undef]) w := by
  have hp' : tmps[p]?.getD undef = .pointer (some ⟨g1, 0, none⟩) := by simpa using hp
  have hq' : tmps[q]?.getD undef = .pointer (some ⟨g2, 0, none⟩) := by simpa using hq
  simp [results, h, hp', hq', asAddr, run_loadB h1 u1 e1 i1, run_loadB h2 u2 e2 i2]
/-- a tree, votes and balances, in memory -/
structure Blt (w : World) (A : Option Addr) (ns : List Nd) (AL : Option Addr) (vs : List Vt) (AE : Option Addr) (ne : Nat) (G : List Int) (Ab : Option Addr) (bs : List Int) (n : Nat) : Prop where
  pos : 0 < ns.length
  n9 : ns.length ≤ 9
  wf : Wf ns
  n6 : n ≤ 6
  nen : ne ≤ n
  gb : ∀ g ∈ G, 0 ≤ g ∧ g < (n : Int)
  sm : Small bs
  nr : NRow w A ns.length ns
  vr : VRow w AL n vs
  gr : GRow w AE ne G
  ur : URow w Ab n bs
theorem Blt.below {w w' : World} {A : Option Addr} {ns : List Nd} {AL : Option Addr} {vs : List Vt} {AE : Option Addr} {ne : Nat} {G : List Int} {Ab : Option Addr} {bs : List Int} {n : Nat} (h : Blt w A ns AL vs AE ne G Ab bs n) (hb : Below w.heap.size w w') : Blt w' A ns AL vs AE ne G Ab bs n :=
  ⟨h.pos, h.n9, h.wf, h.n6, h.nen, h.gb, h.sm, h.nr.below hb, h.vr.below hb, h.gr.below hb, h.ur.below hb⟩
theorem Has.inj {w : World} {g : Nat} {a b : List Value} (h1 : Has w g a) (h2 : Has w g b) : a = b := by
  obtain ⟨t, h1⟩ := h1
  obtain ⟨t', h2⟩ := h2
  rw [h1] at h2
  injection h2 with h2
  injection h2 with h2
  exact congrArg Array.toList h2
theorem far {w w' : World} {A : Option Addr} {n : Nat} {l : List Value} {g : Nat} {cs : List Value} (h : 0 < n → ∃ g post, A = some ⟨g, 0, none⟩ ∧ Has w g (l ++ post)) (hx : Has w g cs) (hg : w.grownBy w' (some g)) (hne : 0 < n → ∀ post, l ++ post ≠ cs) :
    0 < n → ∃ g post, A = some ⟨g, 0, none⟩ ∧ Has w' g (l ++ post) := fun hn => by
  obtain ⟨g', post, e, h'⟩ := h hn
  refine ⟨g', post, e, h'.grown hg (ne_som fun e2 => ?_)⟩
  subst e2
  exact hne hn post (h'.inj hx)
theorem Blt.grown {w w' : World} {A : Option Addr} {ns : List Nd} {AL : Option Addr} {vs : List Vt} {AE : Option Addr} {ne : Nat} {G : List Int} {Ab : Option Addr} {bs : List Int} {n : Nat} (h : Blt w A ns AL vs AE ne G Ab bs n)
    {g : Nat} {X : Option Addr} {p q : Nat} {rest : List Value} (hx : Has w g (.slice X p q :: rest)) (hr : rest.length ≤ 20) (hg : w.grownBy w' (some g)) : Blt w' A ns AL vs AE ne G Ab bs n := by
  refine ⟨h.pos, h.n9, h.wf, h.n6, h.nen, h.gb, h.sm, ⟨h.nr.1, h.nr.2.1, far h.nr.2.2 hx hg ?_⟩, ⟨h.vr.1, h.vr.2.1, far h.vr.2.2 hx hg ?_⟩, ⟨h.gr.1, far h.gr.2 hx hg ?_⟩, ⟨h.ur.1, far h.ur.2 hx hg ?_⟩⟩
  · intro hn post e
    have hl := congrArg List.length e
    obtain ⟨x, xs, rfl⟩ := List.exists_cons_of_length_pos hn
    have := nc_len (h.nr.2.1 x (by simp))
    simp only [List.flatMap_cons, List.length_append, List.length_cons, this] at hl
    omega
  · intro hn post e
    have hl := congrArg List.length e
    obtain ⟨x, xs, rfl⟩ := List.exists_cons_of_length_pos (by rw [h.vr.1]; exact hn)
    have := vc_len (h.vr.2.1 x (by simp)).1
    simp only [List.flatMap_cons, List.length_append, List.length_cons, this] at hl
    omega
  · intro hn post e
    obtain ⟨x, xs, rfl⟩ := List.exists_cons_of_length_pos (by rw [h.gr.1]; exact hn)
    simp [ints] at e
  · intro hn post e
    obtain ⟨x, xs, rfl⟩ := List.exists_cons_of_length_pos (by rw [h.ur.1]; exact hn)
    simp [ints] at e
/-- what Built answers -/
def BltP (w : World) (e : Ending) (w' : World) : Prop :=
  (∃ (A : Option Addr) (c : Nat) (ns : List Nd) (AL : Option Addr) (cl : Nat) (vs : List Vt) (AE : Option Addr) (ne ce : Nat) (G : List Int) (Ab : Option Addr) (cb : Nat) (bs : List Int) (n : Nat),
    e = .returned (.tuple #[.agg #[.slice A ns.length c], .agg #[.slice AL n cl, .slice AE ne ce], .slice Ab n cb]) ∧ Blt w' A ns AL vs AE ne G Ab bs n) ∧ Below w.heap.size w w'
set_option maxRecDepth 20000 in
set_option maxHeartbeats 1000000 in
theorem built_any (a0 a1 : Option Addr) (n0 c0 n1 c1 : Nat) (l0 l1 : List Int) (w : World) (hr0 : Row w w.heap.size 1 a0 n0 (ints .i64 l0)) (hn0 : n0 ≤ maxLen) (hr1 : Row w w.heap.size 1 a1 n1 (ints .i64 l1)) (hn1 : n1 ≤ maxLen) :
    Calls Try.prog 15 #[.slice a0 n0 c0, .slice a1 n1 c1] w (BltP w) := by
  have HT := bx (fun w' (hb : Below w.heap.size w w') => tree_any a0 n0 c0 l0 w' ((hr0.below hb).more hb.size) hn0)
  have HAT := bx (fun w' (hb : Below w.heap.size w w') => at_any w.heap.size a1 n1 c1 l1 0 (by omega) w' (hr1.below hb) hn1 hb.size)
  have HN1 := bx (fun (n : Nat) (hn : n ≤ 65535) w' (hb : Below w.heap.size w w') => numbers_any w.heap.size a1 n1 c1 l1 n hn w' (hr1.below hb) hn1 hb.size)
  have HV := bx (fun (n : Nat) (hn : n ≤ 100) w' (hb : Below w.heap.size w w') A0 n0 c0 ns h0 hp h9 hbt => votes_any w.heap.size A0 n0 c0 ns a1 n1 c1 l1 n hn w' h0 hp h9 hbt (hr1.below hb) hn1 hb.size)
  clear hr0 hr1 hn0 hn1
  go_enter Try.func15, Try.ntmps15
  go_wp2_with fail
  have T4 := bx ((Has.new w [.slice none 0 0] 25).alloc (.cells #[.slice none 0 0, .slice none 0 0] 28))
  have T5 : Bx (Has ((w.alloc (.cells #[.slice none 0 0] 25)).alloc (.cells #[.slice none 0 0, .slice none 0 0] 28)) (w.heap.size + 1) [.slice none 0 0, .slice none 0 0]) := ⟨has_newAt (alloc_size w _) [.slice none 0 0, .slice none 0 0] _⟩
  have BA := bx ((ext_alloc w (.cells #[.slice none 0 0] 25)).alloc (by simp) (.cells #[.slice none 0 0, .slice none 0 0] 28))
  generalize (w.alloc (.cells #[.slice none 0 0] 25)).alloc (.cells #[.slice none 0 0, .slice none 0 0] 28) = wA at *
  refine (HT.out _ BA.out).mono ?_; rintro e w1 ⟨⟨A, c, ns, h0, h9, wf, rfl, hnr⟩, hb⟩
  have B1 := bx (BA.out.trans (hb.mono BA.out.size))
  have P4 := bx (T4.out.below hb T4.out.lt)
  have P5 := bx (T5.out.below hb T5.out.lt)
  have NR := bx hnr
  have WF := bx wf
  have HN0 := bx h0
  have HN9 := bx h9
  clear hb hnr wf h0 h9 T4 T5 BA
  have EX := bx (ext_alloc w1 (.cells #[.slice A ns.length c] 25))
  have X2 : Bx (Has (w1.alloc (.cells #[.slice A ns.length c] 25)) w1.heap.size [.slice A ns.length c]) := ⟨Has.new w1 _ _⟩
  have N2 := bx (NR.out.below EX.out)
  have B2 := bx (B1.out.trans (EX.out.mono B1.out.size))
  have Q4 := bx (P4.out.below EX.out P4.out.lt)
  have Q5 := bx (P5.out.below EX.out P5.out.lt)
  clear EX NR B1 P4 P5
  go_wp2_with fail
  generalize w1.alloc (.cells #[.slice A ns.length c] 25) = w2 at *
  refine (HAT.out _ B2.out).mono ?_; rintro e w3 ⟨⟨q, hq, rfl⟩, hb⟩
  have X3 := bx (X2.out.below hb X2.out.lt)
  have N3 := bx (N2.out.below hb)
  have B3 := bx (B2.out.trans (hb.mono B2.out.size))
  have R4 := bx (Q4.out.below hb Q4.out.lt)
  have R5 := bx (Q5.out.below hb Q5.out.lt)
  clear hb X2 N2 B2 Q4 Q5 HAT HT
  obtain ⟨n, hn6, hq7⟩ : ∃ n : Nat, n ≤ 6 ∧ (q : Int) % 7 = (n : Int) := ⟨q % 7, by omega, by omega⟩
  have HN6 := bx hn6
  have X4 : Bx (Has w3.drew w1.heap.size [.slice A ns.length c]) := ⟨X3.out⟩
  have N4 : Bx (NRow w3.drew A ns.length ns) := ⟨N3.out⟩
  have B4 : Bx (Below w.heap.size w w3.drew) := ⟨B3.out.drew⟩
  have S4 : Bx (Has w3.drew w.heap.size [.slice none 0 0]) := ⟨R4.out⟩
  have S5 : Bx (Has w3.drew (w.heap.size + 1) [.slice none 0 0, .slice none 0 0]) := ⟨R5.out⟩
  have CT := bx (Has.cls X4.out)
  clear X3 N3 B3 R4 R5
  go_wp2_with fail
  rw [hq7]
  clear hq7 hq
  refine wp_region_mix3 8 (.steps [(0, 0), (0, 1), (0, 2), (0, 3), (0, 5), (0, 6), (2, 4), (2, 7)] .leaf) (by kernel_rfl) (by kernel_rfl) ?_
  simp only [MixT, MT.steps, stepAt, List.getD_cons_zero, List.getD_cons_succ, List.drop_succ_cons, List.drop_zero]
  repeat (first | (with_reducible refine wpQuiet_nil ?_) | (first | go_big_quiet_skip | (go_big_quiet_want; first | ((with_reducible refine quiet_loadC 25 _ rfl _ [.slice A ns.length c] ?_ CT.out Try.underlying25 rfl ?_ ?_); rfl; exact cells_tree _; go_big_quiet_on; (simp only [Act.put, List.setIfInBounds_toArray, List.set_cons_succ, List.set_cons_zero])) | (go_big_quiet_op; first | go_big_quiet_on | ((with_reducible refine ⟨_, fun _ _ => rfl, ?_⟩); go_big_quiet_on)))))
  generalize w3.drew = w4 at *
  refine mix_call (HV.out n (by omega) _ B4.out A ns.length c ns N4.out HN0.out (by have := HN9.out; omega) WF.out.bt) Try.func38 rfl rfl _ _ rfl rfl rfl ?_
  rintro e w5 ⟨AL, cl, vs, AE, ne, ce, G, hne, hgb, rfl, hv, hg, hb⟩
  refine ⟨_, rfl, hb, ?_⟩
  have B5 := bx (B4.out.trans (hb.mono B4.out.size))
  have N5 := bx (N4.out.below hb)
  have V5 := bx hv
  have G5 := bx hg
  have Q4 := bx (S4.out.below hb S4.out.lt)
  have Q5 := bx (S5.out.below hb S5.out.lt)
  have NE := bx hne
  have GB := bx hgb
  clear hb hv hg hne hgb N4 B4 S4 S5 CT X4
  refine mix_call (HN1.out n (by omega) _ B5.out) Try.func28 rfl rfl _ _ rfl rfl rfl ?_
  rintro e w6 ⟨Ab, cb, bs, hxl, hxs, rfl, hxo, hb⟩
  refine ⟨_, rfl, hb, ?_⟩
  have BL : Bx (Blt w6 A ns AL vs AE ne G Ab bs n) := ⟨HN0.out, HN9.out, WF.out, HN6.out, NE.out, GB.out, hxs, N5.out.below hb, V5.out.below hb, G5.out.below hb, URow.own hxl hxo⟩
  have B6 := bx (B5.out.trans (hb.mono B5.out.size))
  have R4 := bx (Q4.out.below hb Q4.out.lt)
  have R5 := bx (Q5.out.below hb Q5.out.lt)
  clear hb hxl hxs hxo N5 V5 G5 B5 Q4 Q5 HN0 HN9 WF NE GB
  simp only [Act.put, List.setIfInBounds_toArray, List.set_cons_succ, List.set_cons_zero]
  go_wp2_with (first | ((with_reducible refine wpList_storeB rfl 25 _ _ rfl _ [.slice A ns.length c] _ ?_ ?_ R4.out rfl Try.underlying25 ?_ (slice_one _ _ _) ?_); rfl; rfl; exact cells_tree _; intro w7 hw hg hz; have R47 := bx hw; have BL7 := bx (BL.out.grown R4.out (by simp) hg); have R57 := bx (R5.out.grown hg (ne_som (Nat.succ_ne_self _))); have B7 := bx (B6.out.grown hg B6.out.size (fun k hk => by cases hk; exact Nat.le_refl _)); clear hw hg hz) | ((with_reducible refine wpList_storeB rfl 28 _ _ rfl _ [.slice AL n cl, .slice AE ne ce] _ ?_ ?_ R57.out rfl Try.underlying28 ?_ (two_one _ _ _ _ _ _) ?_); rfl; rfl; exact cells_votes _ _; intro w8 hw hg hz; have R58 := bx hw; have BL8 := bx (BL7.out.grown R57.out (by simp) hg); have R48 := bx (R47.out.grown hg (ne_som (Nat.succ_ne_self _).symm)); have B8 := bx (B7.out.grown hg B7.out.size (fun k hk => by cases hk; exact Nat.le_succ _)); clear hw hg hz))
  refine NoPanic.normal ?_
  go_wp2_with fail
  exact bodyPost_ret (results_ccs (by rfl) _ (by rfl) (by rfl) R48.out R58.out Try.underlying25 Try.underlying28 rfl rfl (cells_tree _) (cells_votes _ _)) rfl ⟨⟨A, c, ns, AL, cl, vs, AE, ne, ce, G, Ab, cb, bs, n, rfl, BL8.out⟩, B8.out⟩
end Go.Proofs.Ytonkgjengplppaa
