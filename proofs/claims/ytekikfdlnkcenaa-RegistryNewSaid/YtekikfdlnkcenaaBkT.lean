/- The tables of a book, in order. -/
import Derived.Test.YtekikfdlnkcenaaTbR
import Derived.Test.YtekikfdlnkcenaaSrtC
namespace Go.Proofs.Ytekikfdlnkcenaa
open Go.RowKit Go.Maps Go.Sort Go.Shelf
def oldC (c : Cp) : Ck := ((c.e.n : Int), c.r.l)
theorem oldC_ok (c : Cp) : CkOk (oldC c) := ⟨Int.natCast_nonneg _, by have := c.e.lt; simp only [oldC]; omega, c.r.len, c.r.bt⟩
theorem oldC_inj {a b : Cp} (h : oldC a = oldC b) : a = b := by
  obtain ⟨e, r⟩ := a
  obtain ⟨e', r'⟩ := b
  have h1 := (Prod.mk.inj h).1
  have h2 := (Prod.mk.inj h).2
  simp only at h1 h2
  rw [U.ext' (Int.ofNat.inj h1), Rt.ext' h2]
def toS (c : Cp) : CkS := ⟨oldC c, oldC_ok c⟩
theorem toS_inj {a b : Cp} (h : toS a = toS b) : a = b := oldC_inj (congrArg CkS.c h)
def oldT (t : Tbl) : Tb := (oldC t.c, t.b.map fun x => (x.n : Int))
theorem toS_cp (c : Cp) : ckc (toS c).c = fl (cpP c) := rfl
theorem cmpS_cp (a b : Cp) : cmpS (toS a) (toS b) = cmpCp a b := by
  show (if (a.e.n : Int) < (b.e.n : Int) then (-1 : Int) else if (b.e.n : Int) < (a.e.n : Int) then 1 else cmpI a.r.l b.r.l) = _
  simp only [Int.ofNat_lt]
  rfl
/-- ascending, each checkpoint once -/
def Asc (T : List Tbl) : Prop := T.Pairwise fun a b => cmpCp a.c b.c < 0
theorem CkS.of (x : CkS) : ∃ c : Cp, toS c = x := by
  obtain ⟨⟨e, r⟩, ok⟩ := x
  refine ⟨⟨⟨e.toNat, by have := ok.e0; have := ok.e1; simp only at *; omega⟩, ⟨r, ok.r, ok.b⟩⟩, CkS.ext' ?_⟩
  have := ok.e0
  simp only [toS, oldC]
  exact Prod.ext (Int.toNat_of_nonneg this) rfl
theorem keys_asc {D : DataW Value} {T : List Tbl} {ss : List CkS} (h : KeysOfMap D ss) (hh : ∀ kl, has D kl = true ↔ ∃ t ∈ T.map oldT, kl = kc t.1) (hs : Asc T) : srtC ss = T.map fun t => toS t.c := by
  have hlt : ∀ x y : CkS, ltOf cmpS x y = true ↔ cmpS x y < 0 := fun x y => by simp [ltOf]
  have swo : SWO (ltOf cmpS) := swo_of flC 33 flC_len
  have tot : ∀ x y : CkS, ltOf cmpS x y = false → ltOf cmpS y x = false → x = y := tot_of flC 33 flC_len flC_inj
  have hmem : ∀ x, x ∈ ss ↔ x ∈ T.map fun t => toS t.c := fun x => by
    obtain ⟨c, rfl⟩ := x.of
    rw [h.2, hh]
    constructor
    · rintro ⟨t, ht, e⟩
      obtain ⟨t', ht', rfl⟩ := List.mem_map.1 ht
      have := kc_inj (oldC_ok c) (oldC_ok t'.c) e
      exact List.mem_map.2 ⟨t', ht', by rw [oldC_inj this]⟩
    · rintro hx
      obtain ⟨t, ht, e⟩ := List.mem_map.1 hx
      exact ⟨oldT t, List.mem_map.2 ⟨t, ht, rfl⟩, by rw [← e]; rfl⟩
  have hpw : (T.map fun t => toS t.c).Pairwise fun x y => cmpS x y < 0 := by
    rw [List.pairwise_map]
    exact hs.imp fun {a b} h => by rw [cmpS_cp]; exact h
  have hself : ∀ x : CkS, ¬ cmpS x x < 0 := fun x => by unfold cmpS; rw [cmpI_self]; omega
  have hnd : (T.map fun t => toS t.c).Nodup := List.Pairwise.imp (S := fun a b => a ≠ b) (fun {a b} h (e : a = b) => hself b (by rw [e] at h; exact h)) hpw
  have hp : ss.Perm (T.map fun t => toS t.c) := (List.perm_ext_iff_of_nodup h.1 hnd).2 hmem
  unfold srtC
  refine List.Perm.eq_of_pairwise (le := fun x y : CkS => ¬ cmpS y x < 0) ?_ ?_ ?_ ((List.mergeSort_perm ss _).trans hp)
  · intro a b _ _ h1 h2
    refine tot a b ?_ ?_
    · cases e : ltOf cmpS a b with
      | false => rfl
      | true => exact absurd ((hlt _ _).1 e) h2
    · cases e : ltOf cmpS b a with
      | false => rfl
      | true => exact absurd ((hlt _ _).1 e) h1
  · have := List.pairwise_mergeSort (le := fun x y => !ltOf cmpS y x) (fun a b c h1 h2 => by
      simp only [Bool.not_eq_true'] at *
      exact swo.ntrans _ _ _ h2 h1) (fun a b => by
      simp only [Bool.or_eq_true, Bool.not_eq_true']
      cases e : ltOf cmpS b a with
      | false => exact .inl rfl
      | true =>
        refine .inr ?_
        cases e2 : ltOf cmpS a b with
        | false => rfl
        | true => have := swo.trans _ _ _ e e2; rw [swo.irrefl] at this; cases this) ss
    exact this.imp fun {a b} h h2 => by have h3 := (hlt b a).2 h2; simp [h3] at h
  · exact hpw.imp fun {a b} h h2 => by
      have := cmpI_flip (flC a) (flC b)
      unfold cmpS at h h2
      omega
theorem ztCk : ZeroT Try.prog 35 (cpP cp0) [1, 32] := ⟨fun w => by kernel_rfl, cpP_len _⟩
theorem cks_keys (T : List Tbl) : cks (T.map fun t => toS t.c) = T.flatMap fun t => fl (cpP t.c) := by
  unfold cks
  rw [List.flatMap_map]; rfl
theorem URow.usr {w : World} {A : Option Addr} {b : List U} (h : URow w A (b.map fun x => (x.n : Int)).length (b.map fun x => (x.n : Int))) : Row w w.heap.size 1 A b.length (us b) := by
  have := h.row
  rw [List.length_map] at this
  exact us_ints b ▸ this
set_option maxRecDepth 20000 in
set_option maxHeartbeats 1000000 in
theorem tables_any {P : Nat → Prop} (Γ : Gam) (B M : Nat) (v lim : Int) (T : List Tbl) (hT : T.length ≤ 65535) (hb : ∀ t ∈ T, t.b.length ≤ 65535) (hs : Asc T) (w : World) (ok : Ok Γ w) (h : Bk P w B M v lim (T.map oldT)) :
    Calls Try.prog 43 #[.pointer (some ⟨B, 0, none⟩)] w (TsP Γ w T) := by
  have M0 := bx (MM.start ok)
  have HB := bx h
  have HBL := bx hb
  have HTL := bx hT
  have HS := bx hs
  clear h hb hT hs ok
  have hcm : w.cell? ⟨B, 2, none⟩ = some (.map (some M)) := HB.out.b.cell 2
  obtain ⟨okk, D, ho, htd, hsz, hh, _⟩ := HB.out.m
  have HKEY := bx (fun ss h => keys_asc (D := D) (T := T) (ss := ss) h hh HS.out)
  have KI := bx (fun w1 => callsIn_wide.1 (keys_in Fence.wide 3 trivial rfl (some M) w1))
  have SK := bx (sortedKeys_any w.heap.size M (T.map oldT).length D (by rw [hsz, List.length_map]; exact HTL.out) (w.alloc (.cells #[.map (some M)] 81)) (by simp) ((Has.new w [.map (some M)] 81).cell 0) (by
    have hbl := ho.lt
    obtain ⟨es, clock, hbb, Ft, hs, hD⟩ := ho
    exact ⟨es, clock, (Below.heap_alloc w _ M hbl).trans hbb, Ft, hs, hD⟩))
  have EX := bx (ext_alloc w (.cells #[.map (some M)] 81))
  clear okk ho htd hsz hh
  go_enter Try.func43, Try.ntmps43
  go_wp2_with fail
  refine (KI.out _).mono ?_; rintro e w1 ⟨rfl, rfl⟩
  go_wp2_with fail
  refine SK.out.mono ?_; rintro e w2 ⟨v2, ss, rfl, hk, hrow, hb2⟩
  have e2 := HKEY.out ss hk
  rw [e2, cks_keys] at hrow
  have hln : ss.length = T.length := by
    have := congrArg List.length e2
    rw [srtC_len, List.length_map] at this
    exact this
  rw [hln] at hrow
  have M1 := bx ((M0.out.below EX.out).rowNew hb2 hrow)
  obtain ⟨A2, c2, rfl⟩ := own_slice hrow
  clear hrow hb2 e2 hk hln SK KI HKEY EX M0 hcm
  obtain ⟨Γ1, hc2, hs2, hl2, hM2⟩ := M1.out.frz
  have M := bx hM2
  have HK := bx hs2
  have LE1 := bx hl2
  have HBE := bx hM2.ext.bel
  clear hs2 hl2 hM2 hc2 M1
  go_wp2_with fail
  go_loopw [3, 13] (fun s i wr => ∃ (k : Nat) (X : List (Cp × Value)) (A3 : Option Addr) (c3 : Nat) (Γ3 : Gam), k ≤ T.length ∧ i = .int .i64 k ∧ s = .slice A3 k c3 ∧ All2 (TbG Γ3) X (T.take k) ∧ Le Γ1 Γ3 ∧ MM Γ w Γ3 wr [] [⟨.slice A3 k c3, 38, 34, k, X.flatMap tbx⟩]) (fun _ i _ => T.length - (intOf i).toNat)
  case atStart => exact ⟨0, [], none, 0, Γ1, Nat.zero_le _, rfl, rfl, All2.nil, Le.refl _, M.out.row0 _ _⟩
  case round =>
    obtain ⟨k, X, A3, c3, Γ3, hk, rfl, rfl, hX, hle, hM⟩ := hrel
    clear M
    have M := bx hM
    have HX := bx hX
    have LE3 := bx hle
    clear hM hX hle
    by_cases hkn : k < T.length
    · obtain ⟨gk, rfl, hc⟩ := HK.out.at (k := 33) (f := fun t : Tbl => fl (cpP t.c)) (fun t _ => cp_len _) rfl k hkn
      have HC := bx (hc.mono LE3.out)
      have HTK := bx (List.getElem_mem hkn)
      have TAK := bx (List.take_succ_eq_append_getElem hkn)
      have hki : (k : Int) < (T.length : Int) := by omega
      have hk0 : 0 ≤ (k : Int) := by omega
      have hk5 : k + 1 ≤ 65535 := by have := HTL.out; omega
      have HKN := bx hkn
      clear hc
      generalize T[k] = t at *
      go_upto_region 5 with (first | ((with_reducible apply wpList_rdp (CL.of HC.out (cpP_len _) M.out.ext.ok)); rfl; rfl; rfl; (first | exact rtRoot | exact rtCk | exact rtTb); rfl; rfl) | ((with_reducible apply wpList_rd1 (CL.of HC.out (cpP_len _) M.out.ext.ok)); rfl; rfl; rfl; (first | exact otInt | exact otU64 | exact otU64s); rfl; rfl) | ((with_reducible apply wpList_rds (CL.of HC.out (cpP_len _) M.out.ext.ok)); rfl; rfl; rfl; (first | exact rtRoot | exact rtCk | exact rtTb); rfl; (try simp only [Nat.reduceAdd, List.drop_zero, cut_cp, cut_tb, cut_tb_c])) | ((with_reducible apply wpList_rdp0 (CL.of HC.out (cpP_len _) M.out.ext.ok)); rfl; rfl; rfl; (first | exact rtRoot | exact rtCk | exact rtTb); rfl; rfl) | ((with_reducible apply wpList_rd10 (CL.of HC.out (cpP_len _) M.out.ext.ok)); rfl; rfl; rfl; (first | exact otInt | exact otU64 | exact otU64s); rfl; rfl) | ((with_reducible apply wpList_rds0 (CL.of HC.out (cpP_len _) M.out.ext.ok)); rfl; rfl; rfl; (first | exact rtRoot | exact rtCk | exact rtTb); rfl; (try simp only [Nat.reduceAdd, List.drop_zero, cut_cp, cut_tb, cut_tb_c])) | ((with_reducible apply wpList_alc M.out); rfl; rfl; exact ztCk; intro w' g M' hb'; (clear M; have M := bx M'; clear M'); clear hb') | ((with_reducible apply wpList_sts M.out 0 (cpP t.c) (cpP t.c)); rfl; rfl; rfl; rfl; rfl; (first | exact rtRoot | exact rtCk | exact rtTb); rfl; exact cpP_len _; exact cp_one _; rfl; intro w' M' hg'; (simp only [List.set_cons_zero, List.set_cons_succ] at M'); (clear M; have M := bx M'; clear M'); clear hg'))
      refine wp_region_mix6 [9] (.steps [(1, 0), (1, 1), (1, 2), (1, 3), (0, 4), (0, 5), (0, 6), (2, 7), (2, 8), (3, 9), (1, 10)] .leaf) (by kernel_rfl) (by kernel_rfl) ?_
      simp only [MixT6, MT.steps, stepAt, List.getD_cons_zero, List.getD_cons_succ, Act.put, List.setIfInBounds_toArray, List.set_cons_succ, List.set_cons_zero]
      have M' := M.out.drew
      (clear M; have M := bx M'; clear M')
      have BK := bx (HB.out.below M.out.ext.bel)
      obtain ⟨A5, c5, hn5, hu5, hrun⟩ := BK.out.m.readS (oldC_ok t.c) (bs := t.b.map fun x => (x.n : Int)) (List.mem_map.2 ⟨t, HTK.out, rfl⟩)
      rw [List.length_map] at hrun
      have HN5 := bx hn5
      have HU5 := bx hu5.usr
      have QM := bx M.out.at0.cls
      have CM := bx (fun w6 (h6 : Cls w'.drew.heap.size w'.drew w6) => run_map1 ((BK.out.b.below h6.out BK.out.b.lt).cell 2))
      have CL := bx (fun w6 (h6 : Cls w'.drew.heap.size w'.drew w6) => hrun w6 (h6.out.block _ BK.out.m.lt))
      clear hn5 hu5 hrun
      repeat (first | (with_reducible refine wpQuiet_nil ?_) | (first | go_big_quiet_skip | (go_big_quiet_want; first | (first | ((with_reducible apply quiet_ldp QM.out (cpP_len _)); rfl; rfl; (first | exact rtRoot | exact rtCk | exact rtTb); rfl; rfl; go_big_quiet_on; (simp only [Act.put, List.setIfInBounds_toArray, List.set_cons_succ, List.set_cons_zero])) | ((with_reducible apply quiet_ld1 QM.out); rfl; rfl; (first | exact otInt | exact otU64 | exact otU64s); rfl; rfl; go_big_quiet_on; (simp only [Act.put, List.setIfInBounds_toArray, List.set_cons_succ, List.set_cons_zero])) | ((with_reducible apply quiet_lds QM.out (cpP_len _)); rfl; rfl; (first | exact rtRoot | exact rtCk | exact rtTb); rfl; (try simp only [Nat.reduceAdd, List.drop_zero, cut_cp, cut_tb, cut_tb_c]); go_big_quiet_on; (simp only [Act.put, List.setIfInBounds_toArray, List.set_cons_succ, List.set_cons_zero])) | ((with_reducible refine quiet_cell 81 _ rfl _ _ ?_ CM.out ?_); rfl; go_big_quiet_on; (simp only [Act.put, List.setIfInBounds_toArray, List.set_cons_succ, List.set_cons_zero])) | ((refine quiet_lookup 81 _ _ _ rfl _ _ _ ?_ ?_ CL.out ?_); rfl; rfl; go_big_quiet_on; (simp only [Act.put, List.setIfInBounds_toArray, List.set_cons_succ, List.set_cons_zero]))) | (go_big_quiet_op; first | go_big_quiet_on | ((with_reducible refine ⟨_, fun _ _ => rfl, ?_⟩); go_big_quiet_on)))))
      clear QM CM CL
      refine mix_call5 (copyTb_any _ t.c t.b (HBL.out t HTK.out) A5 c5 _ M.out.ext.ok HU5.out HN5.out) Try.func41 rfl rfl _ _ rfl rfl rfl ?_
      rintro e w7 ⟨s1, Γ7, rfl, hs1, hx⟩
      refine ⟨_, rfl, hx.bel, ?_⟩
      have M' := M.out.call hx
      (clear M; have M := bx M'; clear M')
      have HS1 := bx hs1
      have LE7 := bx (LE3.out.trans hx.le)
      have LE37 := bx hx.le
      clear hs1 hx BK
      simp only [Act.put, List.setIfInBounds_toArray, List.set_cons_succ, List.set_cons_zero]
      refine mix_run5 (run_bs elTb rfl rfl (v := .agg (fl (tbP t.c s1)).toArray) (cs := fl (tbP t.c s1)) rfl (tb_len _ _)) rfl ?_
      refine ⟨ext_alloc _ _, ?_⟩
      have M' := M.out.alloc (tbP_len t.c s1) rfl 38
      (clear M; have M := bx M'; clear M')
      simp only [Act.put, List.setIfInBounds_toArray, List.set_cons_succ, List.set_cons_zero]
      obtain ⟨v5, w5, hr, hM⟩ := run_pushR elTb M.out 27 _ 1 1 _ (row_of_HL M.out.at0 (m := 1) (size := 34) rfl) (fun h => by cases h) (tbx_one HS1.out) (by unfold maxLen; omega) (by omega)
      refine mix_run5 (exec_append rfl rfl rfl hr) rfl ?_
      have M' := hM.tail.tail
      (clear M; have M := bx M'; clear M')
      clear hr hM
      simp only [Act.put, List.setIfInBounds_toArray, List.set_cons_succ, List.set_cons_zero]
      repeat (first | (first | go_big_quiet_skip | (go_big_quiet_want; first | fail | (go_big_quiet_op; first | go_big_quiet_on | ((with_reducible refine ⟨_, fun _ _ => rfl, ?_⟩); go_big_quiet_on)))) | (with_reducible refine wpQuiet_nil ?_))
      refine NoPanic.normal ?_
      go_wp2_with fail
      go_roundw
      case rel =>
        obtain ⟨A8, c8, e8⟩ := own_slice (M.out.rows _ (List.mem_cons_self ..))
        simp only at e8
        subst e8
        exact ⟨k + 1, X ++ [(t.c, s1)], A8, c8, Γ7, HKN.out, by go_num, rfl, by rw [TAK.out]; exact (HX.out.imp fun _ _ h => h.mono LE37.out).app (All2.one HS1.out), LE7.out, by rw [flat_snoc]; exact M.out⟩
      case measure => have := HKN.out; simp [intOf]; omega
    · obtain rfl : k = T.length := by omega
      go_wp2_with fail
      go_ret
      obtain ⟨Γ', h1, h2, h3, h4⟩ := M.out.frz
      have hX := HX.out
      rw [List.take_of_length_le (Nat.le_refl _)] at hX
      exact ⟨A3, c3, Γ', rfl, h1, ⟨rfl, X, hX.imp (fun _ _ h => h.mono h3), h2⟩, h4.ext⟩
end Go.Proofs.Ytekikfdlnkcenaa
