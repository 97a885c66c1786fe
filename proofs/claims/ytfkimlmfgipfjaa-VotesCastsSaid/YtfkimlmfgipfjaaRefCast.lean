/- Votes: casting, as the reference does. -/
import Derived.Test.YtfkimlmfgipfjaaSameVotes
import Derived.Test.YtfkimlmfgipfjaaClone
namespace Go.Proofs.Ytfkimlmfgipfjaa
open Go.RowKit

def RefCastPost (ep : Int) (r : List Int) (vs : List Vt) (l : List Int) (n : Nat) (w : World) (e : Ending) (w' : World) : Prop :=
  ∃ g c post, e = .returned (.tuple #[.slice (some ⟨g, 0, none⟩) n c, .int .i64 (castGo ep r vs l 0).2]) ∧ w.heap.size ≤ g ∧ VL (castGo ep r vs l 0).1 ∧ Has w' g ((castGo ep r vs l 0).1.flatMap vc ++ post) ∧ Below w.heap.size w w'

set_option maxRecDepth 20000 in
set_option maxHeartbeats 1000000 in
theorem refCast_any (A A2 : Option Addr) (n c n2 c2 : Nat) (vs : List Vt) (ep : Int) (r : List Int) (l : List Int) (lr : r.length = 32) (w : World) (hv : VRow w A n vs) (hn : n ≤ 1024) (hpos : 0 < n)
    (hr : Row w w.heap.size 1 A2 n2 (ints .i64 l)) (hn2 : n2 ≤ 9223372036854775807) (hmem : ∀ x ∈ l, 0 ≤ x ∧ x < (n : Int)) :
    Calls Try.prog 20 #[.slice A n c, .int .u64 ep, .agg (ints .u8 r).toArray, .slice A2 n2 c2] w (RefCastPost ep r vs l n w) := by
  obtain ⟨i0, hi0, hz0, hz1, hz2⟩ := info_parts info_vote
  have HI := Lib.hid (show Try.prog.info? 35 = some i0 from hi0)
  obtain ⟨g0, p0, rfl, hg0⟩ := hv.2.2 hpos
  have hlen := row_len hr
  have HV := Lib.hid hv.2.1
  have HVN := Lib.hid hv.1
  have HG0 := Lib.hid hg0
  have HX := Lib.hid (Has.new w (ints .u8 r) 32)
  have HLR := Lib.hid lr
  have HLEN := Lib.hid hlen
  have HROW := Lib.hid hr
  have HMEM := Lib.hid hmem
  have HO : Hid (Apd (w.alloc (.cells (ints .u8 r).toArray 32)) (w.heap.size + 1) 35 34 (.slice none 0 0) 0 []) := .inl ⟨rfl, .inl ⟨rfl, rfl⟩⟩
  have HC : Hid (∀ j u, (vs.flatMap vc)[j]? = some u → (w.alloc (.cells (ints .u8 r).toArray 32)).cell? ((⟨g0, 0, none⟩ : Addr).add j) = some u) := fun j u hu => by
    rw [add_at, (hg0.alloc _).cell, Nat.zero_add, List.getElem?_append_left (List.getElem?_eq_some_iff.1 hu).1]; exact hu
  have HL : Hid ((vs.flatMap vc).length = n * 34) := by show _ = _; rw [flat_len vs HV.out.len, HVN.out]
  have H1 : Hid (∀ u ∈ vs.flatMap vc, u.oneCell' = true) := fun u hu => by
    obtain ⟨v, _, hv⟩ := List.mem_flatMap.1 hu
    exact vc_one v u hv
  have HM : Hid (0 + n ≤ maxLen) := by show _ ≤ _; unfold maxLen; omega
  have HM2 : Hid ((0 + n) * 48 ≤ 140737488355328) := by show _ ≤ _; omega
  have HB : Hid (w.heap.size + 1 ≤ (w.alloc (.cells (ints .u8 r).toArray 32)).heap.size) := by show _ ≤ _; simp
  have hcz : (Value.agg (vc zv).toArray).cells.size = 34 := rfl
  clear hv hg0 lr hlen hr hmem hi0
  go_enter Try.func20, Try.ntmps20
  go_wp2_with (at_builtin; (with_reducible refine wpList_pushAt rfl _ (.tmp 14) 38 rfl i0 _ 48 Try.underlying38 HI.out hz0 hz1 hz2 ?_ ?_ ?_ HO.out ⟨g0, 0, none⟩ n c (vs.flatMap vc) ?_ hpos HL.out HC.out H1.out HM.out HM2.out HB.out ?_); rfl; omega; rfl; rfl; intro v' w1 hown' _ hbel' _; have HW := Lib.hid hown'; have HB1 := Lib.hid hbel'; clear hown' hbel')
  have hw := HW.out
  rw [Nat.zero_add, List.nil_append] at hw
  obtain ⟨g, cg, p1, hv1, hgb, hg1⟩ := own_block hw hpos
  clear hw
  subst hv1
  have HGB : Hid (w.heap.size ≤ g) := Nat.le_of_succ_le hgb
  have HGN : Hid (w.heap.size ≠ g) := Nat.ne_of_lt hgb
  have HGN' : Hid (w.heap.size < g) := hgb
  have HG1 := Lib.hid hg1
  have B1 := Lib.hid (((Below.refl w.heap.size w).alloc (Nat.le_refl _) (.cells (ints .u8 r).toArray 32)).trans (HB1.out.mono (Nat.le_succ _)))
  have X1 := Lib.hid (HX.out.below HB1.out (Nat.lt_succ_self _))
  clear hgb hg1
  go_loopw [11, 12] (fun q i wr => ∃ (k : Nat) (cur : List Vt) (cnt : Nat), k ≤ n2 ∧ i = .int .i64 k ∧ q = .int .i64 cnt ∧ cnt ≤ k ∧ castGo ep r vs l 0 = castGo ep r cur (l.drop k) cnt ∧ VL cur ∧ cur.length = n ∧ Has wr g (cur.flatMap vc ++ p1) ∧ Below w.heap.size w wr ∧ Has wr w.heap.size (ints .u8 r)) (fun _ i _ => n2 - (intOf i).toNat)
  case atStart => exact ⟨0, vs, 0, Nat.zero_le _, rfl, rfl, Nat.le_refl _, rfl, HV.out, HVN.out, HG1.out, B1.out, X1.out⟩
  case round =>
    obtain ⟨k, cur, cnt, hk, rfl, rfl, hck, hgo, hvl, hcl, hgg, hbel, hroot⟩ := hrel
    have HGO := Lib.hid hgo
    have HVL := Lib.hid hvl
    have HG := Lib.hid hgg
    have HBEL := Lib.hid hbel
    have HROOT := Lib.hid hroot
    clear hgo hvl hgg hbel hroot
    by_cases hkn : k < n2
    · have hkl : k < l.length := by rw [HLEN.out]; exact hkn
      have hu : (ints .i64 l)[k]? = some (.int .i64 l[k]) := by unfold ints; rw [List.getElem?_map, List.getElem?_eq_getElem hkl]; rfl
      obtain ⟨ad, rfl, hb, hca⟩ := (HROW.out.below HBEL.out).at_ hu
      obtain ⟨hm0, hm1⟩ := HMEM.out l[k] (List.getElem_mem hkl)
      have hd := Lib.hid (drop_at hkl)
      have hbs := HBEL.out.size
      clear hu
      generalize l[k] = x at *
      obtain ⟨j, rfl⟩ : ∃ j : Nat, x = (j : Int) := ⟨x.toNat, by omega⟩
      have hjl : j < cur.length := by omega
      have hgd : Hid (cur.getD (j : Int).toNat zv = cur[j]) := by show _ = _; rw [Int.toNat_natCast, List.getD_eq_getElem?_getD, List.getElem?_eq_getElem hjl]; rfl
      have hol : Hid (cur[j].2.2.length = 32) := HVL.out _ (List.getElem_mem hjl)
      have HTl := Lib.hid HVL.out.len
      have HZ := Lib.hid (Has.new wr (vc zv) 35)
      have HLL : Hid ((vc zv).length = (vc cur[j]).length) := by show _ = _; rw [vc_len hol.out]; rfl
      have HO1 := Lib.hid (vc_one cur[j])
      have HF1 : Hid (∀ (w2 : World) (b : Nat), Has w2 b (vc cur[j]) → w2.cell? ⟨b, 1, none⟩ = some (.int .u64 cur[j].2.1)) := fun w2 b hb => by rw [hb.cell]; rfl
      have HVR : Hid ((vc (true, ep, r)).length = 34) := vc_len HLR.out
      have HV1 := Lib.hid (vc_one (true, ep, r))
      have hzv := zv_lit
      have hz1' := vote_zero_len
      have hz0' := vote_zero_ne
      have hr32 : (ints .u8 r).length = 32 := by rw [ints, List.length_map]; exact HLR.out
      have hfold := vote_fold ep HLR.out
      cases ho : cur[j].1 with
      | false =>
        have HF0 : Hid (∀ (w2 : World) (b : Nat), Has w2 b (vc cur[j]) → w2.cell? ⟨b, 0, none⟩ = some (.bool false)) := fun w2 b hb => by rw [hb.cell, ← ho]; rfl
        have hnk : ¬ keeps cur[j] ep := fun hkk => by rw [hkk.1] at ho; cases ho
        have HNK := Lib.hid hnk
        clear hnk ho
        go_wp2_with (first | ((with_reducible refine wpList_loadP (f := vc) (k := 34) 35 _ rfl ?_ g cur j ?_ p1 HG.out HTl.out hjl Try.underlying35 ?_ ?_ ?_); rfl; rfl; rfl; exact cells_vote') | ((with_reducible refine wpList_storeB rfl 35 _ _ rfl _ (vc cur[j]) _ ?_ ?_ HZ.out HLL.out Try.underlying35 ?_ HO1.out ?_); rfl; rfl; exact cells_vote hol.out; intro w2 hw2 hg2 hz2; have hf0 := HF0.out w2 _ hw2; have hf1 := HF1.out w2 _ hw2; have HG2 := Lib.hid (grown_over_alloc hg2); clear hw2 hg2 hz2))
        have HROOT2 := Lib.hid (HROOT.out.grown HG2.out (ne_some (Nat.ne_of_lt HROOT.out.lt)))
        have HGG2 := Lib.hid (HG.out.grown HG2.out (ne_some (Nat.ne_of_lt HG.out.lt)))
        have HB2 := Lib.hid (HBEL.out.grown HG2.out HBEL.out.size (fun k hk => by cases hk; exact HBEL.out.size))
        have hc2 : w2.cell? (ad.add k) = some (.int .i64 j) := (HG2.out.cell hca (ne_some (by rw [add_block]; omega)))
        have HT2 : Hid (Has w2.drew g (cur.flatMap vc ++ p1)) := HGG2.out.drew
        have HROOT3 : Hid (Has { w2 with drawn := w2.drawn + 1 } w.heap.size (ints .u8 r)) := HROOT2.out.drew
        refine wp_region_still_tail 9 (by kernel_rfl) (by kernel_rfl) ?_
        simp only [List.take_succ_cons, List.take_zero, List.drop_succ_cons, List.drop_zero]
        repeat (first | ((with_reducible refine still_loadB 32 _ rfl _ _ ?_ ?_ HROOT3.out Try.underlying32 ?_ ?_ ?_); rfl; rfl; rfl; exact cells_root HLR.out; (simp only [Act.put, List.setIfInBounds_toArray, List.set_cons_succ, List.set_cons_zero])) | still_step)
        refine wpStill_nil ?_
        change wpList _ _ _ _ _ w2.drew
        go_wp2_with ((with_reducible refine wpList_storeQ (f := vc) (k := 34) 35 _ _ rfl rfl g cur j ?_ (true, ep, r) ?_ p1 HT2.out HTl.out hjl HVR.out Try.underlying35 ?_ HV1.out ?_); rfl; rfl; exact cells_vote'; intro w3 hw3 hg3 hz3; have HW3 := Lib.hid hw3; have HG3 := Lib.hid (grown_drew hg3); clear hw3 hg3 hz3)
        go_roundw
        case rel =>
          refine ⟨k + 1, cur.set j (true, ep, r), cnt + 1, by omega, by go_num, by go_num, by omega, ?_, ?_, by rw [List.length_set]; exact hcl, HW3.out, HB2.out.grown HG3.out HB2.out.size (fun k hk => by cases hk; exact HGB.out), HROOT2.out.grown HG3.out (ne_some HGN.out)⟩
          · rw [HGO.out, hd.out, castGo, if_neg (by rw [hgd.out]; exact HNK.out), Int.toNat_natCast]
          · intro u hu
            rcases List.mem_or_eq_of_mem_set hu with h1 | rfl
            · exact HVL.out u h1
            · exact HLR.out
        case measure => simp [intOf]; omega
      | true =>
        have HF0 : Hid (∀ (w2 : World) (b : Nat), Has w2 b (vc cur[j]) → w2.cell? ⟨b, 0, none⟩ = some (.bool true)) := fun w2 b hb => by rw [hb.cell, ← ho]; rfl
        by_cases hge : cur[j].2.1 < ep
        · have hnk : ¬ keeps cur[j] ep := fun hkk => by have := hkk.2; omega
          have HNK := Lib.hid hnk
          clear hnk ho
          go_wp2_with (first | ((with_reducible refine wpList_loadP (f := vc) (k := 34) 35 _ rfl ?_ g cur j ?_ p1 HG.out HTl.out hjl Try.underlying35 ?_ ?_ ?_); rfl; rfl; rfl; exact cells_vote') | ((with_reducible refine wpList_storeB rfl 35 _ _ rfl _ (vc cur[j]) _ ?_ ?_ HZ.out HLL.out Try.underlying35 ?_ HO1.out ?_); rfl; rfl; exact cells_vote hol.out; intro w2 hw2 hg2 hz2; have hf0 := HF0.out w2 _ hw2; have hf1 := HF1.out w2 _ hw2; have HG2 := Lib.hid (grown_over_alloc hg2); clear hw2 hg2 hz2))
          have HROOT2 := Lib.hid (HROOT.out.grown HG2.out (ne_some (Nat.ne_of_lt HROOT.out.lt)))
          have HGG2 := Lib.hid (HG.out.grown HG2.out (ne_some (Nat.ne_of_lt HG.out.lt)))
          have HB2 := Lib.hid (HBEL.out.grown HG2.out HBEL.out.size (fun k hk => by cases hk; exact HBEL.out.size))
          have hc2 : w2.cell? (ad.add k) = some (.int .i64 j) := (HG2.out.cell hca (ne_some (by rw [add_block]; omega)))
          have HT2 : Hid (Has w2.drew g (cur.flatMap vc ++ p1)) := HGG2.out.drew
          have HROOT3 : Hid (Has { w2 with drawn := w2.drawn + 1 } w.heap.size (ints .u8 r)) := HROOT2.out.drew
          refine wp_region_still_tail 9 (by kernel_rfl) (by kernel_rfl) ?_
          simp only [List.take_succ_cons, List.take_zero, List.drop_succ_cons, List.drop_zero]
          repeat (first | ((with_reducible refine still_loadB 32 _ rfl _ _ ?_ ?_ HROOT3.out Try.underlying32 ?_ ?_ ?_); rfl; rfl; rfl; exact cells_root HLR.out; (simp only [Act.put, List.setIfInBounds_toArray, List.set_cons_succ, List.set_cons_zero])) | still_step)
          refine wpStill_nil ?_
          change wpList _ _ _ _ _ w2.drew
          go_wp2_with ((with_reducible refine wpList_storeQ (f := vc) (k := 34) 35 _ _ rfl rfl g cur j ?_ (true, ep, r) ?_ p1 HT2.out HTl.out hjl HVR.out Try.underlying35 ?_ HV1.out ?_); rfl; rfl; exact cells_vote'; intro w3 hw3 hg3 hz3; have HW3 := Lib.hid hw3; have HG3 := Lib.hid (grown_drew hg3); clear hw3 hg3 hz3)
          go_roundw
          case rel =>
            refine ⟨k + 1, cur.set j (true, ep, r), cnt + 1, by omega, by go_num, by go_num, by omega, ?_, ?_, by rw [List.length_set]; exact hcl, HW3.out, HB2.out.grown HG3.out HB2.out.size (fun k hk => by cases hk; exact HGB.out), HROOT2.out.grown HG3.out (ne_some HGN.out)⟩
            · rw [HGO.out, hd.out, castGo, if_neg (by rw [hgd.out]; exact HNK.out), Int.toNat_natCast]
            · intro u hu
              rcases List.mem_or_eq_of_mem_set hu with h1 | rfl
              · exact HVL.out u h1
              · exact HLR.out
          case measure => simp [intOf]; omega
        · have HK := Lib.hid (show keeps cur[j] ep from ⟨ho, by omega⟩)
          clear ho
          go_wp2_with (first | ((with_reducible refine wpList_loadP (f := vc) (k := 34) 35 _ rfl ?_ g cur j ?_ p1 HG.out HTl.out hjl Try.underlying35 ?_ ?_ ?_); rfl; rfl; rfl; exact cells_vote') | ((with_reducible refine wpList_storeB rfl 35 _ _ rfl _ (vc cur[j]) _ ?_ ?_ HZ.out HLL.out Try.underlying35 ?_ HO1.out ?_); rfl; rfl; exact cells_vote hol.out; intro w2 hw2 hg2 hz2; have hf0 := HF0.out w2 _ hw2; have hf1 := HF1.out w2 _ hw2; have HG2 := Lib.hid (grown_over_alloc hg2); clear hw2 hg2 hz2))
          have HROOT2 := Lib.hid (HROOT.out.grown HG2.out (ne_some (Nat.ne_of_lt HROOT.out.lt)))
          have HGG2 := Lib.hid (HG.out.grown HG2.out (ne_some (Nat.ne_of_lt HG.out.lt)))
          have HB2 := Lib.hid (HBEL.out.grown HG2.out HBEL.out.size (fun k hk => by cases hk; exact HBEL.out.size))
          go_roundw
          case rel =>
            refine ⟨k + 1, cur, cnt, by omega, by go_num, rfl, by omega, ?_, HVL.out, hcl, HGG2.out, HB2.out, HROOT2.out⟩
            rw [HGO.out, hd.out, castGo, if_pos (by rw [hgd.out]; exact HK.out)]
          case measure => simp [intOf]; omega
    · have hkk : k = n2 := by omega
      subst hkk
      have hfin : castGo ep r vs l 0 = (cur, cnt) := by rw [HGO.out, List.drop_of_length_le (by rw [HLEN.out]; exact Nat.le_refl _)]; rfl
      have HFIN := Lib.hid hfin
      clear hfin
      go_wp2_with fail
      go_ret2
      refine ⟨g, cg, p1, ?_, HGB.out, ?_, ?_, HBEL.out⟩
      · rw [HFIN.out]; rfl
      · rw [HFIN.out]; exact HVL.out
      · rw [HFIN.out]; exact HG.out
end Go.Proofs.Ytfkimlmfgipfjaa
