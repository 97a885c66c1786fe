/- Votes: casting. -/
import Derived.Test.YtfkimlmfgipfjaaLists
import Derived.StillTailTactics
namespace Go.Proofs.Ytfkimlmfgipfjaa
open Go.RowKit

/-- in a drawing region whose operations leave the world alone: a variable of several cells is read -/
theorem still_loadB {P : Program} {ops : Array Oper} {rest : List Oper} {w : World} {o : Oper} {a : Act} {Q : Act → Prop} (ty : TypeId) (x : Operand) (ho : o.op = .load ty x)
    (g : Nat) (cs : List Value) (hgd : Region.wanted o (yielded ops a.tmps) = true) (hx : a.eval x = .pointer (some ⟨g, 0, none⟩)) (hg : Has w g cs) {d : TypeDesc}
    (hu : P.underlying ty = some d) (hd : (match d with | .struct _ | .array _ _ => true | _ => false) = true) (hi : P.cellsOf ty = cs.length)
    (h : wpStill P ops w Q rest (a.put o.dst (.agg cs.toArray))) : wpStill P ops w Q (o :: rest) a := by
  unfold wpStill
  rw [if_pos hgd]
  unfold Oper.still execOp
  have := run_loadB (P := P) hg hu hd hi
  simp only [ho, hx, Instr.loadAt, Instr.sureAddr, Sem.run_bind, Sem.run_pure, Result.andThen_ok, this]
  exact ⟨rfl, h⟩

theorem Row.apart {w w' : World} {B size n h : Nat} {A : Option Addr} {xs : List Value} (hr : Row w B size A n xs) (hg : w.grownBy w' (some h)) (hB : B ≤ w.heap.size) (hne : ∀ ad, A = some ad → ad.block ≠ h) : Row w' B size A n xs :=
  ⟨hr.1, fun j u hu => by
    obtain ⟨ad, e, hb, hc⟩ := hr.2 j u hu
    exact ⟨ad, e, hb, hg.cell hc (by rw [add_block]; exact fun q => hne ad e (by injection q))⟩⟩
theorem Tab.grown {w w' : World} {g h : Nat} {vs : List Vt} {row : Option Nat} (t : Tab w g h vs) (hb : w.grownBy w' row) (hg : some g ≠ row) (hh : some h ≠ row) : Tab w' g h vs := ⟨t.1.grown hb hg, t.2.1.grown hb hh, t.2.2⟩

theorem grown_new {w wr w2 : World} {row : Option Nat} {b : Nat} (h1 : w.grownBy wr row) (h2 : wr.grownBy w2 (some b)) (hb : w.heap.size ≤ b) : w.grownBy w2 row :=
  ⟨h2.os.trans h1.os, h2.tape.trans h1.tape, h2.output.trans h1.output, Nat.le_trans h1.size h2.size, fun k hk hne => (h2.block k (Nat.lt_of_lt_of_le hk h1.size) (fun e => by injection e with e; omega)).trans (h1.block k hk hne)⟩
theorem ne_some {a b : Nat} (h : a ≠ b) : some a ≠ some b := fun e => h (by injection e)
theorem Tab.setE {w w' : World} {g h : Nat} {vs : List Vt} {j : Nat} {v : Vt} (t : Tab w g h vs) (hh : Has w' h ((vs.set j v).flatMap vc)) (hg : w.grownBy w' (some h)) (hv : v.2.2.length = 32) : Tab w' g h (vs.set j v) :=
  ⟨by rw [List.length_set]; exact t.1.grown hg (fun e => t.2.2.2 (by injection e)), hh, fun u hu => by
    rcases List.mem_or_eq_of_mem_set hu with h1 | rfl
    · exact t.2.2.1 u h1
    · exact hv, t.2.2.2⟩
theorem grown_drew {w w' : World} {row : Option Nat} (h : w.drew.grownBy w' row) : w.grownBy w' row := ⟨h.os, h.tape, h.output, h.size, h.block⟩
/-- whether an old vote stays -/
def keeps (o : Vt) (ep : Int) : Prop := o.1 = true ∧ ep ≤ o.2.1
instance (o : Vt) (ep : Int) : Decidable (keeps o ep) := inferInstanceAs (Decidable (_ ∧ _))
/-- the votes after casts, and how many have changed -/
def castGo (ep : Int) (r : List Int) : List Vt → List Int → Nat → List Vt × Nat
  | vs, [], c => (vs, c)
  | vs, v :: l, c => if keeps (vs.getD v.toNat zv) ep then castGo ep r vs l c else castGo ep r (vs.set v.toNat (true, ep, r)) l (c + 1)
theorem castGo_len (ep : Int) (r : List Int) : ∀ (l : List Int) (vs : List Vt) (c : Nat), (castGo ep r vs l c).1.length = vs.length
  | [], vs, c => rfl
  | v :: l, vs, c => by unfold castGo; split <;> rw [castGo_len ep r l]; simp
theorem vErrGo_mem (m : Int) : ∀ (l : List Int) (p : Option Int), vErrGo m p l = 0 → ∀ v ∈ l, 0 ≤ v ∧ v < m
  | [], _, _, v, hv => by cases hv
  | x :: l, p, h, v, hv => by
    rw [vErrGo_cons] at h
    by_cases h1 : x < 0 ∨ m ≤ x
    · rw [if_pos h1] at h; omega
    · rw [if_neg h1] at h
      by_cases h2 : hits p x = true
      · rw [if_pos h2] at h; omega
      · rw [if_neg h2] at h
        rcases List.mem_cons.1 hv with rfl | hv
        · omega
        · exact vErrGo_mem m l _ h v hv
theorem vErr_mem {l : List Int} {m : Int} (h : vErr l m = 0) : ∀ v ∈ l, 0 ≤ v ∧ v < m := by
  unfold vErr at h
  split at h
  · cases h
  · exact vErrGo_mem m l _ h

def castV (ep : Int) (r : List Int) (vs : List Vt) (l : List Int) : List Vt := if vErr l vs.length = 0 then (castGo ep r vs l 0).1 else vs
def castN (ep : Int) (r : List Int) (vs : List Vt) (l : List Int) : Nat := if vErr l vs.length = 0 then (castGo ep r vs l 0).2 else 0

def CastPost (ep : Int) (r : List Int) (vs : List Vt) (l : List Int) (g h : Nat) (w : World) (e : Ending) (w' : World) : Prop :=
  e = .returned (.tuple #[.int .i64 (castN ep r vs l), .int .i64 (vErr l vs.length)]) ∧ Tab w' g h (castV ep r vs l) ∧ w.grownBy w' (some h)

set_option maxRecDepth 20000 in
set_option maxHeartbeats 1000000 in
theorem cast_any {g h : Nat} {vs : List Vt} (ep : Int) (r : List Int) (lr : r.length = 32) (A : Option Addr) (n c : Nat) (l : List Int) (w : World) (ht : Tab w g h vs) (hr : Row w w.heap.size 1 A n (ints .i64 l))
    (hne : ∀ ad, A = some ad → ad.block ≠ h) (hn : n ≤ 9223372036854775807) :
    Calls Try.prog 13 #[.pointer (some ⟨g, 0, none⟩), .int .u64 ep, .agg (ints .u8 r).toArray, .slice A n c] w (CastPost ep r vs l g h w) := by
  have hlen : l.length = n := by have := hr.1; simpa [ints] using this
  have hg := ht.1.lt
  have hh := ht.2.1.lt
  have hgh := ht.2.2.2
  have hc : w.cell? ⟨g, 0, none⟩ = some (.slice (some ⟨h, 0, none⟩) vs.length vs.length) := by rw [ht.1.cell]; rfl
  have HV := Lib.hid (validate_any w.heap.size A n c l vs.length (w.alloc (.cells (ints .u8 r).toArray 32)) (hr.alloc (Nat.le_refl _) _) hn)
  have HT := Lib.hid ht
  have HR := Lib.hid hr
  have HNE := Lib.hid hne
  have HX := Lib.hid (Has.new w (ints .u8 r) 32)
  have HLEN := Lib.hid hlen
  have HLR := Lib.hid lr
  have hr1 : Hid (∀ wr, w.grownBy wr (some h) → Row wr w.heap.size 1 A n (ints .i64 l)) := fun wr hw => hr.apart hw (Nat.le_refl _) hne
  clear ht hr hne hlen lr
  by_cases hv : vErr l vs.length = 0
  · have hmem := Lib.hid (vErr_mem hv)
    have hvv := Lib.hid hv
    rw [hv] at HV
    clear hv
    go_enter Try.func13, Try.ntmps13
    go_wp2_with (go_at_call 39; refine HV.out.mono ?_; rintro e w' ⟨rfl, rfl⟩)
    go_loopw [8, 26] (fun q i wr => ∃ (k : Nat) (cur : List Vt) (cnt : Nat), k ≤ n ∧ i = .int .i64 k ∧ q = .int .i64 cnt ∧ cnt ≤ k ∧ castGo ep r vs l 0 = castGo ep r cur (l.drop k) cnt ∧ Tab wr g h cur ∧ cur.length = vs.length ∧ w.grownBy wr (some h) ∧ Has wr w.heap.size (ints .u8 r)) (fun _ i _ => n - (intOf i).toNat)
    case atStart => exact ⟨0, vs, 0, Nat.zero_le _, rfl, rfl, Nat.le_refl _, rfl, HT.out.alloc _, rfl, World.grownBy_alloc w _ _, HX.out⟩
    case round =>
      obtain ⟨k, cur, cnt, hk, rfl, rfl, hck, hgo, htab, hcl, hgr, hroot⟩ := hrel
      have HGO := Lib.hid hgo
      have HTAB := Lib.hid htab
      have HGR := Lib.hid hgr
      have HROOT := Lib.hid hroot
      have hgs := Nat.lt_of_lt_of_le hg hgr.size
      have hc1 : wr.cell? ⟨g, 0, none⟩ = some (.slice (some ⟨h, 0, none⟩) vs.length vs.length) := by rw [htab.1.cell, hcl]; rfl
      have hrow := hr1.out wr hgr
      clear hgo htab hgr hroot
      by_cases hkn : k < n
      · have hkl : k < l.length := by rw [HLEN.out]; exact hkn
        have hu : (ints .i64 l)[k]? = some (.int .i64 l[k]) := by unfold ints; rw [List.getElem?_map, List.getElem?_eq_getElem hkl]; rfl
        obtain ⟨ad, rfl, hb, hca⟩ := hrow.at_ hu
        obtain ⟨hm0, hm1⟩ := hmem.out l[k] (List.getElem_mem hkl)
        have hd := Lib.hid (drop_at hkl)
        clear hrow hu
        generalize l[k] = x at *
        obtain ⟨j, rfl⟩ : ∃ j : Nat, x = (j : Int) := ⟨x.toNat, by omega⟩
        have hjl : j < cur.length := by omega
        have hgd : Hid (cur.getD (j : Int).toNat zv = cur[j]) := by show _ = _; rw [Int.toNat_natCast, List.getD_eq_getElem?_getD, List.getElem?_eq_getElem hjl]; rfl
        have hol : Hid (cur[j].2.2.length = 32) := HTAB.out.2.2.1 _ (List.getElem_mem hjl)
        have HTh := Lib.hid HTAB.out.2.1
        have HTl := Lib.hid HTAB.out.2.2.1.len
        have HZ := Lib.hid (Has.new wr (vc zv) 35)
        have HLL : Hid ((vc zv).length = (vc cur[j]).length) := by show _ = _; rw [vc_len hol.out]; rfl
        have HO1 := Lib.hid (vc_one cur[j])
        have HF1 : Hid (∀ (w2 : World) (b : Nat), Has w2 b (vc cur[j]) → w2.cell? ⟨b, 1, none⟩ = some (.int .u64 cur[j].2.1)) := fun w2 b hb => by rw [hb.cell]; rfl
        have HVR : Hid ((vc (true, ep, r)).length = 34) := vc_len HLR.out
        have HV1 := Lib.hid (vc_one (true, ep, r))
        have hzv := zv_lit
        have hz1 := vote_zero_len
        have hz0 := vote_zero_ne
        have hr32 : (ints .u8 r).length = 32 := by rw [ints, List.length_map]; exact HLR.out
        have hfold := vote_fold ep HLR.out
        cases ho : cur[j].1 with
        | false =>
          have HF0 : Hid (∀ (w2 : World) (b : Nat), Has w2 b (vc cur[j]) → w2.cell? ⟨b, 0, none⟩ = some (.bool false)) := fun w2 b hb => by rw [hb.cell, ← ho]; rfl
          have hnk : ¬ keeps cur[j] ep := fun hkk => by rw [hkk.1] at ho; cases ho
          have HNK := Lib.hid hnk
          clear hnk ho
          go_wp2_with (first | ((with_reducible refine wpList_loadE 35 _ rfl ?_ h cur j ?_ HTh.out HTl.out hjl Try.underlying35 ?_ ?_ ?_); rfl; rfl; rfl; exact cells_vote') | ((with_reducible refine wpList_storeB rfl 35 _ _ rfl _ (vc cur[j]) _ ?_ ?_ HZ.out HLL.out Try.underlying35 ?_ HO1.out ?_); rfl; rfl; exact cells_vote hol.out; intro w2 hw2 hg2 hz2; have hf0 := HF0.out w2 _ hw2; have hf1 := HF1.out w2 _ hw2; have HG2 := Lib.hid (grown_over_alloc hg2); have HZ2 := Lib.hid hz2; clear hw2 hg2 hz2))
          have HROOT2 := Lib.hid (HROOT.out.grown HG2.out (ne_some (by have := HROOT.out.lt; omega)))
          have HTAB2 := Lib.hid (HTAB.out.grown HG2.out (ne_some (by omega)) (ne_some (by have := HTAB.out.2.1.lt; omega)))
          have HGR2 := Lib.hid (grown_new HGR.out HG2.out HGR.out.size)
          have hc2 : w2.cell? ⟨g, 0, none⟩ = some (.slice (some ⟨h, 0, none⟩) vs.length vs.length) := by rw [HTAB2.out.1.cell, hcl]; rfl
          have HT2 := Lib.hid HTAB2.out.2.1.drew
          have HROOT3 : Hid (Has { w2 with drawn := w2.drawn + 1 } w.heap.size (ints .u8 r)) := HROOT2.out.drew
          refine wp_region_still_tail 9 (by kernel_rfl) (by kernel_rfl) ?_
          simp only [List.take_succ_cons, List.take_zero, List.drop_succ_cons, List.drop_zero]
          repeat (first | ((with_reducible refine still_loadB 32 _ rfl _ _ ?_ ?_ HROOT3.out Try.underlying32 ?_ ?_ ?_); rfl; rfl; rfl; exact cells_root HLR.out; (simp only [Act.put, List.setIfInBounds_toArray, List.set_cons_succ, List.set_cons_zero])) | still_step)
          refine wpStill_nil ?_
          change wpList _ _ _ _ _ w2.drew
          go_wp2_with ((with_reducible refine wpList_storeE (f := vc) (k := 34) 35 _ _ rfl rfl h cur j ?_ (true, ep, r) ?_ HT2.out HTl.out hjl HVR.out Try.underlying35 ?_ HV1.out ?_); rfl; rfl; exact cells_vote'; intro w3 hw3 hg3 hz3; have HW3 := Lib.hid hw3; have HG3 := Lib.hid hg3; clear hw3 hg3 hz3)
          go_roundw
          case rel =>
            refine ⟨k + 1, cur.set j (true, ep, r), cnt + 1, by omega, by go_num, by go_num, by omega, ?_, HTAB2.out.setE HW3.out (grown_drew HG3.out) HLR.out, by rw [List.length_set]; exact hcl, grown_trans HGR2.out (grown_drew HG3.out), HROOT2.out.grown (grown_drew HG3.out) (ne_some (by omega))⟩
            rw [HGO.out, hd.out, castGo, if_neg (by rw [hgd.out]; exact HNK.out), Int.toNat_natCast]
          case measure => simp [intOf]; omega
        | true =>
          have HF0 : Hid (∀ (w2 : World) (b : Nat), Has w2 b (vc cur[j]) → w2.cell? ⟨b, 0, none⟩ = some (.bool true)) := fun w2 b hb => by rw [hb.cell, ← ho]; rfl
          by_cases hge : cur[j].2.1 ≥ ep
          · have HK := Lib.hid (show keeps cur[j] ep from ⟨ho, hge⟩)
            clear ho
            go_wp2_with (first | ((with_reducible refine wpList_loadE 35 _ rfl ?_ h cur j ?_ HTh.out HTl.out hjl Try.underlying35 ?_ ?_ ?_); rfl; rfl; rfl; exact cells_vote') | ((with_reducible refine wpList_storeB rfl 35 _ _ rfl _ (vc cur[j]) _ ?_ ?_ HZ.out HLL.out Try.underlying35 ?_ HO1.out ?_); rfl; rfl; exact cells_vote hol.out; intro w2 hw2 hg2 hz2; have hf0 := HF0.out w2 _ hw2; have hf1 := HF1.out w2 _ hw2; have HG2 := Lib.hid (grown_over_alloc hg2); have HZ2 := Lib.hid hz2; clear hw2 hg2 hz2))
            go_roundw
            case rel =>
              refine ⟨k + 1, cur, cnt, by omega, by go_num, rfl, by omega, ?_, HTAB.out.grown HG2.out (ne_some (by omega)) (ne_some (by have := HTAB.out.2.1.lt; omega)), hcl, grown_new HGR.out HG2.out HGR.out.size, HROOT.out.grown HG2.out (ne_some (by have := HROOT.out.lt; omega))⟩
              rw [HGO.out, hd.out, castGo, if_pos (by rw [hgd.out]; exact HK.out)]
            case measure => simp [intOf]; omega
          · have hnk : ¬ keeps cur[j] ep := fun hkk => hge hkk.2
            have HNK := Lib.hid hnk
            clear hnk ho
            go_wp2_with (first | ((with_reducible refine wpList_loadE 35 _ rfl ?_ h cur j ?_ HTh.out HTl.out hjl Try.underlying35 ?_ ?_ ?_); rfl; rfl; rfl; exact cells_vote') | ((with_reducible refine wpList_storeB rfl 35 _ _ rfl _ (vc cur[j]) _ ?_ ?_ HZ.out HLL.out Try.underlying35 ?_ HO1.out ?_); rfl; rfl; exact cells_vote hol.out; intro w2 hw2 hg2 hz2; have hf0 := HF0.out w2 _ hw2; have hf1 := HF1.out w2 _ hw2; have HG2 := Lib.hid (grown_over_alloc hg2); have HZ2 := Lib.hid hz2; clear hw2 hg2 hz2))
            have HROOT2 := Lib.hid (HROOT.out.grown HG2.out (ne_some (by have := HROOT.out.lt; omega)))
            have HTAB2 := Lib.hid (HTAB.out.grown HG2.out (ne_some (by omega)) (ne_some (by have := HTAB.out.2.1.lt; omega)))
            have HGR2 := Lib.hid (grown_new HGR.out HG2.out HGR.out.size)
            have hc2 : w2.cell? ⟨g, 0, none⟩ = some (.slice (some ⟨h, 0, none⟩) vs.length vs.length) := by rw [HTAB2.out.1.cell, hcl]; rfl
            have HT2 := Lib.hid HTAB2.out.2.1.drew
            have HROOT3 : Hid (Has { w2 with drawn := w2.drawn + 1 } w.heap.size (ints .u8 r)) := HROOT2.out.drew
            refine wp_region_still_tail 9 (by kernel_rfl) (by kernel_rfl) ?_
            simp only [List.take_succ_cons, List.take_zero, List.drop_succ_cons, List.drop_zero]
            repeat (first | ((with_reducible refine still_loadB 32 _ rfl _ _ ?_ ?_ HROOT3.out Try.underlying32 ?_ ?_ ?_); rfl; rfl; rfl; exact cells_root HLR.out; (simp only [Act.put, List.setIfInBounds_toArray, List.set_cons_succ, List.set_cons_zero])) | still_step)
            refine wpStill_nil ?_
            change wpList _ _ _ _ _ w2.drew
            go_wp2_with ((with_reducible refine wpList_storeE (f := vc) (k := 34) 35 _ _ rfl rfl h cur j ?_ (true, ep, r) ?_ HT2.out HTl.out hjl HVR.out Try.underlying35 ?_ HV1.out ?_); rfl; rfl; exact cells_vote'; intro w3 hw3 hg3 hz3; have HW3 := Lib.hid hw3; have HG3 := Lib.hid hg3; clear hw3 hg3 hz3)
            go_roundw
            case rel =>
              refine ⟨k + 1, cur.set j (true, ep, r), cnt + 1, by omega, by go_num, by go_num, by omega, ?_, HTAB2.out.setE HW3.out (grown_drew HG3.out) HLR.out, by rw [List.length_set]; exact hcl, grown_trans HGR2.out (grown_drew HG3.out), HROOT2.out.grown (grown_drew HG3.out) (ne_some (by omega))⟩
              rw [HGO.out, hd.out, castGo, if_neg (by rw [hgd.out]; exact HNK.out), Int.toNat_natCast]
            case measure => simp [intOf]; omega
      · have hkk : k = n := by omega
        subst hkk
        have hfin : castGo ep r vs l 0 = (cur, cnt) := by rw [HGO.out, List.drop_of_length_le (by rw [HLEN.out]; exact Nat.le_refl _)]; rfl
        have HFIN := Lib.hid hfin
        clear hfin
        go_wp2_with fail
        go_ret2
        refine ⟨?_, ?_, HGR.out⟩
        · unfold castN
          rw [if_pos hvv.out, hvv.out, HFIN.out]
          rfl
        · unfold castV
          rw [if_pos hvv.out, HFIN.out]
          exact HTAB.out
  · have hvv := Lib.hid hv
    have hvb : (vErr l vs.length != 0) = true := by simpa using hv
    clear hv
    go_enter Try.func13, Try.ntmps13
    go_wp2_with (go_at_call 39; refine HV.out.mono ?_; rintro e w' ⟨rfl, rfl⟩)
    go_ret2
    refine ⟨?_, ?_, World.grownBy_alloc w _ _⟩
    · unfold castN
      rw [if_neg hvv.out]
      rfl
    · unfold castV
      rw [if_neg hvv.out]
      exact HT.out.alloc _
end Go.Proofs.Ytfkimlmfgipfjaa
