/- Lists of validators: what both checks answer. -/
import Derived.Test.YtekikfdlnkcenaaVotes
import Derived.StillTailTactics
import Derived.Deep.Onto
import Derived.Test.YtekikfdlnkcenaaMidP
namespace Go.Proofs.Ytekikfdlnkcenaa.Vv
open Go.RowKit
def hits : Option Int → Int → Bool
  | some q, v => decide (v ≤ q)
  | none, _ => false
/-- the answer for the rest of a list behind a number -/
def vErrGo (m : Int) : Option Int → List Int → Int
  | _, [] => 0
  | p, v :: r => if v < 0 ∨ m ≤ v then 3 else if hits p v = true then 8 else vErrGo m (some v) r
def vErr (l : List Int) (m : Int) : Int := if l = [] then 2 else vErrGo m none l
def pv (l : List Int) : Nat → Option Int
  | 0 => none
  | j + 1 => some (l.getD j 0)

theorem vErrGo_cons (m : Int) (p : Option Int) (v : Int) (r : List Int) : vErrGo m p (v :: r) = if v < 0 ∨ m ≤ v then 3 else if hits p v = true then 8 else vErrGo m (some v) r := by cases p <;> rfl
theorem getD_at {l : List Int} {k : Nat} (h : k < l.length) : l.getD k 0 = l[k] := by simp [List.getD_eq_getElem?_getD, List.getElem?_eq_getElem h]
theorem pv_pos {l : List Int} {k : Nat} (hk : 0 < k) (h : k - 1 < l.length) : pv l k = some l[k - 1] := by
  obtain ⟨j, rfl⟩ : ∃ j, k = j + 1 := ⟨k - 1, by omega⟩
  have h' : j < l.length := by omega
  rw [pv, getD_at h']
  simp
theorem add_zero_addr (a : Addr) : a.add 0 = a := by unfold Addr.add; split <;> simp_all
theorem vErrGo_full (m : Int) (p : Option Int) : vErrGo m p [] = 0 := rfl
theorem drop_at {l : List Int} {k : Nat} (h : k < l.length) : l.drop k = l[k] :: l.drop (k + 1) := (List.getElem_cons_drop h).symm

set_option maxHeartbeats 800000 in
theorem validate_any (B : Nat) (A : Option Addr) (n c : Nat) (l : List Int) (m : Int) (w : World) (hr : Row w B 1 A n (ints .i64 l)) (hn : n ≤ 9223372036854775807) :
    Calls Try.prog 89 #[.slice A n c, .int .i64 m] w fun e w' => e = .returned (.int .i64 (vErr l m)) ∧ w = w' := by
  have hlen : l.length = n := by have := hr.1; simpa [ints] using this
  by_cases h0 : n = 0
  · subst h0
    obtain rfl : l = [] := List.eq_nil_of_length_eq_zero hlen
    go_enter Try.func89, Try.ntmps89
    go_wp2
    go_ret
    exact ⟨rfl, rfl⟩
  · have hne : ¬ (n : Int) = 0 := by omega
    have hv : Hid (vErr l m = vErrGo m none l) := by show _ = _; unfold vErr; rw [if_neg (fun h => h0 (by rw [← hlen, h]; rfl))]
    go_enter Try.func89, Try.ntmps89
    go_wp2
    go_loop [5, 6, 12] (fun p q i => ∃ k : Nat, k ≤ n ∧ i = .int .i64 k ∧ vErrGo m none l = vErrGo m (pv l k) (l.drop k)) (fun _ _ i => n - (intOf i).toNat)
    case atStart => exact ⟨0, Nat.zero_le _, rfl, rfl⟩
    case round =>
      obtain ⟨k, hk, rfl, hrel⟩ := hrel
      have HREL := Lib.hid hrel
      clear hrel
      by_cases hkn : k < n
      · have hkl : k < l.length := by omega
        have hu : (ints .i64 l)[k]? = some (.int .i64 l[k]) := by unfold ints; rw [List.getElem?_map, List.getElem?_eq_getElem hkl]; rfl
        obtain ⟨ad, rfl, hb, hc⟩ := hr.at_ hu
        have HLEN := Lib.hid hlen
        have hd := Lib.hid (drop_at hkl)
        clear hlen hu
        by_cases hv0 : l[k] < 0
        · have hres : vErrGo m none l = 3 := by rw [HREL.out, hd.out, vErrGo_cons, if_pos (Or.inl hv0)]
          have HRES := Lib.hid hres
          clear hres
          generalize l[k] = x at *
          go_wp2
          go_ret
          exact ⟨by rw [hv.out, HRES.out]; rfl, rfl⟩
        · by_cases hv1 : l[k] ≥ m
          · have hres : vErrGo m none l = 3 := by rw [HREL.out, hd.out, vErrGo_cons, if_pos (Or.inr hv1)]
            have HRES := Lib.hid hres
            clear hres
            generalize l[k] = x at *
            go_wp2
            go_ret
            exact ⟨by rw [hv.out, HRES.out]; rfl, rfl⟩
          · have hno : ¬ (l[k] < 0 ∨ m ≤ l[k]) := by omega
            by_cases hk0 : k = 0
            · subst hk0
              have hres : vErrGo m none l = vErrGo m (pv l 1) (l.drop 1) := by
                rw [HREL.out, hd.out, vErrGo_cons, if_neg hno, pv, pv, if_neg (by simp [hits]), getD_at hkl]
              have HRES := Lib.hid hres
              clear hres hno
              have hc0 : w.cell? ad = some (.int .i64 l[0]) := by rw [add_zero_addr] at hc; exact hc
              generalize l[0] = x at *
              go_wp2
              go_round
              case rel => exact ⟨1, by omega, by go_num, HRES.out⟩
              case measure => simp [intOf]; omega
            · have hpos : (0 : Int) < (k : Int) := by omega
              have hj : k - 1 < l.length := by omega
              have hu2 : (ints .i64 l)[k - 1]? = some (.int .i64 l[k - 1]) := by unfold ints; rw [List.getElem?_map, List.getElem?_eq_getElem hj]; rfl
              obtain ⟨ad2, had, hb2, hc2⟩ := hr.at_ hu2
              obtain rfl : ad2 = ad := by injection had with h; exact h.symm
              have hpp := pv_pos (l := l) (k := k) (by omega) hj
              have hp1 : pv l (k + 1) = some l[k] := by rw [pv, getD_at hkl]
              clear hu2 had
              by_cases hle : l[k] ≤ l[k - 1]
              · have hres : vErrGo m none l = 8 := by
                  rw [HREL.out, hd.out, vErrGo_cons, if_neg hno, hpp, if_pos (by simpa [hits] using hle)]
                have HRES := Lib.hid hres
                clear hres hno hpp hp1
                generalize l[k] = x at *
                generalize l[k - 1] = y at *
                go_wp2
                go_ret
                exact ⟨by rw [hv.out, HRES.out]; rfl, rfl⟩
              · have hres : vErrGo m none l = vErrGo m (pv l (k + 1)) (l.drop (k + 1)) := by
                  rw [HREL.out, hd.out, vErrGo_cons, if_neg hno, hpp, hp1, if_neg (by simpa [hits] using hle)]
                have HRES := Lib.hid hres
                clear hres hno hpp hp1
                generalize l[k] = x at *
                generalize l[k - 1] = y at *
                go_wp2
                go_round
                case rel => exact ⟨_, _, _, _, ⟨k + 1, by omega, rfl, HRES.out⟩, rfl, rfl, rfl, by go_num⟩
                case measure => simp [intOf]; omega
      · have hkk : k = n := by omega
        subst hkk
        have hres : vErrGo m none l = 0 := by rw [HREL.out, List.drop_of_length_le (by omega), vErrGo_full]
        have HRES := Lib.hid hres
        clear hres hlen
        go_wp2
        go_ret
        exact ⟨by rw [hv.out, HRES.out]; rfl, rfl⟩
/-- in a drawing region whose operations leave the world alone: a variable of several cells is read -/
theorem still_loadB {P : Program} {ops : Array Oper} {rest : List Oper} {w : World} {o : Oper} {a : Act} {Q : Act → Prop} (ty : TypeId) (x : Operand) (ho : o.op = .load ty x)
    (g : Nat) (cs : List Value) (hgd : Region.wanted o (yielded ops a.tmps) = true) (hx : a.eval x = .pointer (some ⟨g, 0, none⟩)) (hg : Has w g cs) {d : TypeDesc}
    (hu : P.underlying ty = some d) (hd : (match d with | .struct _ | .array _ _ => true | _ => false) = true) (hi : P.cellsOf ty = cs.length)
    (h : wpStill P ops w Q rest (a.put o.dst (.agg cs.toArray))) : wpStill P ops w Q (o :: rest) a := by
  unfold wpStill
  rw [if_pos hgd]
  unfold Oper.still execOp
  have := run_loadB (P := P) hg hu hd hi
  simp only [ho, hx, Instr.loadAt, Instr.sureAddr, Sem.run_bind, Sem.run_pure, Result.andThen_ok, this]
  exact ⟨rfl, h⟩

theorem _root_.Go.Proofs.Ytekikfdlnkcenaa.Row.apart {w w' : World} {B size n h : Nat} {A : Option Addr} {xs : List Value} (hr : Row w B size A n xs) (hg : w.grownBy w' (some h)) (hB : B ≤ w.heap.size) (hne : ∀ ad, A = some ad → ad.block ≠ h) : Row w' B size A n xs :=
  ⟨hr.1, fun j u hu => by
    obtain ⟨ad, e, hb, hc⟩ := hr.2 j u hu
    exact ⟨ad, e, hb, hg.cell hc (by rw [add_block]; exact fun q => hne ad e (by injection q))⟩⟩
theorem _root_.Go.Proofs.Ytekikfdlnkcenaa.Tab.grown {w w' : World} {g h : Nat} {vs : List Vt} {row : Option Nat} (t : Tab w g h vs) (hb : w.grownBy w' row) (hg : some g ≠ row) (hh : some h ≠ row) : Tab w' g h vs := ⟨t.1.grown hb hg, t.2.1.grown hb hh, t.2.2⟩

theorem grown_new {w wr w2 : World} {row : Option Nat} {b : Nat} (h1 : w.grownBy wr row) (h2 : wr.grownBy w2 (some b)) (hb : w.heap.size ≤ b) : w.grownBy w2 row :=
  ⟨h2.os.trans h1.os, h2.tape.trans h1.tape, h2.output.trans h1.output, Nat.le_trans h1.size h2.size, fun k hk hne => (h2.block k (Nat.lt_of_lt_of_le hk h1.size) (fun e => by injection e with e; omega)).trans (h1.block k hk hne)⟩
theorem ne_some {a b : Nat} (h : a ≠ b) : some a ≠ some b := fun e => h (by injection e)
theorem _root_.Go.Proofs.Ytekikfdlnkcenaa.Tab.setE {w w' : World} {g h : Nat} {vs : List Vt} {j : Nat} {v : Vt} (t : Tab w g h vs) (hh : Has w' h ((vs.set j v).flatMap vc)) (hg : w.grownBy w' (some h)) (hv : v.2.2.length = 32) : Tab w' g h (vs.set j v) :=
  ⟨by rw [List.length_set]; exact t.1.grown hg (fun e => t.2.2.2 (by injection e)), hh, fun u hu => by
    rcases List.mem_or_eq_of_mem_set hu with h1 | rfl
    · exact t.2.2.1 u h1
    · exact hv, t.2.2.2⟩
theorem grown_drew {w w' : World} {row : Option Nat} (h : w.drew.grownBy w' row) : w.grownBy w' row := ⟨h.os, h.tape, h.output, h.size, h.block⟩
/-- whether an old vote stays -/
def keeps (o : Vt) (ep : Int) : Prop := o.1 = true ∧ ep ≤ o.2.1
instance (o : Vt) (ep : Int) : Decidable (keeps o ep) := inferInstanceAs (Decidable (_ ∧ _))
/-- the votes after casts, and how many have changed -/
def castGo (ep : Int) (r : List Int) : List Vt → List Int → Nat → List Vt × Nat
  | vs, [], c => (vs, c)
  | vs, v :: l, c => if keeps (vs.getD v.toNat zv) ep then castGo ep r vs l c else castGo ep r (vs.set v.toNat (true, ep, r)) l (c + 1)
theorem castGo_len (ep : Int) (r : List Int) : ∀ (l : List Int) (vs : List Vt) (c : Nat), (castGo ep r vs l c).1.length = vs.length
  | [], vs, c => rfl
  | v :: l, vs, c => by unfold castGo; split <;> rw [castGo_len ep r l]; simp
theorem vErrGo_mem (m : Int) : ∀ (l : List Int) (p : Option Int), vErrGo m p l = 0 → ∀ v ∈ l, 0 ≤ v ∧ v < m
  | [], _, _, v, hv => by cases hv
  | x :: l, p, h, v, hv => by
    rw [vErrGo_cons] at h
    by_cases h1 : x < 0 ∨ m ≤ x
    · rw [if_pos h1] at h; omega
    · rw [if_neg h1] at h
      by_cases h2 : hits p x = true
      · rw [if_pos h2] at h; omega
      · rw [if_neg h2] at h
        rcases List.mem_cons.1 hv with rfl | hv
        · omega
        · exact vErrGo_mem m l _ h v hv
theorem vErr_mem {l : List Int} {m : Int} (h : vErr l m = 0) : ∀ v ∈ l, 0 ≤ v ∧ v < m := by
  unfold vErr at h
  split at h
  · cases h
  · exact vErrGo_mem m l _ h

def castV (ep : Int) (r : List Int) (vs : List Vt) (l : List Int) : List Vt := if vErr l vs.length = 0 then (castGo ep r vs l 0).1 else vs
def castN (ep : Int) (r : List Int) (vs : List Vt) (l : List Int) : Nat := if vErr l vs.length = 0 then (castGo ep r vs l 0).2 else 0

def CastPost (ep : Int) (r : List Int) (vs : List Vt) (l : List Int) (g h : Nat) (w : World) (e : Ending) (w' : World) : Prop :=
  e = .returned (.tuple #[.int .i64 (castN ep r vs l), .int .i64 (vErr l vs.length)]) ∧ Tab w' g h (castV ep r vs l) ∧ w.grownBy w' (some h)

set_option maxRecDepth 20000 in
set_option maxHeartbeats 1000000 in
theorem cast_any {g h : Nat} {vs : List Vt} (ep : Int) (r : List Int) (lr : r.length = 32) (A : Option Addr) (n c : Nat) (l : List Int) (w : World) (ht : Tab w g h vs) (hr : Row w w.heap.size 1 A n (ints .i64 l))
    (hne : ∀ ad, A = some ad → ad.block ≠ h) (hn : n ≤ 9223372036854775807) :
    Calls Try.prog 57 #[.pointer (some ⟨g, 0, none⟩), .int .u64 ep, .agg (ints .u8 r).toArray, .slice A n c] w (CastPost ep r vs l g h w) := by
  have hlen : l.length = n := by have := hr.1; simpa [ints] using this
  have hg := ht.1.lt
  have hh := ht.2.1.lt
  have hgh := ht.2.2.2
  have hc : w.cell? ⟨g, 0, none⟩ = some (.slice (some ⟨h, 0, none⟩) vs.length vs.length) := by rw [ht.1.cell]; rfl
  have HV := Lib.hid (validate_any w.heap.size A n c l vs.length (w.alloc (.cells (ints .u8 r).toArray 33)) (hr.alloc (Nat.le_refl _) _) hn)
  have HT := Lib.hid ht
  have HR := Lib.hid hr
  have HNE := Lib.hid hne
  have HX := Lib.hid (Has.new w (ints .u8 r) 33)
  have HLEN := Lib.hid hlen
  have HLR := Lib.hid lr
  have hr1 : Hid (∀ wr, w.grownBy wr (some h) → Row wr w.heap.size 1 A n (ints .i64 l)) := fun wr hw => hr.apart hw (Nat.le_refl _) hne
  clear ht hr hne hlen lr
  by_cases hv : vErr l vs.length = 0
  · have hmem := Lib.hid (vErr_mem hv)
    have hvv := Lib.hid hv
    rw [hv] at HV
    clear hv
    go_enter Try.func57, Try.ntmps57
    go_wp2_with (go_at_call 89; refine HV.out.mono ?_; rintro e w' ⟨rfl, rfl⟩)
    go_loopw [8, 26] (fun q i wr => ∃ (k : Nat) (cur : List Vt) (cnt : Nat), k ≤ n ∧ i = .int .i64 k ∧ q = .int .i64 cnt ∧ cnt ≤ k ∧ castGo ep r vs l 0 = castGo ep r cur (l.drop k) cnt ∧ Tab wr g h cur ∧ cur.length = vs.length ∧ w.grownBy wr (some h) ∧ Has wr w.heap.size (ints .u8 r)) (fun _ i _ => n - (intOf i).toNat)
    case atStart => exact ⟨0, vs, 0, Nat.zero_le _, rfl, rfl, Nat.le_refl _, rfl, HT.out.alloc _, rfl, World.grownBy_alloc w _ _, HX.out⟩
    case round =>
      obtain ⟨k, cur, cnt, hk, rfl, rfl, hck, hgo, htab, hcl, hgr, hroot⟩ := hrel
      have HGO := Lib.hid hgo
      have HTAB := Lib.hid htab
      have HGR := Lib.hid hgr
      have HROOT := Lib.hid hroot
      have hgs := Nat.lt_of_lt_of_le hg hgr.size
      have hc1 : wr.cell? ⟨g, 0, none⟩ = some (.slice (some ⟨h, 0, none⟩) vs.length vs.length) := by rw [htab.1.cell, hcl]; rfl
      have hrow := hr1.out wr hgr
      clear hgo htab hgr hroot
      by_cases hkn : k < n
      · have hkl : k < l.length := by rw [HLEN.out]; exact hkn
        have hu : (ints .i64 l)[k]? = some (.int .i64 l[k]) := by unfold ints; rw [List.getElem?_map, List.getElem?_eq_getElem hkl]; rfl
        obtain ⟨ad, rfl, hb, hca⟩ := hrow.at_ hu
        obtain ⟨hm0, hm1⟩ := hmem.out l[k] (List.getElem_mem hkl)
        have hd := Lib.hid (drop_at hkl)
        clear hrow hu
        generalize l[k] = x at *
        obtain ⟨j, rfl⟩ : ∃ j : Nat, x = (j : Int) := ⟨x.toNat, by omega⟩
        have hjl : j < cur.length := by omega
        have hgd : Hid (cur.getD (j : Int).toNat zv = cur[j]) := by show _ = _; rw [Int.toNat_natCast, List.getD_eq_getElem?_getD, List.getElem?_eq_getElem hjl]; rfl
        have hol : Hid (cur[j].2.2.length = 32) := HTAB.out.2.2.1 _ (List.getElem_mem hjl)
        have HTh := Lib.hid HTAB.out.2.1
        have HTl := Lib.hid HTAB.out.2.2.1.len
        have HZ := Lib.hid (Has.new wr (vc zv) 170)
        have HLL : Hid ((vc zv).length = (vc cur[j]).length) := by show _ = _; rw [vc_len hol.out]; rfl
        have HO1 := Lib.hid (vc_one cur[j])
        have HF1 : Hid (∀ (w2 : World) (b : Nat), Has w2 b (vc cur[j]) → w2.cell? ⟨b, 1, none⟩ = some (.int .u64 cur[j].2.1)) := fun w2 b hb => by rw [hb.cell]; rfl
        have HVR : Hid ((vc (true, ep, r)).length = 34) := vc_len HLR.out
        have HV1 := Lib.hid (vc_one (true, ep, r))
        have hzv := zv_lit
        have hz1 := vote_zero_len
        have hz0 := vote_zero_ne
        have hr32 : (ints .u8 r).length = 32 := by rw [ints, List.length_map]; exact HLR.out
        have hfold := vote_fold ep HLR.out
        cases ho : cur[j].1 with
        | false =>
          have HF0 : Hid (∀ (w2 : World) (b : Nat), Has w2 b (vc cur[j]) → w2.cell? ⟨b, 0, none⟩ = some (.bool false)) := fun w2 b hb => by rw [hb.cell, ← ho]; rfl
          have hnk : ¬ keeps cur[j] ep := fun hkk => by rw [hkk.1] at ho; cases ho
          have HNK := Lib.hid hnk
          clear hnk ho
          go_wp2_with (first | ((with_reducible refine wpList_loadE 170 _ rfl ?_ h cur j ?_ HTh.out HTl.out hjl Try.underlying170 ?_ ?_ ?_); rfl; rfl; rfl; exact cells_vote') | ((with_reducible refine wpList_storeB rfl 170 _ _ rfl _ (vc cur[j]) _ ?_ ?_ HZ.out HLL.out Try.underlying170 ?_ HO1.out ?_); rfl; rfl; exact cells_vote hol.out; intro w2 hw2 hg2 hz2; have hf0 := HF0.out w2 _ hw2; have hf1 := HF1.out w2 _ hw2; have HG2 := Lib.hid (grown_over_alloc hg2); have HZ2 := Lib.hid hz2; clear hw2 hg2 hz2))
          have HROOT2 := Lib.hid (HROOT.out.grown HG2.out (ne_some (by have := HROOT.out.lt; omega)))
          have HTAB2 := Lib.hid (HTAB.out.grown HG2.out (ne_some (by omega)) (ne_some (by have := HTAB.out.2.1.lt; omega)))
          have HGR2 := Lib.hid (grown_new HGR.out HG2.out HGR.out.size)
          have hc2 : w2.cell? ⟨g, 0, none⟩ = some (.slice (some ⟨h, 0, none⟩) vs.length vs.length) := by rw [HTAB2.out.1.cell, hcl]; rfl
          have HT2 := Lib.hid HTAB2.out.2.1.drew
          have HROOT3 : Hid (Has { w2 with drawn := w2.drawn + 1 } w.heap.size (ints .u8 r)) := HROOT2.out.drew
          refine wp_region_still_tail 9 (by kernel_rfl) (by kernel_rfl) ?_
          simp only [List.take_succ_cons, List.take_zero, List.drop_succ_cons, List.drop_zero]
          repeat (first | ((with_reducible refine still_loadB 33 _ rfl _ _ ?_ ?_ HROOT3.out Try.underlying33 ?_ ?_ ?_); rfl; rfl; rfl; exact cells_root HLR.out; (simp only [Act.put, List.setIfInBounds_toArray, List.set_cons_succ, List.set_cons_zero])) | still_step)
          refine wpStill_nil ?_
          change wpList _ _ _ _ _ w2.drew
          go_wp2_with ((with_reducible refine wpList_storeE (f := vc) (k := 34) 170 _ _ rfl rfl h cur j ?_ (true, ep, r) ?_ HT2.out HTl.out hjl HVR.out Try.underlying170 ?_ HV1.out ?_); rfl; rfl; exact cells_vote'; intro w3 hw3 hg3 hz3; have HW3 := Lib.hid hw3; have HG3 := Lib.hid hg3; clear hw3 hg3 hz3)
          go_roundw
          case rel =>
            refine ⟨k + 1, cur.set j (true, ep, r), cnt + 1, by omega, by go_num, by go_num, by omega, ?_, HTAB2.out.setE HW3.out (grown_drew HG3.out) HLR.out, by rw [List.length_set]; exact hcl, grown_trans HGR2.out (grown_drew HG3.out), HROOT2.out.grown (grown_drew HG3.out) (ne_some (by omega))⟩
            rw [HGO.out, hd.out, castGo, if_neg (by rw [hgd.out]; exact HNK.out), Int.toNat_natCast]
          case measure => simp [intOf]; omega
        | true =>
          have HF0 : Hid (∀ (w2 : World) (b : Nat), Has w2 b (vc cur[j]) → w2.cell? ⟨b, 0, none⟩ = some (.bool true)) := fun w2 b hb => by rw [hb.cell, ← ho]; rfl
          by_cases hge : cur[j].2.1 ≥ ep
          · have HK := Lib.hid (show keeps cur[j] ep from ⟨ho, hge⟩)
            clear ho
            go_wp2_with (first | ((with_reducible refine wpList_loadE 170 _ rfl ?_ h cur j ?_ HTh.out HTl.out hjl Try.underlying170 ?_ ?_ ?_); rfl; rfl; rfl; exact cells_vote') | ((with_reducible refine wpList_storeB rfl 170 _ _ rfl _ (vc cur[j]) _ ?_ ?_ HZ.out HLL.out Try.underlying170 ?_ HO1.out ?_); rfl; rfl; exact cells_vote hol.out; intro w2 hw2 hg2 hz2; have hf0 := HF0.out w2 _ hw2; have hf1 := HF1.out w2 _ hw2; have HG2 := Lib.hid (grown_over_alloc hg2); have HZ2 := Lib.hid hz2; clear hw2 hg2 hz2))
            go_roundw
            case rel =>
              refine ⟨k + 1, cur, cnt, by omega, by go_num, rfl, by omega, ?_, HTAB.out.grown HG2.out (ne_some (by omega)) (ne_some (by have := HTAB.out.2.1.lt; omega)), hcl, grown_new HGR.out HG2.out HGR.out.size, HROOT.out.grown HG2.out (ne_some (by have := HROOT.out.lt; omega))⟩
              rw [HGO.out, hd.out, castGo, if_pos (by rw [hgd.out]; exact HK.out)]
            case measure => simp [intOf]; omega
          · have hnk : ¬ keeps cur[j] ep := fun hkk => hge hkk.2
            have HNK := Lib.hid hnk
            clear hnk ho
            go_wp2_with (first | ((with_reducible refine wpList_loadE 170 _ rfl ?_ h cur j ?_ HTh.out HTl.out hjl Try.underlying170 ?_ ?_ ?_); rfl; rfl; rfl; exact cells_vote') | ((with_reducible refine wpList_storeB rfl 170 _ _ rfl _ (vc cur[j]) _ ?_ ?_ HZ.out HLL.out Try.underlying170 ?_ HO1.out ?_); rfl; rfl; exact cells_vote hol.out; intro w2 hw2 hg2 hz2; have hf0 := HF0.out w2 _ hw2; have hf1 := HF1.out w2 _ hw2; have HG2 := Lib.hid (grown_over_alloc hg2); have HZ2 := Lib.hid hz2; clear hw2 hg2 hz2))
            have HROOT2 := Lib.hid (HROOT.out.grown HG2.out (ne_some (by have := HROOT.out.lt; omega)))
            have HTAB2 := Lib.hid (HTAB.out.grown HG2.out (ne_some (by omega)) (ne_some (by have := HTAB.out.2.1.lt; omega)))
            have HGR2 := Lib.hid (grown_new HGR.out HG2.out HGR.out.size)
            have hc2 : w2.cell? ⟨g, 0, none⟩ = some (.slice (some ⟨h, 0, none⟩) vs.length vs.length) := by rw [HTAB2.out.1.cell, hcl]; rfl
            have HT2 := Lib.hid HTAB2.out.2.1.drew
            have HROOT3 : Hid (Has { w2 with drawn := w2.drawn + 1 } w.heap.size (ints .u8 r)) := HROOT2.out.drew
            refine wp_region_still_tail 9 (by kernel_rfl) (by kernel_rfl) ?_
            simp only [List.take_succ_cons, List.take_zero, List.drop_succ_cons, List.drop_zero]
            repeat (first | ((with_reducible refine still_loadB 33 _ rfl _ _ ?_ ?_ HROOT3.out Try.underlying33 ?_ ?_ ?_); rfl; rfl; rfl; exact cells_root HLR.out; (simp only [Act.put, List.setIfInBounds_toArray, List.set_cons_succ, List.set_cons_zero])) | still_step)
            refine wpStill_nil ?_
            change wpList _ _ _ _ _ w2.drew
            go_wp2_with ((with_reducible refine wpList_storeE (f := vc) (k := 34) 170 _ _ rfl rfl h cur j ?_ (true, ep, r) ?_ HT2.out HTl.out hjl HVR.out Try.underlying170 ?_ HV1.out ?_); rfl; rfl; exact cells_vote'; intro w3 hw3 hg3 hz3; have HW3 := Lib.hid hw3; have HG3 := Lib.hid hg3; clear hw3 hg3 hz3)
            go_roundw
            case rel =>
              refine ⟨k + 1, cur.set j (true, ep, r), cnt + 1, by omega, by go_num, by go_num, by omega, ?_, HTAB2.out.setE HW3.out (grown_drew HG3.out) HLR.out, by rw [List.length_set]; exact hcl, grown_trans HGR2.out (grown_drew HG3.out), HROOT2.out.grown (grown_drew HG3.out) (ne_some (by omega))⟩
              rw [HGO.out, hd.out, castGo, if_neg (by rw [hgd.out]; exact HNK.out), Int.toNat_natCast]
            case measure => simp [intOf]; omega
      · have hkk : k = n := by omega
        subst hkk
        have hfin : castGo ep r vs l 0 = (cur, cnt) := by rw [HGO.out, List.drop_of_length_le (by rw [HLEN.out]; exact Nat.le_refl _)]; rfl
        have HFIN := Lib.hid hfin
        clear hfin
        go_wp2_with fail
        go_ret2
        refine ⟨?_, ?_, HGR.out⟩
        · unfold castN
          rw [if_pos hvv.out, hvv.out, HFIN.out]
          rfl
        · unfold castV
          rw [if_pos hvv.out, HFIN.out]
          exact HTAB.out
  · have hvv := Lib.hid hv
    have hvb : (vErr l vs.length != 0) = true := by simpa using hv
    clear hv
    go_enter Try.func57, Try.ntmps57
    go_wp2_with (go_at_call 89; refine HV.out.mono ?_; rintro e w' ⟨rfl, rfl⟩)
    go_ret2
    refine ⟨?_, ?_, World.grownBy_alloc w _ _⟩
    · unfold castN
      rw [if_neg hvv.out]
      rfl
    · unfold castV
      rw [if_neg hvv.out]
      exact HT.out.alloc _
theorem _root_.Go.Proofs.Ytekikfdlnkcenaa.EqT.monoV {P : Program} {m m' : Nat} {t : TypeId} {K : List Value} (h : EqT P m t K) (hm : m ≤ m') : EqT P m' t K := ⟨h.1, fun d hd => h.2 d (Nat.le_trans hm hd)⟩
def kVote : List Value := .bool false :: .int .u64 0 :: (List.replicate 32 [Value.int .u8 0]).flatten
theorem eqVote : EqT Try.prog 3 170 kVote := by
  refine EqT.struct Try.underlying170 (by kernel_rfl) (by kernel_rfl) (by kernel_rfl) ?_
  refine ⟨[.bool false], _, rfl, by decide, rfl, (EqT.bool Try.underlying4 (by kernel_rfl)).monoV (by omega), ?_⟩
  refine ⟨[.int .u64 0], _, rfl, by decide, rfl, (EqT.int Try.underlying30 (by kernel_rfl)).monoV (by omega), ?_⟩
  exact ⟨(List.replicate 32 [Value.int .u8 0]).flatten, [], by simp, by decide, rfl, eqRoot, rfl⟩
theorem fits_vote {v : Vt} (h : v.2.2.length = 32) : Fits kVote (vc v) := ⟨rfl, rfl, fits_root h⟩
theorem vc_inj {a b : Vt} : vc a = vc b ↔ a = b := by
  constructor
  · intro h
    simp only [vc, List.cons.injEq, Value.bool.injEq, Value.int.injEq, true_and, ints_inj] at h
    obtain ⟨h1, h2, h3⟩ := h
    exact Prod.ext h1 (Prod.ext h2 h3)
  · rintro rfl; rfl
theorem vote_same {a b : Vt} (la : a.2.2.length = 32) (lb : b.2.2.length = 32) (w : World) :
    (Op.equalIn 10000 170 (.agg (vc a).toArray) (.agg (vc b).toArray)).run Try.prog w = .ok (decide (a = b)) w :=
  eqVote.same (by omega) (agg_of_struct Try.underlying170) (size_of_underlying Try.underlying170) (fits_vote la) (fits_vote lb) (vc_len la) (vc_len lb) (by simp [vc_inj]) w
theorem vote_field (v : Vt) (h : v.2.2.length = 32) (w : World) : (Instr.field 170 (.agg (vc v).toArray) 2).run Try.prog w = .ok (.agg (ints .u8 v.2.2).toArray) w := by
  have hp := part_agg (P := Try.prog) (t := 33) (xs := (vc v).toArray) (off := 2) (agg_of_array Try.underlying33) (size_of_underlying Try.underlying33) w
  have hc : Try.prog.cellsOf 33 = 32 := by kernel_rfl
  have he : (vc v).toArray.extract 2 (2 + 32) = (ints .u8 v.2.2).toArray := by
    simp [vc, ints]
    rw [List.take_of_length_le (by simp [h])]
  rw [hc, he] at hp
  simp [Instr.field, run_underlying Try.underlying170, asAgg, hp]
theorem info_int : (Try.prog.info? 3).map (fun i => (i.zero, i.size, i.bytes)) = some (some (.int .i64 0), 1, 8) := by kernel_rfl
/-- a part of a variable is read -/
theorem wpList_loadR {P : Program} {ops : Array Oper} {rest : List Oper} {op : Oper} {a : Act} {w : World} {Q : Exit → Act → World → Prop} (ty : TypeId) (x : Operand) (ho : op.op = .load ty x)
    (hgd : Region.wanted op (yielded ops a.tmps) = true) (g o : Nat) (cs : List Value) (hr : w.rangeAt g o cs) (hx : a.eval x = .pointer (some ⟨g, o, none⟩)) {d : TypeDesc} (hu : P.underlying ty = some d) (hd : d.isRow = true) (hc : P.cellsOf ty = cs.length)
    (h : wpList P ops Q rest (a.put op.dst (.agg cs.toArray)) w) : wpList P ops Q (op :: rest) a w :=
  wpList_go hgd fun K hK => wp_load_mid ty x ho g o hx cs d hr hu hd (info_size hu hc) (hK _ _ h)
theorem _root_.Go.Proofs.Ytekikfdlnkcenaa.Has.rootV {w : World} {g : Nat} {v : Vt} (h : Has w g (vc v)) : w.rangeAt g 2 (ints .u8 v.2.2) := fun j u hu => by
  rw [h.cell]
  have : (vc v)[2 + j]? = (ints .u8 v.2.2)[j]? := by
    rw [show vc v = [.bool v.1, .int .u64 v.2.1] ++ ints .u8 v.2.2 from rfl, List.getElem?_append_right (by simp)]
    simp
  rw [this, hu]

/-- whether a vote is for a root -/
def backs (v : Vt) (r : List Int) : Bool := v.1 && decide (v.2.2 = r)
/-- those among the first k validators -/
def supI (vs : List Vt) (r : List Int) (k : Nat) : List Int := ((List.range k).filter fun i => backs (vs.getD i zv) r).map Int.ofNat
theorem supI_yes {vs : List Vt} {r : List Int} {k : Nat} (h : backs (vs.getD k zv) r = true) : supI vs r (k + 1) = supI vs r k ++ [(k : Int)] := by
  simp only [supI, List.range_succ, List.filter_append, List.map_append]
  rw [List.filter_cons, if_pos (by exact h)]
  simp
theorem supI_no {vs : List Vt} {r : List Int} {k : Nat} (h : backs (vs.getD k zv) r = false) : supI vs r (k + 1) = supI vs r k := by
  simp only [supI, List.range_succ, List.filter_append, List.map_append]
  rw [List.filter_cons, if_neg (by rw [h]; simp)]
  simp
theorem supI_len (vs : List Vt) (r : List Int) (k : Nat) : (supI vs r k).length ≤ k := by
  simp only [supI, List.length_map]
  exact Nat.le_trans (List.length_filter_le _ _) (by simp)

def SupPost (l : List Int) (w : World) (e : Ending) (w' : World) : Prop :=
  ∃ v, e = .returned v ∧ w'.ownsRow w.heap.size 3 1 v l.length (ints .i64 l) ∧ Below w.heap.size w w'

set_option maxRecDepth 20000 in
set_option maxHeartbeats 1000000 in
theorem supporters_any {g h : Nat} {vs : List Vt} (r : List Int) (lr : r.length = 32) (w : World) (ht : Tab w g h vs) (hn : vs.length ≤ 1024) :
    Calls Try.prog 90 #[.pointer (some ⟨g, 0, none⟩), .agg (ints .u8 r).toArray] w (SupPost (supI vs r vs.length) w) := by
  obtain ⟨i0, hi0, hz0, hz1, hz2⟩ := info_parts info_int
  have HI := Lib.hid (show Try.prog.info? 3 = some i0 from hi0)
  have hg := ht.1.lt
  have hh := ht.2.1.lt
  have hc : w.cell? ⟨g, 0, none⟩ = some (.slice (some ⟨h, 0, none⟩) vs.length vs.length) := by rw [ht.1.cell]; rfl
  have HT := Lib.hid ht
  have HX := Lib.hid (Has.new w (ints .u8 r) 33)
  have HLR := Lib.hid lr
  obtain ⟨n, hvn⟩ : ∃ n, n = vs.length := ⟨_, rfl⟩
  have HVN := Lib.hid hvn
  rw [← hvn] at hc hn ⊢
  clear ht lr hvn
  go_enter Try.func90, Try.ntmps90
  go_wp2
  go_loopw [5, 13] (fun s i wr => ∃ k : Nat, k ≤ n ∧ i = .int .i64 k ∧ wr.ownsRow (w.heap.size + 1) 3 1 s (supI vs r k).length (ints .i64 (supI vs r k)) ∧ Below (w.heap.size + 1) (w.alloc (.cells (ints .u8 r).toArray 33)) wr) (fun _ i _ => n - (intOf i).toNat)
  case atStart => exact ⟨0, Nat.zero_le _, rfl, ⟨rfl, .inl ⟨rfl, rfl⟩⟩, Below.refl _ _⟩
  case round =>
    obtain ⟨k, hk, rfl, hown, hbel⟩ := hrel
    have HOWN := Lib.hid hown
    have HBEL := Lib.hid hbel
    clear hown hbel
    by_cases hkn : k < n
    · have hkl : k < vs.length := by rw [← HVN.out]; exact hkn
      have T2 := Lib.hid ((HT.out.alloc _).below HBEL.out (Nat.lt_succ_of_lt hg) (Nat.lt_succ_of_lt hh))
      have HTh := Lib.hid T2.out.2.1
      have HTl := Lib.hid T2.out.2.2.1.len
      have hol : Hid (vs[k].2.2.length = 32) := T2.out.2.2.1 _ (List.getElem_mem hkl)
      have hgd : Hid (vs.getD k zv = vs[k]) := by show _ = _; rw [List.getD_eq_getElem?_getD, List.getElem?_eq_getElem hkl]; rfl
      have HZ := Lib.hid (Has.new wr (vc zv) 170)
      have HLL : Hid ((vc zv).length = (vc vs[k]).length) := by show _ = _; rw [vc_len hol.out]; rfl
      have HO1 := Lib.hid (vc_one vs[k])
      have hzv := zv_lit
      have HXR := Lib.hid (HX.out.below HBEL.out (Nat.lt_succ_self _))
      have HNE : Hid (some w.heap.size ≠ some wr.heap.size) := fun e => by injection e with e; have := HBEL.out.size; simp at this; omega
      have HSZ : Hid (w.heap.size + 1 ≤ wr.heap.size) := by show _ ≤ _; have := HBEL.out.size; simpa using this
      have HOB : Hid (u5.ownBlock = none ∨ u5.ownBlock ≠ some wr.heap.size) := .inr (fun e => by have := (HOWN.out.lt _ e).2; omega)
      have hc1 : wr.cell? ⟨g, 0, none⟩ = some (.slice (some ⟨h, 0, none⟩) n n) := by rw [T2.out.1.cell, HVN.out]; rfl
      have hgs : g < wr.heap.size := T2.out.1.lt
      have C1 : Hid (∀ u ∈ [Value.int .i64 (k : Int)], u.oneCell' = true) := by intro u hu; simp at hu; subst hu; rfl
      have HM1 : Hid ((supI vs r k).length + 1 ≤ maxLen) := by have := supI_len vs r k; show _ ≤ _; unfold maxLen; omega
      have HM2 : Hid (((supI vs r k).length + 1) * 8 ≤ 140737488355328) := by have := supI_len vs r k; show _ ≤ _; omega
      cases hb1 : vs[k].1 with
      | false =>
        have HF0 : Hid (∀ (w2 : World) (b : Nat), Has w2 b (vc vs[k]) → w2.cell? ⟨b, 0, none⟩ = some (.bool false)) := fun w2 b hb => by rw [hb.cell, ← hb1]; rfl
        have HN : Hid (supI vs r (k + 1) = supI vs r k) := supI_no (by rw [hgd.out]; unfold backs; rw [hb1]; rfl)
        clear hb1
        go_wp2_with (first | ((with_reducible refine wpList_loadE 170 _ rfl ?_ h vs k ?_ HTh.out HTl.out hkl Try.underlying170 ?_ ?_ ?_); rfl; rfl; rfl; exact cells_vote') | ((with_reducible refine wpList_storeB rfl 170 _ _ rfl _ (vc vs[k]) _ ?_ ?_ HZ.out HLL.out Try.underlying170 ?_ HO1.out ?_); rfl; rfl; exact cells_vote hol.out; intro w2 hw2 hg2 hz2; have hf0 := HF0.out w2 _ hw2; have HW2 := Lib.hid hw2; have HR2 := Lib.hid (Has.rootV hw2); have HG2 := Lib.hid (grown_over_alloc hg2); have HX2 := Lib.hid (HXR.out.grown (grown_over_alloc hg2) HNE.out); have HOWN2 := Lib.hid (HOWN.out.kept (grown_over_alloc hg2) HOB.out); have HB2 := Lib.hid (HBEL.out.grown (grown_over_alloc hg2) HSZ.out (fun k hk => by cases hk; exact HSZ.out)); have HSZ2 := Lib.hid (Nat.le_trans HSZ.out (grown_over_alloc hg2).size); clear hw2 hg2 hz2) | ((with_reducible refine wpList_loadR 33 _ rfl ?_ wr.heap.size 2 _ HR2.out ?_ Try.underlying33 ?_ ?_ ?_); rfl; rfl; rfl; exact cells_root hol.out) | ((with_reducible refine wpList_loadG 33 _ rfl _ _ ?_ ?_ HX2.out Try.underlying33 ?_ ?_ ?_); rfl; rfl; rfl; exact cells_root HLR.out) | (at_builtin; (with_reducible refine wpList_push rfl (.tmp 26) (.tmp 28) 22 rfl (w.heap.size + 1) 3 i0 _ 1 8 Try.underlying22 HI.out hz0 hz1 hz2 rfl (by omega) _ _ _ ?_ HOWN2.out [.int .i64 k] ?_ rfl C1.out ?_ ?_ ?_ ?_); rfl; rfl; exact HM1.out; exact HM2.out; exact HSZ2.out; intro v' w' hown' hg' hbel' _; have HOWN3 := Lib.hid hown'; have HB3 := Lib.hid (HB2.out.trans hbel'); clear hown' hg' hbel'))
        go_roundw
        case rel => exact ⟨k + 1, by omega, by go_num, by rw [HN.out]; exact HOWN2.out, HB2.out⟩
        case measure => simp [intOf]; omega
      | true =>
        have HF0 : Hid (∀ (w2 : World) (b : Nat), Has w2 b (vc vs[k]) → w2.cell? ⟨b, 0, none⟩ = some (.bool true)) := fun w2 b hb => by rw [hb.cell, ← hb1]; rfl
        by_cases hrr : vs[k].2.2 = r
        · have hq : ∀ w : World, (Op.equalIn 10000 33 (.agg (ints .u8 vs[k].2.2).toArray) (.agg (ints .u8 r).toArray)).run Try.prog w = .ok true w := fun w => by
            have := root_same hol.out HLR.out w
            rwa [decide_eq_true hrr] at this
          have HN : Hid (supI vs r (k + 1) = supI vs r k ++ [(k : Int)]) := supI_yes (by rw [hgd.out]; unfold backs; rw [hb1, decide_eq_true hrr]; rfl)
          clear hb1 hrr
          go_wp2_with (first | ((with_reducible refine wpList_loadE 170 _ rfl ?_ h vs k ?_ HTh.out HTl.out hkl Try.underlying170 ?_ ?_ ?_); rfl; rfl; rfl; exact cells_vote') | ((with_reducible refine wpList_storeB rfl 170 _ _ rfl _ (vc vs[k]) _ ?_ ?_ HZ.out HLL.out Try.underlying170 ?_ HO1.out ?_); rfl; rfl; exact cells_vote hol.out; intro w2 hw2 hg2 hz2; have hf0 := HF0.out w2 _ hw2; have HW2 := Lib.hid hw2; have HR2 := Lib.hid (Has.rootV hw2); have HG2 := Lib.hid (grown_over_alloc hg2); have HX2 := Lib.hid (HXR.out.grown (grown_over_alloc hg2) HNE.out); have HOWN2 := Lib.hid (HOWN.out.kept (grown_over_alloc hg2) HOB.out); have HB2 := Lib.hid (HBEL.out.grown (grown_over_alloc hg2) HSZ.out (fun k hk => by cases hk; exact HSZ.out)); have HSZ2 := Lib.hid (Nat.le_trans HSZ.out (grown_over_alloc hg2).size); clear hw2 hg2 hz2) | ((with_reducible refine wpList_loadR 33 _ rfl ?_ wr.heap.size 2 _ HR2.out ?_ Try.underlying33 ?_ ?_ ?_); rfl; rfl; rfl; exact cells_root hol.out) | ((with_reducible refine wpList_loadG 33 _ rfl _ _ ?_ ?_ HX2.out Try.underlying33 ?_ ?_ ?_); rfl; rfl; rfl; exact cells_root HLR.out) | (at_builtin; (with_reducible refine wpList_push rfl (.tmp 26) (.tmp 28) 22 rfl (w.heap.size + 1) 3 i0 _ 1 8 Try.underlying22 HI.out hz0 hz1 hz2 rfl (by omega) _ _ _ ?_ HOWN2.out [.int .i64 k] ?_ rfl C1.out ?_ ?_ ?_ ?_); rfl; rfl; exact HM1.out; exact HM2.out; exact HSZ2.out; intro v' w' hown' hg' hbel' _; have HOWN3 := Lib.hid hown'; have HB3 := Lib.hid (HB2.out.trans hbel'); clear hown' hg' hbel'))
          go_roundw
          case rel =>
            refine ⟨k + 1, by omega, by go_num, ?_, HB3.out⟩
            have e1 : ints .i64 (supI vs r k ++ [(k : Int)]) = ints .i64 (supI vs r k) ++ [.int .i64 (k : Int)] := by simp [ints]
            rw [HN.out, List.length_append, e1]
            exact HOWN3.out
          case measure => simp [intOf]; omega
        · have hq : ∀ w : World, (Op.equalIn 10000 33 (.agg (ints .u8 vs[k].2.2).toArray) (.agg (ints .u8 r).toArray)).run Try.prog w = .ok false w := fun w => by
            have := root_same hol.out HLR.out w
            rwa [decide_eq_false hrr] at this
          have HN : Hid (supI vs r (k + 1) = supI vs r k) := supI_no (by rw [hgd.out]; unfold backs; rw [hb1, decide_eq_false hrr]; rfl)
          clear hb1 hrr
          go_wp2_with (first | ((with_reducible refine wpList_loadE 170 _ rfl ?_ h vs k ?_ HTh.out HTl.out hkl Try.underlying170 ?_ ?_ ?_); rfl; rfl; rfl; exact cells_vote') | ((with_reducible refine wpList_storeB rfl 170 _ _ rfl _ (vc vs[k]) _ ?_ ?_ HZ.out HLL.out Try.underlying170 ?_ HO1.out ?_); rfl; rfl; exact cells_vote hol.out; intro w2 hw2 hg2 hz2; have hf0 := HF0.out w2 _ hw2; have HW2 := Lib.hid hw2; have HR2 := Lib.hid (Has.rootV hw2); have HG2 := Lib.hid (grown_over_alloc hg2); have HX2 := Lib.hid (HXR.out.grown (grown_over_alloc hg2) HNE.out); have HOWN2 := Lib.hid (HOWN.out.kept (grown_over_alloc hg2) HOB.out); have HB2 := Lib.hid (HBEL.out.grown (grown_over_alloc hg2) HSZ.out (fun k hk => by cases hk; exact HSZ.out)); have HSZ2 := Lib.hid (Nat.le_trans HSZ.out (grown_over_alloc hg2).size); clear hw2 hg2 hz2) | ((with_reducible refine wpList_loadR 33 _ rfl ?_ wr.heap.size 2 _ HR2.out ?_ Try.underlying33 ?_ ?_ ?_); rfl; rfl; rfl; exact cells_root hol.out) | ((with_reducible refine wpList_loadG 33 _ rfl _ _ ?_ ?_ HX2.out Try.underlying33 ?_ ?_ ?_); rfl; rfl; rfl; exact cells_root HLR.out) | (at_builtin; (with_reducible refine wpList_push rfl (.tmp 26) (.tmp 28) 22 rfl (w.heap.size + 1) 3 i0 _ 1 8 Try.underlying22 HI.out hz0 hz1 hz2 rfl (by omega) _ _ _ ?_ HOWN2.out [.int .i64 k] ?_ rfl C1.out ?_ ?_ ?_ ?_); rfl; rfl; exact HM1.out; exact HM2.out; exact HSZ2.out; intro v' w' hown' hg' hbel' _; have HOWN3 := Lib.hid hown'; have HB3 := Lib.hid (HB2.out.trans hbel'); clear hown' hg' hbel'))
          go_roundw
          case rel => exact ⟨k + 1, by omega, by go_num, by rw [HN.out]; exact HOWN2.out, HB2.out⟩
          case measure => simp [intOf]; omega
    · have hkk : k = n := by omega
      subst hkk
      go_wp2_with fail
      go_ret
      exact ⟨_, rfl, HOWN.out.mono (Nat.le_succ _), ((Below.refl _ _).alloc (Nat.le_refl _) _).trans (HBEL.out.mono (Nat.le_succ _))⟩
def ListPost (vs : List Vt) (w : World) (e : Ending) (w' : World) : Prop :=
  ∃ v, e = .returned v ∧ w'.ownsRow w.heap.size 170 34 v vs.length (vs.flatMap vc) ∧ Below w.heap.size w w'

set_option maxRecDepth 20000 in
set_option maxHeartbeats 1000000 in
theorem clone_any {h : Nat} {vs : List Vt} (w : World) (hh : Has w h (vs.flatMap vc)) (hv : VL vs) (hn : vs.length ≤ 1024) :
    Calls Try.prog 114 #[.slice (some ⟨h, 0, none⟩) vs.length vs.length] w (ListPost vs w) := by
  obtain ⟨i0, hi0, hz0, hz1, hz2⟩ := info_parts info_vote
  have HI := Lib.hid (show Try.prog.info? 170 = some i0 from hi0)
  have HH := Lib.hid hh
  have HV := Lib.hid hv
  clear hh hv hi0
  have he : ∀ (n c : Nat) (w : World), (binOp .eql 66 (.slice (some ⟨h, 0, none⟩) n c) (.slice none 0 0)).run Try.prog w = .ok (.bool false) w := fun _ _ _ => rfl
  by_cases h0 : vs.length = 0
  · obtain rfl : vs = [] := List.eq_nil_of_length_eq_zero h0
    go_enter Try.func114, Try.ntmps114
    go_wp2_with fail
    go_ret
    exact ⟨_, rfl, World.ownsRow_made w #[] 0 (Nat.le_refl _) (Nat.zero_le _) rfl, (Below.refl _ _).alloc (Nat.le_refl _) _⟩
  · have hpos : 0 < vs.length := by omega
    have HO := Lib.hid (Apd.drew (.inl (World.ownsRow_made (base := w.heap.size) (e := 170) (size := 34) w #[] 0 (Nat.le_refl _) (Nat.zero_le _) rfl) : Apd (w.alloc (.cells #[] 170)) w.heap.size 170 34 (.slice (some ⟨w.heap.size, 0, none⟩) 0 0) 0 []))
    have HO' : Hid (Apd (w.alloc (.cells #[] 170)) w.heap.size 170 34 (.slice (some ⟨w.heap.size, 0, none⟩) 0 0) 0 []) := HO.out
    have HC : Hid (∀ j u, (vs.flatMap vc)[j]? = some u → (w.alloc (.cells #[] 170)).cell? ((⟨h, 0, none⟩ : Addr).add j) = some u) := fun j u hu => by
      rw [add_at, (HH.out.alloc _).cell, Nat.zero_add]; exact hu
    have HL : Hid ((vs.flatMap vc).length = vs.length * 34) := flat_len vs HV.out.len
    have H1 : Hid (∀ u ∈ vs.flatMap vc, u.oneCell' = true) := fun u hu => by
      obtain ⟨v, _, hv⟩ := List.mem_flatMap.1 hu
      exact vc_one v u hv
    have HM : Hid (0 + vs.length ≤ maxLen) := by show _ ≤ _; unfold maxLen; omega
    have HM2 : Hid ((0 + vs.length) * 48 ≤ 140737488355328) := by show _ ≤ _; omega
    have HB : Hid (w.heap.size ≤ (w.alloc (.cells #[] 170)).heap.size) := by show _ ≤ _; simp
    have HB0 := Lib.hid ((Below.refl w.heap.size w).alloc (Nat.le_refl _) (.cells #[] 170))
    have hcz : (Value.agg (vc zv).toArray).cells.size = 34 := rfl
    go_enter Try.func114, Try.ntmps114
    go_wp2_with (at_builtin; (with_reducible refine wpList_pushAt rfl (.tmp 5) (.tmp 6) 66 rfl i0 _ 48 Try.underlying66 HI.out hz0 hz1 hz2 ?_ ?_ ?_ HO'.out ⟨h, 0, none⟩ vs.length vs.length (vs.flatMap vc) ?_ hpos HL.out HC.out H1.out HM.out HM2.out HB.out ?_); rfl; omega; rfl; rfl; intro v' w' hown' _ hbel' _; have HW := Lib.hid hown'; have HB1 := Lib.hid hbel'; clear hown' hbel')
    go_ret
    refine ⟨_, rfl, ?_, HB0.out.trans HB1.out⟩
    have := HW.out
    rw [Nat.zero_add, List.nil_append] at this
    exact this

theorem votes_any {g h : Nat} {vs : List Vt} (w : World) (ht : Tab w g h vs) (hn : vs.length ≤ 1024) :
    Calls Try.prog 95 #[.pointer (some ⟨g, 0, none⟩)] w (ListPost vs w) := by
  have hc : w.cell? ⟨g, 0, none⟩ = some (.slice (some ⟨h, 0, none⟩) vs.length vs.length) := by rw [ht.1.cell]; rfl
  have HC := Lib.hid (clone_any w ht.2.1 ht.2.2.1 hn)
  clear ht
  go_enter Try.func95, Try.ntmps95
  go_wp2_with fail
  refine HC.out.mono ?_; rintro e w1 ⟨v, he, ho, hb⟩
  subst he
  have HO := Lib.hid ho
  have HB := Lib.hid hb
  clear ho hb
  go_wp2_with fail
  go_ret
  exact ⟨_, rfl, HO.out, HB.out⟩
/-- what was returned is a slice -/
theorem own_slice {w : World} {base : Nat} {e : TypeId} {size : Nat} {v : Value} {n : Nat} {xs : List Value} (h : w.ownsRow base e size v n xs) : ∃ A c, v = .slice A n c := by
  rcases h.2 with ⟨h1, h2⟩ | ⟨g, cap, cur, h1, _⟩
  · subst h2; exact ⟨none, 0, h1⟩
  · exact ⟨_, _, h1⟩
/-- a row of the call's own, with elements, as a block -/
theorem own_block {w : World} {base : Nat} {e : TypeId} {size : Nat} {v : Value} {n : Nat} {xs : List Value} (h : w.ownsRow base e size v n xs) (hn : 0 < n) :
    ∃ g c post, v = .slice (some ⟨g, 0, none⟩) n c ∧ base ≤ g ∧ Has w g (xs ++ post) := by
  rcases h.2 with ⟨h1, h2⟩ | ⟨g, cap, cur, h1, h2, h3, h4, h5, h6, h7⟩
  · omega
  · refine ⟨g, cap, cur.toList.drop (n * size), h1, h2, ⟨e, ?_⟩⟩
    rw [← h7, List.take_append_drop]
    simpa using h3
theorem row_len {w : World} {B : Nat} {A : Option Addr} {n : Nat} {k : IntKind} {l : List Int} (h : Row w B 1 A n (ints k l)) : l.length = n := by have := h.1; simpa [ints] using this
theorem ints_at {k : IntKind} {l : List Int} {i : Nat} (h : i < l.length) : (ints k l)[i]? = some (.int k (l.getD i 0)) := by
  unfold ints
  rw [List.getElem?_map, List.getElem?_eq_getElem h, getD_at h]
  rfl
theorem take_more {a b : List Int} {k : Nat} (ha : k < a.length) (hb : k < b.length) (h : a.take k = b.take k) (he : a.getD k 0 = b.getD k 0) : a.take (k + 1) = b.take (k + 1) := by
  rw [List.take_succ_eq_append_getElem ha, List.take_succ_eq_append_getElem hb, h, ← getD_at ha, ← getD_at hb, he]

set_option maxRecDepth 20000 in
set_option maxHeartbeats 800000 in
theorem sameInts_any (A A' : Option Addr) (n n' c c' : Nat) (a b : List Int) (w : World) (ha : Row w w.heap.size 1 A n (ints .i64 a)) (hb : Row w w.heap.size 1 A' n' (ints .i64 b)) (hn : n ≤ 9223372036854775807) (hn' : n' ≤ 9223372036854775807) :
    Calls Try.prog 32 #[.slice A n c, .slice A' n' c'] w fun e w' => e = .returned (.bool (decide (a = b))) ∧ Below w.heap.size w w' := by
  have la := row_len ha
  have lb := row_len hb
  have HA := Lib.hid ha
  have HB := Lib.hid hb
  clear ha hb
  by_cases hnn : n = n'
  · subst hnn
    have LA := Lib.hid la
    have LB := Lib.hid lb
    clear la lb
    go_enter Try.func32, Try.ntmps32
    go_wp2
    go_loopw [5] (fun i wr => ∃ k : Nat, k ≤ n ∧ i = .int .i64 k ∧ a.take k = b.take k ∧ Below w.heap.size w wr) (fun i _ => n - (intOf i).toNat)
    case atStart => exact ⟨0, Nat.zero_le _, rfl, rfl, Below.refl _ _⟩
    case round =>
      obtain ⟨k, hk, rfl, htk, hbel⟩ := hrel
      have HTK := Lib.hid htk
      have HBEL := Lib.hid hbel
      clear htk hbel
      by_cases hkn : k < n
      · have hka : k < a.length := by rw [LA.out]; exact hkn
        have hkb : k < b.length := by rw [LB.out]; exact hkn
        obtain ⟨ad, rfl, hb1, hc1⟩ := (HA.out.below HBEL.out).at_ (ints_at hka)
        obtain ⟨ad', rfl, hb2, hc2⟩ := (HB.out.below HBEL.out).at_ (ints_at hkb)
        have hki : (k : Int) < (n : Int) := by omega
        have hk0 : 0 ≤ (k : Int) := by omega
        have HTM := Lib.hid (take_more hka hkb HTK.out)
        have HNE : Hid (a.getD k 0 ≠ b.getD k 0 → a ≠ b) := fun hne he => hne (by rw [he])
        generalize a.getD k 0 = x at *
        generalize b.getD k 0 = y at *
        by_cases hxy : x = y
        · subst hxy
          go_wp2
          go_quiet (fail)
          go_wp2
          go_roundw
          case rel => exact ⟨k + 1, by omega, by go_num, HTM.out (by first | rfl | trivial), below_dN HBEL.out _⟩
          case measure => simp [intOf]; omega
        · have hne : (x == y) = false := by simpa using hxy
          have hne' : (x != y) = true := by simpa using hxy
          have HD : Hid (decide (a = b) = false) := decide_eq_false (HNE.out hxy)
          go_wp2
          go_quiet (fail)
          go_wp2
          go_ret
          exact ⟨by rw [HD.out]; rfl, below_dN HBEL.out _⟩
      · have hkk : k = n := by omega
        subst hkk
        have he : a = b := by
          have h1 : a.take k = a := List.take_of_length_le (by rw [LA.out]; exact Nat.le_refl _)
          have h2 : b.take k = b := List.take_of_length_le (by rw [LB.out]; exact Nat.le_refl _)
          rw [← h1, ← h2]; exact HTK.out
        have HD : Hid (decide (a = b) = true) := decide_eq_true he
        clear he
        go_wp2
        go_ret
        exact ⟨by rw [HD.out]; rfl, HBEL.out⟩
  · have hne : ¬ (n : Int) = (n' : Int) := by omega
    have hD : decide (a = b) = false := decide_eq_false (fun h => hnn (by rw [← la, ← lb, h]))
    have HD := Lib.hid hD
    have hne' : ((n : Int) != (n' : Int)) = true := by simp; omega
    clear la lb hD
    go_enter Try.func32, Try.ntmps32
    go_wp2
    go_ret
    exact ⟨by rw [HD.out]; rfl, Below.refl _ _⟩
/-- a slice of votes -/
def VRow (w : World) (A : Option Addr) (n : Nat) (xs : List Vt) : Prop := xs.length = n ∧ VL xs ∧ (0 < n → ∃ g post, A = some ⟨g, 0, none⟩ ∧ Has w g (xs.flatMap vc ++ post))
theorem VRow.below {w w' : World} {A : Option Addr} {n : Nat} {xs : List Vt} (h : VRow w A n xs) (hb : Below w.heap.size w w') : VRow w' A n xs :=
  ⟨h.1, h.2.1, fun hn => by
    obtain ⟨g, post, h1, h2⟩ := h.2.2 hn
    exact ⟨g, post, h1, h2.below hb h2.lt⟩⟩
theorem takeV_more {a b : List Vt} {k : Nat} (ha : k < a.length) (hb : k < b.length) (h : a.take k = b.take k) (he : a[k] = b[k]) : a.take (k + 1) = b.take (k + 1) := by
  rw [List.take_succ_eq_append_getElem ha, List.take_succ_eq_append_getElem hb, h, he]

set_option maxRecDepth 20000 in
set_option maxHeartbeats 800000 in
theorem sameVotes_any (A A' : Option Addr) (n n' c c' : Nat) (a b : List Vt) (w : World) (ha : VRow w A n a) (hb : VRow w A' n' b) (hn : n ≤ 1024) (hn' : n' ≤ 1024) :
    Calls Try.prog 63 #[.slice A n c, .slice A' n' c'] w fun e w' => e = .returned (.bool (decide (a = b))) ∧ Below w.heap.size w w' := by
  have la := ha.1
  have lb := hb.1
  have HA := Lib.hid ha
  have HB := Lib.hid hb
  clear ha hb
  by_cases hnn : n = n'
  · subst hnn
    have LA := Lib.hid la
    have LB := Lib.hid lb
    clear la lb
    go_enter Try.func63, Try.ntmps63
    go_wp2
    go_loopw [5] (fun i wr => ∃ k : Nat, k ≤ n ∧ i = .int .i64 k ∧ a.take k = b.take k ∧ Below w.heap.size w wr) (fun i _ => n - (intOf i).toNat)
    case atStart => exact ⟨0, Nat.zero_le _, rfl, rfl, Below.refl _ _⟩
    case round =>
      obtain ⟨k, hk, rfl, htk, hbel⟩ := hrel
      have HTK := Lib.hid htk
      have HBEL := Lib.hid hbel
      clear htk hbel
      by_cases hkn : k < n
      · have hka : k < a.length := by rw [LA.out]; exact hkn
        have hkb : k < b.length := by rw [LB.out]; exact hkn
        obtain ⟨g1, p1, rfl, hg1⟩ := (HA.out.below HBEL.out).2.2 (by omega)
        obtain ⟨g2, p2, rfl, hg2⟩ := (HB.out.below HBEL.out).2.2 (by omega)
        have H1 := Lib.hid (fun (w1 : World) (h : Cls wr.heap.size wr w1) => hg1.below h.out hg1.lt)
        have H2 := Lib.hid (fun (w1 : World) (h : Cls wr.heap.size wr w1) => hg2.below h.out hg2.lt)
        have HL1 := Lib.hid HA.out.2.1.len
        have HL2 := Lib.hid HB.out.2.1.len
        have la32 : Hid (a[k].2.2.length = 32) := HA.out.2.1 _ (List.getElem_mem hka)
        have lb32 : Hid (b[k].2.2.length = 32) := HB.out.2.1 _ (List.getElem_mem hkb)
        clear hg1 hg2
        have hki : (k : Int) < (n : Int) := by omega
        have hk0 : 0 ≤ (k : Int) := by omega
        have HTM := Lib.hid (takeV_more hka hkb HTK.out)
        by_cases hxy : a[k] = b[k]
        · have hq : ∀ w : World, (Op.equalIn 10000 170 (.agg (vc a[k]).toArray) (.agg (vc b[k]).toArray)).run Try.prog w = .ok true w := fun w => by
            have := vote_same la32.out lb32.out w
            rwa [decide_eq_true hxy] at this
          have HXY := Lib.hid hxy
          clear hxy
          go_wp2_with fail
          refine region_cls wr.heap.size (by kernel_rfl) (by kernel_rfl) ?_
          repeat (first | go_big_quiet_skip | (go_big_quiet_want; first | ((with_reducible refine quiet_loadP (f := vc) (k := 34) 170 _ rfl g1 a k ?_ p1 H1.out HL1.out hka Try.underlying170 ?_ ?_ ?_); rfl; rfl; exact cells_vote'; go_big_quiet_on; (simp only [Act.put, List.setIfInBounds_toArray, List.set_cons_succ, List.set_cons_zero])) | ((with_reducible refine quiet_loadP (f := vc) (k := 34) 170 _ rfl g2 b k ?_ p2 H2.out HL2.out hkb Try.underlying170 ?_ ?_ ?_); rfl; rfl; exact cells_vote'; go_big_quiet_on; (simp only [Act.put, List.setIfInBounds_toArray, List.set_cons_succ, List.set_cons_zero])) | (go_big_quiet_op; first | go_big_quiet_on | ((with_reducible refine ⟨_, fun _ _ => rfl, ?_⟩); go_big_quiet_on))))
          refine wpQuiet_nil ?_
          intro w4 hw4
          have HW4 := Lib.hid hw4
          clear hw4
          go_wp2_with fail
          go_roundw
          case rel => exact ⟨k + 1, by omega, by go_num, HTM.out HXY.out, HBEL.out.trans (HW4.out.out.mono HBEL.out.size)⟩
          case measure => simp [intOf]; omega
        · have hq : ∀ w : World, (Op.equalIn 10000 170 (.agg (vc a[k]).toArray) (.agg (vc b[k]).toArray)).run Try.prog w = .ok false w := fun w => by
            have := vote_same la32.out lb32.out w
            rwa [decide_eq_false hxy] at this
          have HD : Hid (decide (a = b) = false) := decide_eq_false (fun h => hxy (by subst h; rfl))
          clear hxy
          go_wp2_with fail
          refine region_cls wr.heap.size (by kernel_rfl) (by kernel_rfl) ?_
          repeat (first | go_big_quiet_skip | (go_big_quiet_want; first | ((with_reducible refine quiet_loadP (f := vc) (k := 34) 170 _ rfl g1 a k ?_ p1 H1.out HL1.out hka Try.underlying170 ?_ ?_ ?_); rfl; rfl; exact cells_vote'; go_big_quiet_on; (simp only [Act.put, List.setIfInBounds_toArray, List.set_cons_succ, List.set_cons_zero])) | ((with_reducible refine quiet_loadP (f := vc) (k := 34) 170 _ rfl g2 b k ?_ p2 H2.out HL2.out hkb Try.underlying170 ?_ ?_ ?_); rfl; rfl; exact cells_vote'; go_big_quiet_on; (simp only [Act.put, List.setIfInBounds_toArray, List.set_cons_succ, List.set_cons_zero])) | (go_big_quiet_op; first | go_big_quiet_on | ((with_reducible refine ⟨_, fun _ _ => rfl, ?_⟩); go_big_quiet_on))))
          refine wpQuiet_nil ?_
          intro w4 hw4
          have HW4 := Lib.hid hw4
          clear hw4
          go_wp2_with fail
          go_ret
          exact ⟨by rw [HD.out]; rfl, HBEL.out.trans (HW4.out.out.mono HBEL.out.size)⟩
      · have hkk : k = n := by omega
        subst hkk
        have he : a = b := by
          have h1 : a.take k = a := List.take_of_length_le (by rw [LA.out]; exact Nat.le_refl _)
          have h2 : b.take k = b := List.take_of_length_le (by rw [LB.out]; exact Nat.le_refl _)
          rw [← h1, ← h2]; exact HTK.out
        have HD : Hid (decide (a = b) = true) := decide_eq_true he
        clear he
        go_wp2
        go_ret
        exact ⟨by rw [HD.out]; rfl, HBEL.out⟩
  · have hne : ¬ (n : Int) = (n' : Int) := by omega
    have hD : decide (a = b) = false := decide_eq_false (fun h => hnn (by rw [← la, ← lb, h]))
    have HD := Lib.hid hD
    have hne' : ((n : Int) != (n' : Int)) = true := by simp; omega
    clear la lb hD
    go_enter Try.func63, Try.ntmps63
    go_wp2
    go_ret
    exact ⟨by rw [HD.out]; rfl, Below.refl _ _⟩
def RefCastPost (ep : Int) (r : List Int) (vs : List Vt) (l : List Int) (n : Nat) (w : World) (e : Ending) (w' : World) : Prop :=
  ∃ g c post, e = .returned (.tuple #[.slice (some ⟨g, 0, none⟩) n c, .int .i64 (castGo ep r vs l 0).2]) ∧ w.heap.size ≤ g ∧ VL (castGo ep r vs l 0).1 ∧ Has w' g ((castGo ep r vs l 0).1.flatMap vc ++ post) ∧ Below w.heap.size w w'

end Go.Proofs.Ytekikfdlnkcenaa.Vv
