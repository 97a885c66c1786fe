/- Votes: supporters and votes of a table agree with a list. -/
import Derived.Test.YtfkimlmfgipfjaaSameVotes
import Derived.Test.YtfkimlmfgipfjaaClone
namespace Go.Proofs.Ytfkimlmfgipfjaa
open Go.RowKit

/-- a part of a variable is read, in a region that draws its order -/
theorem quiet_loadRng {P : Program} {C : World → Prop} {op : Oper} {a : Act} {K : Act → Prop} (ty : TypeId) (x : Operand) (ho : op.op = .load ty x)
    (g o : Nat) (cs : List Value) (hx : a.eval x = .pointer (some ⟨g, o, none⟩)) (hr : ∀ w, C w → w.rangeAt g o cs)
    {d : TypeDesc} (hu : P.underlying ty = some d) (hd : d.isRow = true) (hc : P.cellsOf ty = cs.length)
    (h : K (a.put op.dst (.agg cs.toArray))) : op.quiet P a C K := by
  refine ⟨_, fun w hw => ?_, h⟩
  unfold Oper.quietAt execOp
  have := run_loadVar_mid (P := P) w g o ty cs d (hr w hw) hu hd (info_size hu hc)
  simp only [ho, hx, Instr.loadAt, Instr.sureAddr, Sem.run_bind, Sem.run_pure, Result.andThen_ok, this]
  exact ⟨rfl, rfl⟩
/-- one cell is read, in a region that draws its order -/
theorem quiet_cell {P : Program} {C : World → Prop} {o : Oper} {a : Act} {K : Act → Prop} (ty : TypeId) (x : Operand) (ho : o.op = .load ty x) (p : Addr) (v : Value)
    (hx : a.eval x = .pointer (some p)) (hr : ∀ w, C w → (Instr.loadAt ty (.pointer (some p))).run P w = .ok v w) (hk : K (a.put o.dst v)) : o.quiet P a C K := by
  refine ⟨_, fun w hw => ?_, hk⟩
  unfold Oper.quietAt execOp
  simp only [ho, hx, hr w hw, Sem.run_bind, Sem.run_pure, Result.andThen_ok]
  exact ⟨rfl, rfl⟩
theorem run_bool1 {w : World} {p : Addr} {b : Bool} (hc : w.cell? p = some (.bool b)) : (Instr.loadAt 4 (.pointer (some p))).run Try.prog w = .ok (.bool b) w := by
  simp [Instr.loadAt, Instr.sureAddr, loadVar, isAgg, run_underlying Try.underlying4, run_load, hc]
theorem range_part {w : World} {g o : Nat} {cs ds : List Value} (k : Nat) (h : w.rangeAt g o cs) (hp : ∀ j u, ds[j]? = some u → cs[k + j]? = some u) : w.rangeAt g (o + k) ds := fun j u hu => by
  rw [Nat.add_assoc]
  exact h _ _ (hp j u hu)
theorem vc_root_at (v : Vt) : ∀ j u, (ints .u8 v.2.2)[j]? = some u → (vc v)[2 + j]? = some u := fun j u hu => by
  rw [show vc v = [.bool v.1, .int .u64 v.2.1] ++ ints .u8 v.2.2 from rfl, List.getElem?_append_right (by simp)]
  simpa using hu

theorem own_ext {w w' : World} {base : Nat} {e : TypeId} {size : Nat} {v : Value} {n : Nat} {xs : List Value} (h : w.ownsRow base e size v n xs) (hb : Below w.heap.size w w') : w'.ownsRow base e size v n xs := by
  refine ⟨h.1, ?_⟩
  rcases h.2 with h1 | ⟨g, cap, cur, h1, h2, h3, h4⟩
  · exact .inl h1
  · exact .inr ⟨g, cap, cur, h1, h2, (hb.block g (Array.getElem?_eq_some_iff.1 h3).1).trans h3, h4⟩

set_option maxRecDepth 20000 in
set_option maxHeartbeats 1000000 in
theorem supported_any {g h : Nat} {vs : List Vt} (r : List Int) (lr : r.length = 32) (A : Option Addr) (n c : Nat) (w : World) (ht : Tab w g h vs) (hv : VRow w A n vs) (hn : n ≤ 1024) :
    Calls Try.prog 22 #[.pointer (some ⟨g, 0, none⟩), .slice A n c, .agg (ints .u8 r).toArray] w fun e w' => e = .returned (.bool true) ∧ Below w.heap.size w w' := by
  obtain ⟨i0, hi0, hz0, hz1, hz2⟩ := info_parts info_int
  have HI := Lib.hid (show Try.prog.info? 3 = some i0 from hi0)
  have HX := Lib.hid (Has.new w (ints .u8 r) 32)
  have HT := Lib.hid ht
  have HV := Lib.hid hv
  have HLR := Lib.hid lr
  have HVN := Lib.hid hv.1
  have BB := Lib.hid ((Below.refl w.heap.size w).alloc (Nat.le_refl _) (.cells (ints .u8 r).toArray 32))
  clear ht hv lr hi0
  go_enter Try.func22, Try.ntmps22
  go_wp2
  go_loopw [7, 8] (fun s i wr => ∃ k : Nat, k ≤ n ∧ i = .int .i64 k ∧ wr.ownsRow (w.heap.size + 1) 3 1 s (supI vs r k).length (ints .i64 (supI vs r k)) ∧ Below (w.heap.size + 1) (w.alloc (.cells (ints .u8 r).toArray 32)) wr) (fun _ i _ => n - (intOf i).toNat)
  case atStart => exact ⟨0, Nat.zero_le _, rfl, ⟨rfl, .inl ⟨rfl, rfl⟩⟩, Below.refl _ _⟩
  case round =>
    obtain ⟨k, hk, rfl, hown, hbel⟩ := hrel
    have HOWN := Lib.hid hown
    have HBEL := Lib.hid hbel
    have HSZ : Hid (w.heap.size + 1 ≤ wr.heap.size) := by show _ ≤ _; have := hbel.size; simpa using this
    have BR := Lib.hid (BB.out.trans (hbel.mono (Nat.le_succ _)))
    clear hown hbel
    by_cases hkn : k < n
    · have hkl : k < vs.length := by rw [HVN.out]; exact hkn
      obtain ⟨g1, p1, rfl, hg1⟩ := HV.out.2.2 (by omega)
      have HG1 := Lib.hid (hg1.below BR.out hg1.lt)
      have HG0 := Lib.hid hg1
      have T2 := Lib.hid (HT.out.below BR.out HT.out.1.lt HT.out.2.1.lt)
      have HTl := Lib.hid HT.out.2.2.1.len
      have hol : Hid (vs[k].2.2.length = 32) := HT.out.2.2.1 _ (List.getElem_mem hkl)
      have hgd : Hid (vs.getD k zv = vs[k]) := by show _ = _; rw [List.getD_eq_getElem?_getD, List.getElem?_eq_getElem hkl]; rfl
      have HXR := Lib.hid (HX.out.below HBEL.out (Nat.lt_succ_self _))
      have C1 : Hid (∀ u ∈ [Value.int .i64 (k : Int)], u.oneCell' = true) := by intro u hu; simp at hu; subst hu; rfl
      have HM1 : Hid ((supI vs r k).length + 1 ≤ maxLen) := by have := supI_len vs r k; show _ ≤ _; unfold maxLen; omega
      have HM2 : Hid (((supI vs r k).length + 1) * 8 ≤ 140737488355328) := by have := supI_len vs r k; show _ ≤ _; omega
      clear hg1
      have hki : (k : Int) < (n : Int) := by omega
      have hk0 : 0 ≤ (k : Int) := by omega
      -- class of the first region
      have LH : Hid (∀ w1 : World, Cls wr.heap.size wr w1 → (Instr.loadAt 4 (.pointer (some ⟨g1, k * 34, none⟩))).run Try.prog w1 = .ok (.bool vs[k].1) w1) := fun w1 h1 =>
        run_bool1 (by have := (HG1.out.below h1.out HG1.out.lt).rangeP HTl.out k hkl 0 (.bool vs[k].1) rfl; exact this)
      have LR : Hid (∀ w1 : World, Cls wr.heap.size wr w1 → w1.rangeAt g1 (k * 34 + 2) (ints .u8 vs[k].2.2)) := fun w1 h1 =>
        range_part 2 ((HG1.out.below h1.out HG1.out.lt).rangeP HTl.out k hkl) (vc_root_at _)
      have LX : Hid (∀ w1 : World, Cls wr.heap.size wr w1 → w1.rangeAt w.heap.size 0 (ints .u8 r)) := fun w1 h1 j u hu => by
        rw [(HXR.out.below h1.out HXR.out.lt).cell, Nat.zero_add]; exact hu
      have hva : voteAt vs (k : Int) = vs[k] := by unfold voteAt; rw [if_pos (by omega), Int.toNat_natCast]; exact hgd.out
      have HVA := Lib.hid hva
      clear hva
      have STEP : Hid (∀ wq : World, Below (w.heap.size + 1) (w.alloc (.cells (ints .u8 r).toArray 32)) wq →
          (∀ w1 : World, Cls wq.heap.size wq w1 → Calls Try.prog 15 #[.pointer (some ⟨g, 0, none⟩), .int .i64 k] w1 fun e w' => e = .returned (.agg (vc vs[k]).toArray) ∧ Cls wq.heap.size wq w') ∧
          (∀ w1 : World, Cls wq.heap.size wq w1 → Has w1 g1 (vs.flatMap vc ++ p1))) := fun wq hq => by
        have hb := BB.out.trans (hq.mono (Nat.le_succ _))
        have t := HT.out.below hb HT.out.1.lt HT.out.2.1.lt
        have hgq := HG0.out.below hb HG0.out.lt
        refine ⟨fun w1 h1 => ?_, fun w1 h1 => hgq.below h1.out hgq.lt⟩
        have := h1.calls (Nat.le_refl _) (vote_any (k : Int) w1 (t.below h1.out t.1.lt t.2.1.lt))
        rwa [HVA.out] at this
      have hq : ∀ w : World, (Op.equalIn 10000 35 (.agg (vc vs[k]).toArray) (.agg (vc vs[k]).toArray)).run Try.prog w = .ok true w := fun w => by
        have := vote_same hol.out hol.out w
        rwa [decide_eq_true rfl] at this
      cases hb1 : vs[k].1 with
      | false =>
          rw [hb1] at LH
          have HN : Hid (supI vs r (k + 1) = supI vs r k) := supI_no (by rw [hgd.out]; unfold backs; rw [hb1]; rfl)
          clear hb1
          go_wp2_with fail
          refine region_cls wr.heap.size (by kernel_rfl) (by kernel_rfl) ?_
          repeat (first | go_big_quiet_skip | (go_big_quiet_want; first | ((with_reducible refine quiet_cell 4 _ rfl ⟨g1, k * 34, none⟩ _ ?_ LH.out ?_); rfl; go_big_quiet_on; (simp only [Act.put, List.setIfInBounds_toArray, List.set_cons_succ, List.set_cons_zero])) | ((with_reducible refine quiet_loadRng 32 _ rfl g1 (k * 34 + 2) _ ?_ LR.out Try.underlying32 ?_ ?_ ?_); rfl; rfl; exact cells_root hol.out; go_big_quiet_on; (simp only [Act.put, List.setIfInBounds_toArray, List.set_cons_succ, List.set_cons_zero])) | ((with_reducible refine quiet_loadRng 32 _ rfl w.heap.size 0 _ ?_ LX.out Try.underlying32 ?_ ?_ ?_); rfl; rfl; exact cells_root HLR.out; go_big_quiet_on; (simp only [Act.put, List.setIfInBounds_toArray, List.set_cons_succ, List.set_cons_zero])) | (go_big_quiet_op; first | go_big_quiet_on | ((with_reducible refine ⟨_, fun _ _ => rfl, ?_⟩); go_big_quiet_on))))
          refine wpQuiet_nil ?_
          intro w4 hw4
          have B4 := Lib.hid (HBEL.out.trans (hw4.out.mono HSZ.out))
          have O4 := Lib.hid (own_ext HOWN.out hw4.out)
          have S4 := Lib.hid (Nat.le_trans HSZ.out hw4.out.size)
          clear hw4
          go_wp2_with fail
          have CV := Lib.hid (STEP.out w4 B4.out).1
          have LV := Lib.hid (STEP.out w4 B4.out).2
          refine region_cls w4.heap.size (by kernel_rfl) (by kernel_rfl) ?_
          repeat (first | go_big_quiet_skip | (go_big_quiet_want; first | ((with_reducible refine quiet_loadP (f := vc) (k := 34) 35 _ rfl g1 vs k ?_ p1 LV.out HTl.out hkl Try.underlying35 ?_ ?_ ?_); rfl; rfl; exact cells_vote'; go_big_quiet_on; (simp only [Act.put, List.setIfInBounds_toArray, List.set_cons_succ, List.set_cons_zero])) | (go_big_quiet_op; first | go_big_quiet_on | ((with_reducible refine ⟨_, fun _ _ => rfl, ?_⟩); go_big_quiet_on) | (apply Exists.intro; refine ⟨fun w1 hw1 => ?_, ?_⟩; (go_at_call 15; (with_reducible exact CV.out w1 hw1)); go_big_quiet_on))))
          refine wpQuiet_nil ?_
          intro w6 hw6
          have B6 := Lib.hid (B4.out.trans (hw6.out.mono S4.out))
          have O6 := Lib.hid (own_ext O4.out hw6.out)
          clear hw6
          go_wp2_with fail
          go_roundw
          case rel => exact ⟨k + 1, by omega, by go_num, by rw [HN.out]; exact O6.out, B6.out⟩
          case measure => simp [intOf]; omega
      | true =>
        rw [hb1] at LH
        by_cases hrr : vs[k].2.2 = r
        · have hqr : ∀ w : World, (Op.equalIn 10000 32 (.agg (ints .u8 vs[k].2.2).toArray) (.agg (ints .u8 r).toArray)).run Try.prog w = .ok true w := fun w => by
            have := root_same hol.out HLR.out w
            rwa [decide_eq_true hrr] at this
          have HN : Hid (supI vs r (k + 1) = supI vs r k ++ [(k : Int)]) := supI_yes (by rw [hgd.out]; unfold backs; rw [hb1, decide_eq_true hrr]; rfl)
          clear hb1 hrr
          go_wp2_with fail
          refine region_cls wr.heap.size (by kernel_rfl) (by kernel_rfl) ?_
          repeat (first | go_big_quiet_skip | (go_big_quiet_want; first | ((with_reducible refine quiet_cell 4 _ rfl ⟨g1, k * 34, none⟩ _ ?_ LH.out ?_); rfl; go_big_quiet_on; (simp only [Act.put, List.setIfInBounds_toArray, List.set_cons_succ, List.set_cons_zero])) | ((with_reducible refine quiet_loadRng 32 _ rfl g1 (k * 34 + 2) _ ?_ LR.out Try.underlying32 ?_ ?_ ?_); rfl; rfl; exact cells_root hol.out; go_big_quiet_on; (simp only [Act.put, List.setIfInBounds_toArray, List.set_cons_succ, List.set_cons_zero])) | ((with_reducible refine quiet_loadRng 32 _ rfl w.heap.size 0 _ ?_ LX.out Try.underlying32 ?_ ?_ ?_); rfl; rfl; exact cells_root HLR.out; go_big_quiet_on; (simp only [Act.put, List.setIfInBounds_toArray, List.set_cons_succ, List.set_cons_zero])) | (go_big_quiet_op; first | go_big_quiet_on | ((with_reducible refine ⟨_, fun _ _ => rfl, ?_⟩); go_big_quiet_on))))
          refine wpQuiet_nil ?_
          intro w4 hw4
          have B4 := Lib.hid (HBEL.out.trans (hw4.out.mono HSZ.out))
          have O4 := Lib.hid (own_ext HOWN.out hw4.out)
          have S4 := Lib.hid (Nat.le_trans HSZ.out hw4.out.size)
          clear hw4
          go_wp2_with (at_builtin; (with_reducible refine wpList_push rfl (.tmp 29) (.tmp 31) 40 rfl (w.heap.size + 1) 3 i0 _ 1 8 Try.underlying40 HI.out hz0 hz1 hz2 rfl (by omega) _ _ _ ?_ O4.out [.int .i64 k] ?_ rfl C1.out HM1.out HM2.out S4.out ?_); rfl; rfl; intro v' w5 hown' hg' hbel' _; have O5 : Hid (w5.ownsRow (w.heap.size + 1) 3 1 v' (supI vs r k ++ [(k : Int)]).length (ints .i64 (supI vs r k ++ [(k : Int)]))) := (by show World.ownsRow _ _ _ _ _ _ _; simpa [ints] using hown'); have B5 := Lib.hid (B4.out.trans hbel'); have S5 := Lib.hid (Nat.le_trans S4.out hg'.size); clear hown' hg' hbel')
          have CV := Lib.hid (STEP.out w5 B5.out).1
          have LV := Lib.hid (STEP.out w5 B5.out).2
          refine region_cls w5.heap.size (by kernel_rfl) (by kernel_rfl) ?_
          repeat (first | go_big_quiet_skip | (go_big_quiet_want; first | ((with_reducible refine quiet_loadP (f := vc) (k := 34) 35 _ rfl g1 vs k ?_ p1 LV.out HTl.out hkl Try.underlying35 ?_ ?_ ?_); rfl; rfl; exact cells_vote'; go_big_quiet_on; (simp only [Act.put, List.setIfInBounds_toArray, List.set_cons_succ, List.set_cons_zero])) | (go_big_quiet_op; first | go_big_quiet_on | ((with_reducible refine ⟨_, fun _ _ => rfl, ?_⟩); go_big_quiet_on) | (apply Exists.intro; refine ⟨fun w1 hw1 => ?_, ?_⟩; (go_at_call 15; (with_reducible exact CV.out w1 hw1)); go_big_quiet_on))))
          refine wpQuiet_nil ?_
          intro w6 hw6
          have B6 := Lib.hid (B5.out.trans (hw6.out.mono S5.out))
          have O6 := Lib.hid (own_ext O5.out hw6.out)
          clear hw6
          go_wp2_with fail
          go_roundw
          case rel => exact ⟨k + 1, by omega, by go_num, by rw [HN.out]; exact O6.out, B6.out⟩
          case measure => simp [intOf]; omega
        · have hqr : ∀ w : World, (Op.equalIn 10000 32 (.agg (ints .u8 vs[k].2.2).toArray) (.agg (ints .u8 r).toArray)).run Try.prog w = .ok false w := fun w => by
            have := root_same hol.out HLR.out w
            rwa [decide_eq_false hrr] at this
          have HN : Hid (supI vs r (k + 1) = supI vs r k) := supI_no (by rw [hgd.out]; unfold backs; rw [hb1, decide_eq_false hrr]; rfl)
          clear hb1 hrr
          go_wp2_with fail
          refine region_cls wr.heap.size (by kernel_rfl) (by kernel_rfl) ?_
          repeat (first | go_big_quiet_skip | (go_big_quiet_want; first | ((with_reducible refine quiet_cell 4 _ rfl ⟨g1, k * 34, none⟩ _ ?_ LH.out ?_); rfl; go_big_quiet_on; (simp only [Act.put, List.setIfInBounds_toArray, List.set_cons_succ, List.set_cons_zero])) | ((with_reducible refine quiet_loadRng 32 _ rfl g1 (k * 34 + 2) _ ?_ LR.out Try.underlying32 ?_ ?_ ?_); rfl; rfl; exact cells_root hol.out; go_big_quiet_on; (simp only [Act.put, List.setIfInBounds_toArray, List.set_cons_succ, List.set_cons_zero])) | ((with_reducible refine quiet_loadRng 32 _ rfl w.heap.size 0 _ ?_ LX.out Try.underlying32 ?_ ?_ ?_); rfl; rfl; exact cells_root HLR.out; go_big_quiet_on; (simp only [Act.put, List.setIfInBounds_toArray, List.set_cons_succ, List.set_cons_zero])) | (go_big_quiet_op; first | go_big_quiet_on | ((with_reducible refine ⟨_, fun _ _ => rfl, ?_⟩); go_big_quiet_on))))
          refine wpQuiet_nil ?_
          intro w4 hw4
          have B4 := Lib.hid (HBEL.out.trans (hw4.out.mono HSZ.out))
          have O4 := Lib.hid (own_ext HOWN.out hw4.out)
          have S4 := Lib.hid (Nat.le_trans HSZ.out hw4.out.size)
          clear hw4
          go_wp2_with fail
          have CV := Lib.hid (STEP.out w4 B4.out).1
          have LV := Lib.hid (STEP.out w4 B4.out).2
          refine region_cls w4.heap.size (by kernel_rfl) (by kernel_rfl) ?_
          repeat (first | go_big_quiet_skip | (go_big_quiet_want; first | ((with_reducible refine quiet_loadP (f := vc) (k := 34) 35 _ rfl g1 vs k ?_ p1 LV.out HTl.out hkl Try.underlying35 ?_ ?_ ?_); rfl; rfl; exact cells_vote'; go_big_quiet_on; (simp only [Act.put, List.setIfInBounds_toArray, List.set_cons_succ, List.set_cons_zero])) | (go_big_quiet_op; first | go_big_quiet_on | ((with_reducible refine ⟨_, fun _ _ => rfl, ?_⟩); go_big_quiet_on) | (apply Exists.intro; refine ⟨fun w1 hw1 => ?_, ?_⟩; (go_at_call 15; (with_reducible exact CV.out w1 hw1)); go_big_quiet_on))))
          refine wpQuiet_nil ?_
          intro w6 hw6
          have B6 := Lib.hid (B4.out.trans (hw6.out.mono S4.out))
          have O6 := Lib.hid (own_ext O4.out hw6.out)
          clear hw6
          go_wp2_with fail
          go_roundw
          case rel => exact ⟨k + 1, by omega, by go_num, by rw [HN.out]; exact O6.out, B6.out⟩
          case measure => simp [intOf]; omega
    · have hkk : k = n := by omega
      subst hkk
      have T2 := Lib.hid (HT.out.below BR.out HT.out.1.lt HT.out.2.1.lt)
      have HXR := Lib.hid (HX.out.below HBEL.out (Nat.lt_succ_self _))
      obtain ⟨A1, c1, hv1⟩ := own_slice HOWN.out
      subst hv1
      have SUP := Lib.hid (supporters_any r HLR.out wr T2.out (by rw [HVN.out]; exact hn))
      rw [HVN.out] at SUP
      go_wp2_with (first | ((with_reducible refine wpList_loadG 32 _ rfl _ _ ?_ ?_ HXR.out Try.underlying32 ?_ ?_ ?_); rfl; rfl; rfl; exact cells_root HLR.out) | fail)
      refine SUP.out.mono ?_; rintro e w4 ⟨v, he, ho, hb4⟩
      subst he
      obtain ⟨A2, c2, hv2⟩ := own_slice ho
      subst hv2
      have R1 := Lib.hid ((Row.own HOWN.out).below hb4)
      have R2 := Lib.hid (Row.own ho)
      have B4 := Lib.hid (HBEL.out.trans (hb4.mono HSZ.out))
      have R1' := Lib.hid (R1.out.more hb4.size)
      have HLE := Lib.hid (supI_len vs r k)
      clear ho hb4
      have SI := Lib.hid (sameInts_any A2 A1 (supI vs r k).length (supI vs r k).length c2 c1 (supI vs r k) (supI vs r k) w4 R2.out R1'.out (by have := HLE.out; omega) (by have := HLE.out; omega))
      rw [decide_eq_true rfl] at SI
      have S4 := Lib.hid B4.out.size
      go_wp2_with fail
      refine SI.out.mono ?_; rintro e w5 ⟨rfl, hb5⟩
      have B5 := Lib.hid (B4.out.trans (hb5.mono (by have := S4.out; simp at this; exact this)))
      clear hb5
      go_wp2_with fail
      go_ret
      exact ⟨rfl, BB.out.trans (B5.out.mono (Nat.le_succ _))⟩
end Go.Proofs.Ytfkimlmfgipfjaa
