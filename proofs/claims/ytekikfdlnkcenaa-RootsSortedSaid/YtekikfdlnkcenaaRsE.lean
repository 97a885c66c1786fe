/- Roots: slices.MaxFunc, roots.Greatest, roots.Sort. -/
import Derived.Test.YtekikfdlnkcenaaRsD
import Derived.Test.YtekikfdlnkcenaaRsC
namespace Go.Proofs.Ytekikfdlnkcenaa
open Go.RowKit Go.Sort
/-- a call of a function value, in a region that draws its order -/
theorem mix_callV {Pg : Program} {w : World} {ops : Array Oper} {op : Oper} {a : Act} {Q : Exit → Act → World → Prop} {ts : Array Value} {K : Act → World → Prop} {E : Prop} {f : FuncId} {fn : Func} {args : Array Value} {Post : Ending → World → Prop}
    (hc : Calls Pg f args w Post) (hf : Pg.funcs[f]? = some fn) (hn : (fn.name == "runtime.NumGoroutine") = false) (hb : fn.body.isNone = false) (x : Operand) (xs : Array Operand) (tt : Array TypeId)
    (ho : op.op = .call { callee := .value x, args := xs, argTypes := tt }) (hx : a.eval x = .func (.func f) #[] #[]) (hargs0 : xs.toList.map a.eval = args.toList) (hw : Region.wanted op (yielded ops ts) = true)
    (hk : ∀ e w', Post e w' → ∃ v, e = .returned v ∧ K (a.put op.dst v) w') : if Region.wanted op (yielded ops ts) = true then op.wp Pg a w K Q else E := by
  rw [if_pos hw]
  have hargs : xs.map a.eval = args := Array.ext' (by rw [Array.toList_map]; exact hargs0)
  unfold Oper.wp execOp
  simp only [ho, resolve, Sem.run_bind, Sem.run_pure, Result.andThen_ok, hargs, hx, Deferred.ofValue, invoke, Array.append_empty, Array.empty_append, run_enter hf hn hb, Oper.upon]
  refine Calls.mono hc ?_
  intro e w' hp
  obtain ⟨v, rfl, hK⟩ := hk e w' hp
  exact hK
theorem cmpRt_any (a b : Rt) (w : World) : Calls Try.prog 18 #[.agg (rc a).toArray, .agg (rc b).toArray] w fun e w' => e = .returned (.int .i64 (cmpRt a b)) ∧ Below w.heap.size w w' :=
  (compare_lays (rt_fit a) (rt_fit b) a.len b.len w).mono fun e w' h => ⟨h.1, h.2.below⟩
/-- the greatest -/
def MaxP (X : List Rt) (w : World) (e : Ending) (w' : World) : Prop := ∃ m : Rt, e = .returned (.agg (rc m).toArray) ∧ m ∈ X ∧ (∀ x ∈ X, cmpRt x m ≤ 0) ∧ Below w.heap.size w w'
set_option maxRecDepth 20000 in
set_option maxHeartbeats 1000000 in
theorem maxR_any (A : Option Addr) (n c : Nat) (X : List Rt) (hn0 : 0 < n) (hn5 : n ≤ 65535) (w : World) (h : RtRow w A n X) :
    Calls Try.prog 55 #[.slice A n c, .func (.func 18) #[] #[]] w (MaxP X w) := by
  have M := bx (MM.start (ok_g0 w))
  have HR := bx h
  have LN := bx h.1
  have h0 : 0 < X.length := by rw [h.1]; exact hn0
  obtain ⟨ad, rfl, hc⟩ := h.at 0 h0
  have HX0 : Bx (∀ x ∈ X.take 1, cmpRt x X[0] ≤ 0) := ⟨fun x hx => by
    obtain ⟨j, hj, e⟩ := List.mem_take_iff_getElem.1 hx
    have hj0 : j = 0 := by omega
    subst hj0
    rw [← e, cmpRt_self]; exact Int.le_refl _⟩
  have HM0 := bx (List.getElem_mem h0)
  have HC0 := bx hc
  clear h hc
  generalize X[0] = x0 at *
  have hni : ¬ (n : Int) < 1 := by omega
  have hn1 : (0 : Int) < (n : Int) := by omega
  go_enter Try.func55, Try.ntmps55
  go_upto_region 1 with ((with_reducible apply wpList_alc M.out); rfl; rfl; exact ztRt; intro w' g M' hb'; (clear M; have M := bx M'; clear M'); clear hb')
  obtain ⟨g4, hg4⟩ : ∃ x, x = g := ⟨_, rfl⟩
  subst hg4
  have HC1 : Bx (∀ j u, (rc x0)[j]? = some u → w'.cell? (ad.add j) = some u) := ⟨fun j u hu => by
    have := HC0.out w' M.out.ext.bel j u hu
    rw [Nat.zero_mul, addr_add2, Nat.zero_add] at this
    exact this⟩
  go_wp2_with (first | ((with_reducible apply wpList_ldAr HC1.out); rfl; rfl; rfl) | ((with_reducible apply wpList_alc M.out); rfl; rfl; exact ztRt; intro w' g M' hb'; (clear M; have M := bx M'; clear M'); clear hb') | ((with_reducible apply wpList_sts M.out 0 [rc x0] [rc x0]); rfl; rfl; rfl; rfl; rfl; (first | exact rtRoot | exact rtCk | exact rtTb); rfl; exact lenR _; exact rc_one _; rfl; intro w' M' hg'; (simp only [List.set_cons_zero, List.set_cons_succ] at M'); (clear M; have M := bx M'; clear M'); clear hg'))
  obtain ⟨g5, hg5⟩ : ∃ x, x = g := ⟨_, rfl⟩
  subst hg5
  go_loopw [6] (fun i wr => ∃ (k : Nat) (m : Rt), 1 ≤ k ∧ k ≤ n ∧ i = .int .i64 k ∧ m ∈ X ∧ (∀ x ∈ X.take k, cmpRt x m ≤ 0) ∧ MM g0 w g0 wr [⟨g5, [rc m], [32]⟩, ⟨g4, [rc r0], [32]⟩] []) (fun i _ => n - (intOf i).toNat)
  case atStart => exact ⟨1, x0, Nat.le_refl _, hn0, rfl, HM0.out, HX0.out, M.out⟩
  case round =>
    obtain ⟨k, m, hk1, hk, rfl, hm, hmx, hM⟩ := hrel
    clear M
    have M := bx hM
    have HMX := bx hmx
    have HMM := bx hm
    clear hM hmx hm HC0 HC1 HX0 HM0
    by_cases hkn : k < n
    · have hkl : k < X.length := by rw [LN.out]; exact hkn
      obtain ⟨ad', ea, hc⟩ := (HR.out.below M.out.ext.bel).at k hkl
      cases ea
      have hki : (k : Int) < (n : Int) := by omega
      have hk0 : 0 ≤ (k : Int) := by omega
      have HMY := bx (List.getElem_mem hkl)
      have HTK := bx (List.take_succ_eq_append_getElem hkl)
      go_wp2_with fail
      refine wp_region_mix6 [] (.steps [(1, 0), (1, 1), (1, 2), (1, 3), (0, 4), (0, 5), (2, 6), (1, 7)] .leaf) (by kernel_rfl) (by kernel_rfl) ?_
      simp only [MixT6, MT.steps, stepAt, List.getD_cons_zero, List.getD_cons_succ]
      have M' := M.out.drew
      (clear M; have M := bx M'; clear M')
      have QC : Bx (∀ w', Cls wr.drew.heap.size wr.drew w' → ∀ j u, (rc X[k])[j]? = some u → w'.cell? ((ad.add (k * 32)).add j) = some u) := ⟨fun w' h => hc w' ((Below.refl wr.heap.size wr).drew.trans h.out)⟩
      have QM := bx M.out.at0.cls
      clear hc
      generalize hyk : X[k] = y at *
      have HYK := bx hyk
      repeat (first | (with_reducible refine wpQuiet_nil ?_) | (first | go_big_quiet_skip | (go_big_quiet_want; first | (first | ((with_reducible apply quiet_ldp QM.out (lenR _)); rfl; rfl; (first | exact rtRoot | exact rtCk | exact rtTb); rfl; rfl; go_big_quiet_on; (simp only [Act.put, List.setIfInBounds_toArray, List.set_cons_succ, List.set_cons_zero])) | ((with_reducible apply quiet_ld1 QM.out); rfl; rfl; (first | exact otInt | exact otU64 | exact otU64s); rfl; rfl; go_big_quiet_on; (simp only [Act.put, List.setIfInBounds_toArray, List.set_cons_succ, List.set_cons_zero])) | ((with_reducible apply quiet_lds QM.out (lenR _)); rfl; rfl; (first | exact rtRoot | exact rtCk | exact rtTb); rfl; (try simp only [Nat.reduceAdd, List.drop_zero, cut_cp, cut_tb, cut_tb_c]); go_big_quiet_on; (simp only [Act.put, List.setIfInBounds_toArray, List.set_cons_succ, List.set_cons_zero])) | ((with_reducible apply quiet_ldA); rfl; rfl; exact QC.out; go_big_quiet_on; (simp only [Act.put, List.setIfInBounds_toArray, List.set_cons_succ, List.set_cons_zero]))) | (go_big_quiet_op; first | go_big_quiet_on | ((with_reducible refine ⟨_, fun _ _ => rfl, ?_⟩); go_big_quiet_on)))))
      clear QM QC
      refine mix_callV (cmpRt_any y m _) Try.func18 rfl rfl _ _ _ rfl rfl rfl rfl ?_
      rintro e w2 ⟨rfl, hb⟩
      refine ⟨_, rfl, hb, ?_⟩
      have M' := M.out.below hb
      (clear M; have M := bx M'; clear M')
      clear hb
      simp only [Act.put, List.setIfInBounds_toArray, List.set_cons_succ, List.set_cons_zero]
      repeat (first | (first | go_big_quiet_skip | (go_big_quiet_want; first | fail | (go_big_quiet_op; first | go_big_quiet_on | ((with_reducible refine ⟨_, fun _ _ => rfl, ?_⟩); go_big_quiet_on)))) | (with_reducible refine wpQuiet_nil ?_))
      refine NoPanic.normal ?_
      generalize hcm : cmpRt y m = v at *
      by_cases hv : 0 < v
      · have HV := bx hcm
        obtain ⟨ad2, ea2, hc2⟩ := (HR.out.below M.out.ext.bel).at k hkl
        cases ea2
        have LX : Bx (∀ j u, (rc y)[j]? = some u → w2.cell? ((ad.add (k * 32)).add j) = some u) := ⟨by
          have := hc2 w2 (Below.refl _ _)
          rw [HYK.out] at this
          exact this⟩
        clear hc2 hcm hyk
        go_wp2_with (first | ((with_reducible apply wpList_ldAr LX.out); rfl; rfl; rfl) | ((with_reducible apply wpList_sts M.out 0 [rc y] [rc y]); rfl; rfl; rfl; rfl; rfl; (first | exact rtRoot | exact rtCk | exact rtTb); rfl; exact lenR _; exact rc_one _; rfl; intro w' M' hg'; (simp only [List.set_cons_zero, List.set_cons_succ] at M'); (clear M; have M := bx M'; clear M'); clear hg'))
        go_roundw
        case rel => exact ⟨k + 1, y, by omega, by omega, by go_num, HMY.out, fun x hx => by
          rw [HTK.out] at hx
          rcases List.mem_append.1 hx with h | h
          · refine cmpRt_le (HMX.out x h) ?_
            have h1 := HV.out
            have h2 := cmpRt_flip y m
            omega
          · have hxy : x = y := by simpa using h
            rw [hxy, cmpRt_self]; exact Int.le_refl _, M.out⟩
        case measure => simp [intOf]; omega
      · have HV := bx hcm
        clear hcm
        go_wp2_with fail
        go_roundw
        case rel => exact ⟨k + 1, m, by omega, by omega, by go_num, HMM.out, fun x hx => by
          rw [HTK.out] at hx
          rcases List.mem_append.1 hx with h | h
          · exact HMX.out x h
          · have hxy : x = y := by simpa using h
            rw [hxy, HV.out]; omega, M.out⟩
        case measure => simp [intOf]; omega
    · obtain rfl : k = n := by omega
      rw [List.take_of_length_le (by rw [LN.out]; exact Nat.le_refl _)] at HMX
      go_wp2_with (first | ((with_reducible apply wpList_ldp M.out.at0); rfl; rfl; rfl; (first | exact rtRoot | exact rtCk | exact rtTb); rfl; rfl) | ((with_reducible apply wpList_ld1 M.out.at0); rfl; rfl; rfl; (first | exact otInt | exact otU64 | exact otU64s); rfl; rfl) | ((with_reducible apply wpList_lds M.out.at0); rfl; rfl; rfl; (first | exact rtRoot | exact rtCk | exact rtTb); rfl; (try simp only [Nat.reduceAdd, List.drop_zero, cut_cp, cut_tb, cut_tb_c])) | ((with_reducible apply wpList_sts M.out 1 [rc m] [rc m]); rfl; rfl; rfl; rfl; rfl; (first | exact rtRoot | exact rtCk | exact rtTb); rfl; exact lenR _; exact rc_one _; rfl; intro w' M' hg'; (simp only [List.set_cons_zero, List.set_cons_succ] at M'); (clear M; have M := bx M'; clear M'); clear hg'))
      exact bodyPost_ret (results_L (by rfl) _ M.out.at1 (by rfl) rtRoot rfl) rfl ⟨m, by simp [fl], HMM.out, HMX.out, M.out.ext.bel⟩
/-- roots.Greatest -/
def GrP (X : List Rt) (w : World) (e : Ending) (w' : World) : Prop := ((X = [] ∧ e = .returned (.tuple #[.agg (rc r0).toArray, .bool false])) ∨ ∃ m : Rt, e = .returned (.tuple #[.agg (rc m).toArray, .bool true]) ∧ m ∈ X ∧ ∀ x ∈ X, cmpRt x m ≤ 0) ∧ Below w.heap.size w w'
set_option maxRecDepth 20000 in
set_option maxHeartbeats 1000000 in
theorem greatestR_any (A : Option Addr) (n c : Nat) (X : List Rt) (hn5 : n ≤ 65535) (w : World) (h : RtRow w A n X) :
    Calls Try.prog 22 #[.slice A n c] w (GrP X w) := by
  have M := bx (MM.start (ok_g0 w))
  have HR := bx h
  have LN := bx h.1
  clear h
  rcases Nat.eq_zero_or_pos n with h0 | h0
  · subst h0
    have HX : Bx (X = []) := ⟨List.eq_nil_of_length_eq_zero LN.out⟩
    go_enter Try.func22, Try.ntmps22
    go_wp2_with (first | ((with_reducible apply wpList_alc M.out); rfl; rfl; exact ztRt; intro w' g M' hb'; (clear M; have M := bx M'; clear M'); clear hb') | ((with_reducible refine wpList_buildTo rfl 33 _ rfl [] (fl [rc r0]) ?_ (by kernel_rfl) ?_); rfl) | ((with_reducible apply wpList_sts M.out 0 [rc r0] [rc r0]); rfl; rfl; rfl; rfl; rfl; (first | exact rtRoot | exact rtCk | exact rtTb); rfl; exact lenR _; exact rc_one _; rfl; intro w' M' hg'; (simp only [List.set_cons_zero, List.set_cons_succ] at M'); (clear M; have M := bx M'; clear M'); clear hg'))
    exact bodyPost_ret (results_Lt (by rfl) _ M.out.at0 (by rfl) rtRoot rfl) rfl ⟨.inl ⟨HX.out, by simp [fl]⟩, M.out.ext.bel⟩
  · have hni : ¬ (n : Int) = 0 := by omega
    go_enter Try.func22, Try.ntmps22
    go_wp2_with ((with_reducible apply wpList_alc M.out); rfl; rfl; exact ztRt; intro w' g M' hb'; (clear M; have M := bx M'; clear M'); clear hb')
    refine (maxR_any A n c X h0 hn5 _ (HR.out.below M.out.ext.bel)).mono ?_; rintro e w1 ⟨m, rfl, hm, hmx, hb⟩
    have M' := M.out.below hb
    (clear M; have M := bx M'; clear M')
    have HM1 := bx hm
    have HM2 := bx hmx
    clear hb hm hmx
    go_wp2_with (first | ((with_reducible apply wpList_sts M.out 0 [rc m] [rc m]); rfl; rfl; rfl; rfl; rfl; (first | exact rtRoot | exact rtCk | exact rtTb); rfl; exact lenR _; exact rc_one _; rfl; intro w' M' hg'; (simp only [List.set_cons_zero, List.set_cons_succ] at M'); (clear M; have M := bx M'; clear M'); clear hg'))
    exact bodyPost_ret (results_Lt (by rfl) _ M.out.at0 (by rfl) rtRoot rfl) rfl ⟨.inr ⟨m, by simp [fl], HM1.out, HM2.out⟩, M.out.ext.bel⟩
/-- a list of roots in new memory -/
def RtsP (Γ : Gam) (w : World) (X : List Rt) (e : Ending) (w' : World) : Prop := ∃ (A : Option Addr) (c : Nat) (Γ' : Gam), e = .returned (.slice A X.length c) ∧ CapOk A X.length c ∧ SlG Γ' A X.length (rts X) ∧ Ext Γ w Γ' w'
theorem SlG.pre {Γ : Gam} {A : Option Addr} {n m : Nat} {xs ys : List Value} (h : SlG Γ A n (xs ++ ys)) (hm : m ≤ n) : SlG Γ A m xs := fun h0 => by
  obtain ⟨g, post, e, hg⟩ := h (by omega)
  exact ⟨g, ys ++ post, e, by rw [hg, List.append_assoc]⟩
set_option maxRecDepth 20000 in
set_option maxHeartbeats 1000000 in
theorem sortR_any (Γ : Gam) (A : Option Addr) (n c : Nat) (X : List Rt) (hn5 : n ≤ 65535) (w : World) (ok : Ok Γ w) (h : RtRow w A n X) :
    Calls Try.prog 17 #[.slice A n c] w (RtsP Γ w (rsU X)) := by
  have M := bx (MM.start ok)
  have LN := bx h.1
  have SV := bx (sortedVals_any w.heap.size w.heap.size A n c X h.1 hn5 (w.alloc (.cells #[.slice A n c] 46)) (by simp) (by simp) ((Has.new w [.slice A n c] 46).cell 0) (h.2.alloc (Nat.le_refl _) _))
  have VA := bx (values_any A n c w)
  clear h ok
  go_enter Try.func17, Try.ntmps17
  go_wp2_with fail
  refine VA.out.mono ?_; rintro e w1 ⟨rfl, rfl⟩
  go_wp2_with fail
  refine SV.out.mono ?_; rintro e w2 ⟨v, rfl, hrow, hb⟩
  have M1 := (M.out.below (ext_alloc w (.cells #[.slice A n c] 46))).rowNew hb hrow
  obtain ⟨A2, c2, rfl⟩ := own_slice hrow
  rw [LN.out] at M1 ⊢
  clear M SV VA hrow hb
  have M := bx M1
  clear M1
  go_wp2_with fail
  refine (compactR_any A2 n c2 (srtR X) (by rw [srtR_len]; exact LN.out) hn5 M.out).mono ?_; rintro e w3 ⟨Y, rfl, hM, hY⟩
  obtain ⟨Γ', h1, h2, h3, h4⟩ := hM.frz
  have HU : cptR (srtR X) n = rsU X := by unfold rsU; rw [LN.out]
  rw [HU] at hY ⊢
  have hl : (rsU X).length ≤ n := by have := rsU_len X; rw [LN.out] at this; exact this
  have e0 : Y = rsU X ++ Y.drop (rsU X).length := by
    have := List.take_append_drop (rsU X).length Y
    rw [hY] at this
    exact this.symm
  have e1 : rts Y = rts (rsU X) ++ rts (Y.drop (rsU X).length) := by
    rw [← show rts (rsU X ++ Y.drop (rsU X).length) = rts (rsU X) ++ rts (Y.drop (rsU X).length) from List.flatMap_append, ← e0]
  rw [e1] at h2
  have HC := bx (show CapOk A2 (rsU X).length c2 from ⟨Nat.le_trans hl h1.le, h1.mx, h1.nil⟩)
  have HS := bx (h2.pre hl)
  have HE := bx h4.ext
  clear hM hY h1 h2 h3 h4 e0 e1 hl HU
  go_wp2_with fail
  go_ret
  exact ⟨A2, c2, Γ', rfl, HC.out, HS.out, HE.out⟩
end Go.Proofs.Ytekikfdlnkcenaa
