/- Drop of a book, walked. -/
import Derived.Test.YtekikfdlnkcenaaBkD
import Derived.Test.YtekikfdlnkcenaaTbC
import Derived.Maps.RangeWalk
import Derived.Maps.Ext
namespace Go.Proofs.Ytekikfdlnkcenaa
open Go.RowKit Go.Maps
/-- what stays under a range that strikes -/
theorem Fk_fact {w : World} {M n : Nat} {T : List Tb} {es0 : List (Lit × DataW Value)} {pd : Lit → DataW Value → Bool} {left : Lit → Bool} {kl : Lit} {y : DataW Value} (hap : es0.Pairwise fun p q => p.1 ≠ q.1) (hkeys : ∀ p ∈ es0, WideAt.IsKeyLit p.1)
    (hh : ∀ kl, has (DataW.map es0) kl = true ↔ ∃ t ∈ T, kl = kc t.1)
    (ha : ∀ t ∈ T, ∃ A cap, (∀ z, (DataW.map es0).atKey (kc t.1) z = .held (.agg (tbc t.1 (.slice A t.2.length cap)).toArray)))
    (hat : ∀ zd, (Fk pd es0 left).atKey kl zd = y) : ∃ t ∈ T, kl = kc t.1 ∧ ∃ A cap, y = .held (.agg (tbc t.1 (.slice A t.2.length cap)).toArray) := by
  have h1 := has_true_of_atKey hat
  unfold Fk at h1
  rw [has_eq, List.any_eq_true] at h1
  obtain ⟨p, hp, hs⟩ := h1
  obtain ⟨hp2, hp3⟩ := List.mem_filter.1 hp
  have ek := WideAt.sameKey_eq hs
  subst ek
  obtain ⟨t, ht, e1⟩ := (hh p.1).1 (by rw [has_eq, List.any_eq_true]; exact ⟨p, hp2, hs⟩)
  obtain ⟨A, cap, h2⟩ := ha t ht
  have kk := hkeys p hp2
  refine ⟨t, ht, e1, A, cap, ?_⟩
  have h3 : (Fk pd es0 left).atKey p.1 .nil = p.2 := WideAt.atKey_mem .nil kk (hap.filter _) hp
  have h4 : (DataW.map es0).atKey p.1 .nil = p.2 := WideAt.atKey_mem .nil kk hap hp2
  rw [← hat .nil, h3, ← h4, e1]
  exact h2 .nil
theorem cp_of {ck : Ck} (h : CkOk ck) : ∃ c : Cp, ckc ck = fl (cpP c) ∧ ck.1 = (c.e.n : Int) := by
  have h0 := h.e0
  have h1 := h.e1
  refine ⟨⟨⟨ck.1.toNat, by omega⟩, ⟨ck.2, h.r, h.b⟩⟩, ?_, (Int.toNat_of_nonneg h0).symm⟩
  simp only [cpP, fl, ckc, rc, Int.toNat_of_nonneg h0, List.append_nil, List.cons_append, List.nil_append]
theorem tb_of {ck : Ck} {c : Cp} (h : ckc ck = fl (cpP c)) (s : Value) : tbc ck s = fl (tbP c s) := by
  unfold tbc
  rw [h]
  simp [fl, cpP, tbP]
theorem ztCkE : ZeroT Try.prog 35 (cpP cp0) [1, 32] := ⟨fun w => by kernel_rfl, cpP_len _⟩
set_option maxRecDepth 20000 in
set_option maxHeartbeats 1000000 in
theorem drop1_any (c : Cp) (s : Value) (e : U) (ge : Nat) (w : World) (hg : Has w ge [.int .u64 (e.n : Int)]) :
    Calls Try.prog 35 #[.agg (fl (cpP c)).toArray, .agg (fl (tbP c s)).toArray, .pointer (some ⟨ge, 0, none⟩)] w fun en w' => en = .returned (.bool (decide (c.e.n < e.n))) ∧ w.grownBy w' none := by
  have M := bx (MM.start (ok_g0 w))
  have HG := bx hg
  clear hg
  go_enter Try.func35, Try.ntmps35
  go_upto_region 1 with (first | ((with_reducible apply wpList_box M.out); rfl; rfl; rfl; exact cpP_len _; intro w' g M' hb'; (clear M; have M := bx M'; clear M'); clear hb') | ((with_reducible apply wpList_box M.out); rfl; rfl; rfl; exact tbP_len _ _; intro w' g M' hb'; (clear M; have M := bx M'; clear M'); clear hb'))
  have hc : w'.cell? ⟨ge, 0, none⟩ = some (.int .u64 (e.n : Int)) := (HG.out.below M.out.ext.bel HG.out.lt).cell 0
  go_wp2_with (first | ((with_reducible apply wpList_ldp M.out.at1); rfl; rfl; rfl; (first | exact rtRoot | exact rtCk | exact rtTb); rfl; rfl) | ((with_reducible apply wpList_ld1 M.out.at1); rfl; rfl; rfl; (first | exact otInt | exact otU64 | exact otU64s); rfl; rfl) | ((with_reducible apply wpList_lds M.out.at1); rfl; rfl; rfl; (first | exact rtRoot | exact rtCk | exact rtTb); rfl; (try simp only [Nat.reduceAdd, List.drop_zero, cut_cp, cut_tb, cut_tb_c])))
  go_ret
  exact ⟨rfl, below_none M.out.ext.bel⟩
set_option maxRecDepth 20000 in
set_option maxHeartbeats 1000000 in
theorem deleteFunc_any {P : Nat → Prop} (Mb : Nat) (T : List Tb) (e : U) (ge : Nat) (w : World) (h : BkMap P w Mb T) (hg : Has w ge [.int .u64 (e.n : Int)]) :
    Calls Try.prog 34 #[.map (some Mb), .func (.func 35) #[] #[.pointer (some ⟨ge, 0, none⟩)]] w fun en w' => en = .returned (.tuple #[]) ∧ BkMap P w' Mb (stayT (e.n : Int) T) ∧ w.grownBy w' (some Mb) := by
  have hne := fun g cs (hg : Has w g cs) => h.ne hg
  obtain ⟨ok, D, hown, htd, hsz, hh, ha⟩ := h
  obtain ⟨es0, rfl, hap, hkeys⟩ := hown.entries keyedC
  have HD := bx (fun w' n ho hg => BkMap.drop (P := P) (w := w) (w' := w') (M := Mb) (n := n) (e.n : Int) ok hap hkeys hh ha hne ho hg)
  have HF := bx (fun left kl y hat => Fk_fact (w := w) (M := Mb) (n := 0) (pd := fun kl _ => gone (e.n : Int) T kl) (left := left) (kl := kl) (y := y) hap hkeys hh (fun t ht => by obtain ⟨A, cap, h1, _⟩ := ha t ht; exact ⟨A, cap, h1⟩) hat)
  have HG := bx hg
  have HNE := bx hne
  have OK := bx ok
  have HAP := bx hap
  have HST := bx (Fk_start (pd := fun kl _ => gone (e.n : Int) T kl) hkeys)
  clear hg hne ok htd hsz hh ha hap hkeys
  go_enter Try.func34, Try.ntmps34
  go_wp2_with (first
    | (at_range; refine wpList_range_own _ rfl _ 81 rfl 35 38 keyedC Try.underlying81 _ Mb T.length _ rfl hown ?_; intro w0 hrg0 hg0 hs0)
    | go_in)
  go_frame
  go_loopw [8] (fun _ wr => ∃ (left : Lit → Bool) (cnt : Nat), wr.ranges Try.prog 35 heldR Mb w.heap.size T.length (Fk (fun kl _ => gone (e.n : Int) T kl) es0 left) left cnt ∧ w.grownBy wr (some Mb))
    (fun _ wr => wr.rangeLeft Mb w.heap.size)
  case atStart => exact ⟨_, _, by rw [HST.out]; exact hrg0, hg0.but _⟩
  case round =>
    obtain ⟨left, cnt, hrg, hgw⟩ := hrel
    go_wp2_with (first
      | (at_next; refine wpList_next_ranges _ rfl _ rfl 35 keyedC heldR encC id (fun key kl hk => by obtain ⟨x, hx, _⟩ := keyOf_ck_inv hk; exact ⟨x, hx⟩) (fun v _ _ => ⟨v, rfl⟩) Mb w.heap.size T.length _ _ _ rfl hrg ?_ ?_)
      | go_in)
    · intro _ hl0
      go_wp2
      go_end0
      refine ⟨rfl, HD.out _ T.length ?_ hgw, hgw⟩
      rw [← Fk_end hl0]; exact hrg.owns
    · intro x c kl yd yp w1 cnt1 hkey hlx hv hat hrg1 hlt hg1 hs1 hen
      obtain ⟨t, ht, ek, A, cap, ey⟩ := HF.out _ _ _ hat
      have hvv := (Prod.mk.inj (heldR_inv hv)).1
      rw [ey] at hvv
      have hcv := (DataW.held.inj hvv).symm
      subst hcv
      have kx := keyOf_ck x.ok
      have hkx : kl = kc x.c := by
        have h1 := hkey
        unfold encC at h1
        rw [kx] at h1
        exact (Option.some.inj h1).symm
      have hxt : x.c = t.1 := kc_inj x.ok (OK.out.ok t ht) (by rw [← hkx, ek])
      have hgo : gone (e.n : Int) T kl = decide (t.1.1 < (e.n : Int)) := by rw [ek]; exact gone_of OK.out ht _
      obtain ⟨cp, ec, ee⟩ := cp_of x.ok
      rw [← hxt, tb_of ec] at hen
      rw [← hxt] at hgo
      rw [ee, show decide ((cp.e.n : Int) < (e.n : Int)) = decide (cp.e.n < e.n) from by simp only [Int.ofNat_lt]] at hgo
      have hEN : encC x = .agg (fl (cpP cp)).toArray := by unfold encC; rw [ec]
      rw [hEN] at hkey hen ⊢
      have HKEY := bx hkey
      have HST2 := bx (fun h => Fk_struck HAP.out (keyedC.key hkey) hlx (pd := fun kl _ => gone (e.n : Int) T kl) h hat)
      have HSY2 := bx (fun h => Fk_stays HAP.out (keyedC.key hkey) hlx (pd := fun kl _ => gone (e.n : Int) T kl) h hat)
      have hgw1 := hgw.andThen hg1 (fun j hj => by cases hj; exact Or.inl (Nat.le_refl _))
      have HGW1 := bx hgw1
      have HGG := bx (HG.out.grown hgw1 (ne_som (HNE.out _ _ HG.out)))
      have HGO := bx hgo
      have RG := bx hrg1
      have HLT := bx hlt
      have RG0 := bx hrg
      clear hkey hlx hat hgw hg1 hs1 hgw1 hgo hrg1 hlt hrg hvv ek ey hkx hxt kx ec ee hEN ht hv hown
      have M := bx (MM.start (ok_g0 w1))
      generalize hS : (Value.slice A t.2.length cap) = sl at *
      go_wp2_with (first | ((with_reducible apply wpList_alc M.out); rfl; rfl; exact ztCkE; intro w' g M' hb'; (clear M; have M := bx M'; clear M'); clear hb') | ((with_reducible apply wpList_alc M.out); rfl; rfl; exact ztTb; intro w' g M' hb'; (clear M; have M := bx M'; clear M'); clear hb') | ((with_reducible apply wpList_sts M.out 1 (cpP cp) (cpP cp)); rfl; rfl; rfl; rfl; rfl; (first | exact rtRoot | exact rtCk | exact rtTb); rfl; exact cpP_len _; exact cp_one _; rfl; intro w' M' hg'; (simp only [List.set_cons_zero, List.set_cons_succ] at M'); (clear M; have M := bx M'; clear M'); clear hg') | ((with_reducible apply wpList_sts M.out 0 (tbP cp sl) (tbP cp sl)); rfl; rfl; rfl; rfl; rfl; (first | exact rtRoot | exact rtCk | exact rtTb); rfl; exact tbP_len _ _; (subst hS; exact tb_one _ _ _ _); rfl; intro w' M' hg'; (simp only [List.set_cons_zero, List.set_cons_succ] at M'); (clear M; have M := bx M'; clear M'); clear hg') | ((with_reducible apply wpList_ldp M.out.at0); rfl; rfl; rfl; (first | exact rtRoot | exact rtCk | exact rtTb); rfl; rfl) | ((with_reducible apply wpList_ld1 M.out.at0); rfl; rfl; rfl; (first | exact otInt | exact otU64 | exact otU64s); rfl; rfl) | ((with_reducible apply wpList_lds M.out.at0); rfl; rfl; rfl; (first | exact rtRoot | exact rtCk | exact rtTb); rfl; (try simp only [Nat.reduceAdd, List.drop_zero, cut_cp, cut_tb, cut_tb_c])) | ((with_reducible apply wpList_ldp M.out.at1); rfl; rfl; rfl; (first | exact rtRoot | exact rtCk | exact rtTb); rfl; rfl) | ((with_reducible apply wpList_ld1 M.out.at1); rfl; rfl; rfl; (first | exact otInt | exact otU64 | exact otU64s); rfl; rfl) | ((with_reducible apply wpList_lds M.out.at1); rfl; rfl; rfl; (first | exact rtRoot | exact rtCk | exact rtTb); rfl; (try simp only [Nat.reduceAdd, List.drop_zero, cut_cp, cut_tb, cut_tb_c])))
      refine (drop1_any cp sl e ge _ (HGG.out.below M.out.ext.bel HGG.out.lt)).mono ?_; rintro en w2 ⟨rfl, hb⟩
      have M' := M.out.below ⟨hb.os, hb.tape, hb.output, hb.size, fun k hk => hb.block k hk (by simp)⟩
      (clear M; have M := bx M'; clear M')
      clear hb
      by_cases hlt : cp.e.n < e.n
      · have hd : decide (cp.e.n < e.n) = true := decide_eq_true hlt
        rw [hd] at HGO ⊢
        have RG2 := bx (RG.out.kept (below_none M.out.ext.bel) (by simp) (by simp))
        go_wp2_with (first
          | ((with_reducible apply wpList_ldp M.out.at1); rfl; rfl; rfl; (first | exact rtRoot | exact rtCk | exact rtTb); rfl; rfl) | ((with_reducible apply wpList_ld1 M.out.at1); rfl; rfl; rfl; (first | exact otInt | exact otU64 | exact otU64s); rfl; rfl) | ((with_reducible apply wpList_lds M.out.at1); rfl; rfl; rfl; (first | exact rtRoot | exact rtCk | exact rtTb); rfl; (try simp only [Nat.reduceAdd, List.drop_zero, cut_cp, cut_tb, cut_tb_c]))
          | (at_delete; refine wpList_delete_ranges _ rfl _ _ 81 35 rfl 38 keyedC Try.underlying81 heldR Mb w.heap.size T.length _ _ _ rfl RG2.out _ _ rfl HKEY.out ?_; intro w3 cnt3 hrg3 hle hturn; go_frame))
        rw [HST2.out HGO.out, strike_twice] at hrg3
        go_roundw
        case rel => exact ⟨_, cnt3, hrg3, (HGW1.out.andThen (below_none M.out.ext.bel) (fun j hj => by cases hj)).andThen hturn.grown (fun j hj => by cases hj; exact Or.inr rfl)⟩
        case measure => rw [hrg3.left_eq, RG0.out.left_eq]; have := HLT.out; omega
      · have hd : decide (cp.e.n < e.n) = false := decide_eq_false hlt
        rw [hd] at HGO ⊢
        go_wp2_with fail
        have hrg2 := RG.out.kept (below_none M.out.ext.bel) (by simp) (by simp)
        rw [HSY2.out HGO.out] at hrg2
        go_roundw
        case rel => exact ⟨_, cnt1, hrg2, HGW1.out.andThen (below_none M.out.ext.bel) (fun j hj => by cases hj)⟩
        case measure => rw [hrg2.left_eq, RG0.out.left_eq]; exact HLT.out
set_option maxRecDepth 20000 in
set_option maxHeartbeats 1000000 in
theorem dropBk_any {P : Nat → Prop} (B M : Nat) (v lim : Int) (T : List Tb) (hT : T.length ≤ 65535) (e : U) (w : World) (h : Bk P w B M v lim T) :
    Calls Try.prog 10 #[.pointer (some ⟨B, 0, none⟩), .int .u64 (e.n : Int)] w fun en w' => en = .returned (.int .i64 ((T.length : Int) - ((stayT (e.n : Int) T).length : Int))) ∧ Bk P w' B M v lim (stayT (e.n : Int) T) ∧ w.grownBy w' (some M) := by
  have hmf : ∀ (fn : Fn) (first cap : Array Value) (w : World), (Instr.makeFunc fn first cap).run Try.prog w = .ok (.func fn first cap) w := fun _ _ _ _ => rfl
  have X0 := bx (Has.new w [.int .u64 (e.n : Int)] 30)
  have E0 := bx (ext_alloc w (.cells #[.int .u64 (e.n : Int)] 30))
  have HB := bx (h.below E0.out)
  have hm0 : (w.alloc (.cells #[.int .u64 (e.n : Int)] 30)).cell? ⟨B, 2, none⟩ = some (.map (some M)) := HB.out.b.cell 2
  have hl0 := HB.out.m.len 3
  have DF := bx (deleteFunc_any M T e w.heap.size _ HB.out.m X0.out)
  have HL : Bx ((stayT (e.n : Int) T).length ≤ T.length) := ⟨List.length_filter_le _ _⟩
  clear h
  go_enter Try.func10, Try.ntmps10
  go_wp2_with fail
  refine DF.out.mono ?_; rintro en w2 ⟨rfl, hbm, hg⟩
  have K2 : Bx (Bk P w2 B M v lim (stayT (e.n : Int) T)) := ⟨⟨HB.out.b.grown hg (ne_som (HB.out.m.ne HB.out.b)), hbm⟩⟩
  have G2 := bx (kp_trans (E0.out.kp M) hg)
  have hm2 : w2.cell? ⟨B, 2, none⟩ = some (.map (some M)) := K2.out.b.cell 2
  have hl2 := K2.out.m.len 3
  have h1 : ((stayT (e.n : Int) T).length : Int) ≤ (T.length : Int) := by have := HL.out; omega
  have h2 : (T.length : Int) ≤ 65535 := by omega
  clear DF hbm hg hm0 hl0 hT
  obtain ⟨m, hm⟩ : ∃ m, (stayT (e.n : Int) T).length = m := ⟨_, rfl⟩
  obtain ⟨n, hn⟩ : ∃ n, T.length = n := ⟨_, rfl⟩
  have LM := bx hm
  have LN := bx hn
  rw [hm] at hl2 h1
  rw [hn] at h1 h2
  clear hm hn
  have h3 : (n : Int) - (m : Int) ≤ 9223372036854775807 := by omega
  have h4 : -9223372036854775808 ≤ (n : Int) - (m : Int) := by omega
  go_wp2_with fail
  go_ret
  have h5 : wrap64 ((n : Int) - (m : Int)) = (n : Int) - (m : Int) := by unfold wrap64; omega
  exact ⟨by rw [LM.out, LN.out]; exact congrArg (fun x => Ending.returned (Value.int .i64 x)) h5, K2.out, G2.out⟩
end Go.Proofs.Ytekikfdlnkcenaa
