/- Register of the reference, walked. -/
import Derived.Test.YtekikfdlnkcenaaTbA
namespace Go.Proofs.Ytekikfdlnkcenaa
open Go.RowKit
/-- the error of a table's balances -/
def tbE (b : List U) (v : Int) : Int := valE (b.map fun x => (x.n : Int)) b.length v
theorem u_u64 (b : List U) : U64 (b.map fun x => (x.n : Int)) := fun x hx => by
  obtain ⟨y, _, rfl⟩ := List.mem_map.1 hx
  have := y.lt
  omega
theorem refValid_any (c : Cp) (b : List U) (hb : b.length ≤ 65535) (A : Option Addr) (k : Nat) (v : Int) (w : World) (h : Row w w.heap.size 1 A b.length (us b)) :
    Calls Try.prog 24 #[.agg (fl (tbP c (.slice A b.length k))).toArray, .int .i64 v] w fun e w' => e = .returned (.int .i64 (tbE b v)) ∧ Below w.heap.size w w' :=
  refValidate_any w.heap.size ((c.e.n : Int), c.r.l) c.r.len A b.length k v _ w (Nat.le_refl _) (us_ints b ▸ h) (u_u64 b) (by omega)
theorem valid_any (c : Cp) (b : List U) (hb : b.length ≤ 65535) (A : Option Addr) (k : Nat) (v : Int) (w : World) (h : Row w w.heap.size 1 A b.length (us b)) :
    Calls Try.prog 39 #[.agg (fl (tbP c (.slice A b.length k))).toArray, .int .i64 v] w fun e w' => e = .returned (.int .i64 (tbE b v)) ∧ Below w.heap.size w w' :=
  validate_any w.heap.size ((c.e.n : Int), c.r.l) c.r.len A b.length k v _ w (Nat.le_refl _) (us_ints b ▸ h) (u_u64 b) (by omega)
def findT (T : List Tbl) (c : Cp) : Int := idxI (fun t => decide (t.c = c)) T
/-- a table is registered: error, tables -/
def regM (T : List Tbl) (t : Tbl) (v lim : Int) : Int × List Tbl :=
  if tbE t.b v ≠ 0 then (tbE t.b v, T) else if 0 ≤ findT T t.c then (9, T) else if lim ≤ (T.length : Int) then (11, T) else (0, addT T t)
def RefRg (Γ : Gam) (w : World) (r : Int × List Tbl) (e : Ending) (w' : World) : Prop :=
  ∃ (A : Option Addr) (c : Nat) (Γ' : Gam), e = .returned (.tuple #[.slice A r.2.length c, .int .i64 r.1]) ∧ CapOk A r.2.length c ∧ TsG Γ' A r.2.length r.2 ∧ Ext Γ w Γ' w'
theorem rg_old {Γ Γ' : Gam} {w w' : World} {r : Int × List Tbl} {x : Int} {T : List Tbl} {A : Option Addr} {n c : Nat} (hr : r = (x, T)) (hn : T.length = n) (hc : CapOk A n c) (hT : TsG Γ' A n T) (hx : Ext Γ w Γ' w') : RefRg Γ w r (.returned (.tuple #[.slice A n c, .int .i64 x])) w' := by
  subst hr hn
  exact ⟨A, c, Γ', rfl, hc, hT, hx⟩
set_option maxRecDepth 20000 in
set_option maxHeartbeats 1000000 in
theorem refRegister_any (Γ : Gam) (A : Option Addr) (n c : Nat) (T : List Tbl) (t : Tbl) (s : Value) (v lim : Int) (hn : n ≤ 65535) (hb : t.b.length ≤ 65535) (w : World) (ok : Ok Γ w) (h : TsG Γ A n T) (hcap : CapOk A n c) (ht : TbG Γ (t.c, s) t) :
    Calls Try.prog 12 #[.slice A n c, .agg (fl (tbP t.c s)).toArray, .int .i64 v, .int .i64 lim] w (RefRg Γ w (regM T t v lim)) := by
  have M := bx (MM.start ok)
  have HT := bx h
  have HC := bx hcap
  have HB := bx hb
  have HN := bx hn
  obtain ⟨As, ks, hs, hsc, hsr⟩ := ht.s
  simp only at hs
  subst hs
  have HTR := bx (fun (w' : World) (o : Ok Γ w') => hsr.row (size := 1) (by rw [us_len, Nat.mul_one]) o)
  have HTb := bx ht
  have LN := bx h.1
  have R1 := bx (fun h : tbE t.b v ≠ 0 => show regM T t v lim = (tbE t.b v, T) from if_pos h)
  have R2 := bx (fun (h : tbE t.b v = 0) (h2 : 0 ≤ findT T t.c) => show regM T t v lim = (9, T) by unfold regM; rw [if_neg (fun e => e h), if_pos h2])
  have R3 := bx (fun (h : tbE t.b v = 0) (h2 : ¬ 0 ≤ findT T t.c) (h3 : lim ≤ (n : Int)) => show regM T t v lim = (11, T) by unfold regM; rw [if_neg (fun e => e h), if_neg h2, if_pos (by rw [LN.out]; exact h3)])
  have R4 := bx (fun (h : tbE t.b v = 0) (h2 : ¬ 0 ≤ findT T t.c) (h3 : ¬ lim ≤ (n : Int)) => show regM T t v lim = (0, addT T t) by unfold regM; rw [if_neg (fun e => e h), if_neg h2, if_neg (by rw [LN.out]; exact h3)])
  clear h hcap hb ht hsc hsr ok hn
  have VA := bx (fun w1 (o : Ok Γ w1) => refValid_any t.c t.b HB.out As ks v w1 (HTR.out w1 o))
  have FA := bx (fun w1 (o : Ok Γ w1) => findTable_any Γ A n c T t.c HN.out w1 o HT.out)
  have AA := bx (fun w1 (o : Ok Γ w1) => addTable_any Γ A n c T t _ HN.out HB.out w1 o HT.out HC.out HTb.out)
  change Bx (∀ w1, Ok Γ w1 → Calls Try.prog _ _ w1 fun e w' => e = .returned (.int .i64 (findT T t.c)) ∧ _) at FA
  generalize tbE t.b v = ve at *
  generalize findT T t.c = fi at *
  generalize hr : regM T t v lim = r at *
  clear hr
  go_enter Try.func12, Try.ntmps12
  go_wp2_with (first | ((with_reducible apply wpList_box M.out); rfl; rfl; rfl; exact tbP_len _ _; intro w' g M' hb'; (clear M; have M := bx M'; clear M'); clear hb') | ((with_reducible apply wpList_ldp M.out.at0); rfl; rfl; rfl; (first | exact rtRoot | exact rtCk | exact rtTb); rfl; rfl) | ((with_reducible apply wpList_ld1 M.out.at0); rfl; rfl; rfl; (first | exact otInt | exact otU64 | exact otU64s); rfl; rfl) | ((with_reducible apply wpList_lds M.out.at0); rfl; rfl; rfl; (first | exact rtRoot | exact rtCk | exact rtTb); rfl; (try simp only [Nat.reduceAdd, List.drop_zero, cut_cp, cut_tb, cut_tb_c])))
  refine (VA.out _ M.out.ext.ok).mono ?_; rintro e w1 ⟨rfl, hb⟩
  have M' := M.out.below hb
  (clear M; have M := bx M'; clear M')
  clear hb
  by_cases hv : ve = 0
  · have hvf : (ve != 0) = false := by rw [bne_eq_false_iff_eq]; exact hv
    have HV := bx hv
    clear hv R1
    go_wp2_with (first | ((with_reducible apply wpList_ldp M.out.at0); rfl; rfl; rfl; (first | exact rtRoot | exact rtCk | exact rtTb); rfl; rfl) | ((with_reducible apply wpList_ld1 M.out.at0); rfl; rfl; rfl; (first | exact otInt | exact otU64 | exact otU64s); rfl; rfl) | ((with_reducible apply wpList_lds M.out.at0); rfl; rfl; rfl; (first | exact rtRoot | exact rtCk | exact rtTb); rfl; (try simp only [Nat.reduceAdd, List.drop_zero, cut_cp, cut_tb, cut_tb_c])))
    refine (FA.out _ M.out.ext.ok).mono ?_; rintro e w2 ⟨rfl, hx⟩
    have M' := M.out.call hx
    (clear M; have M := bx M'; clear M')
    clear hx
    by_cases hf : 0 ≤ fi
    · have R := bx (R2.out HV.out hf)
      clear R2 R3 R4
      go_wp2_with fail
      go_ret2
      exact rg_old R.out LN.out HC.out HT.out M.out.ext
    · by_cases hl : lim ≤ (n : Int)
      · have R := bx (R3.out HV.out (by omega) (by omega))
        clear R2 R3 R4
        go_wp2_with fail
        go_ret2
        exact rg_old R.out LN.out HC.out HT.out M.out.ext
      · have R := bx (R4.out HV.out (by omega) (by omega))
        clear R2 R3 R4
        go_wp2_with (first | ((with_reducible apply wpList_ldp M.out.at0); rfl; rfl; rfl; (first | exact rtRoot | exact rtCk | exact rtTb); rfl; rfl) | ((with_reducible apply wpList_ld1 M.out.at0); rfl; rfl; rfl; (first | exact otInt | exact otU64 | exact otU64s); rfl; rfl) | ((with_reducible apply wpList_lds M.out.at0); rfl; rfl; rfl; (first | exact rtRoot | exact rtCk | exact rtTb); rfl; (try simp only [Nat.reduceAdd, List.drop_zero, cut_cp, cut_tb, cut_tb_c])))
        refine (AA.out _ M.out.ext.ok).mono ?_; rintro e w3 ⟨A3, c3, Γ3, rfl, hc3, ht3, hx⟩
        have M' := M.out.call hx
        (clear M; have M := bx M'; clear M')
        have H3 := bx ht3
        have C3 := bx hc3
        clear hx ht3 hc3
        go_wp2_with fail
        go_ret2
        exact rg_old R.out rfl C3.out H3.out M.out.ext
  · have hvf : (ve != 0) = true := by rw [bne_iff_ne]; exact hv
    have R := bx (R1.out hv)
    clear R1 R2 R3 R4 hv
    go_wp2_with fail
    go_ret2
    exact rg_old R.out LN.out HC.out HT.out M.out.ext
end Go.Proofs.Ytekikfdlnkcenaa
