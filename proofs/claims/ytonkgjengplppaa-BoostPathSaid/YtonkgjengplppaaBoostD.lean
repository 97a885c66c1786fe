/- boost.Direct and its reference, walked. -/
import Derived.Test.YtonkgjengplppaaBFind
import Derived.Test.YtonkgjengplppaaSubW
import Derived.Test.YtonkgjengplppaaRefApM
namespace Go.Proofs.Ytonkgjengplppaa
open Go.RowKit
theorem fk_exists (ns : List Nd) (r : List Int) : ∃ k, FK ns r k := by
  have h : ∀ m, m ≤ ns.length → (∀ j (hj : j < ns.length), j < m → ns[j].b.root ≠ r) ∨ ∃ (i : Nat) (hi : i < ns.length), ns[i].b.root = r ∧ ∀ j (hj : j < i), (ns[j]'(Nat.lt_trans hj hi)).b.root ≠ r := by
    intro m
    induction m with
    | zero => exact fun _ => .inl fun j _ hj => absurd hj (Nat.not_lt_zero _)
    | succ m ih =>
      intro hm
      rcases ih (by omega) with h | h
      · by_cases he : (ns[m]'(by omega)).b.root = r
        · exact .inr ⟨m, by omega, he, fun j hj => h j (by omega) hj⟩
        · refine .inl fun j hj hjm => ?_
          rcases Nat.lt_or_eq_of_le (Nat.le_of_lt_succ hjm) with h1 | h1
          · exact h j hj h1
          · subst h1; exact he
      · exact .inr h
  rcases h ns.length (Nat.le_refl _) with h | ⟨i, hi, h1, h2⟩
  · refine ⟨-1, .inl ⟨rfl, fun x hx => ?_⟩⟩
    obtain ⟨j, hj, rfl⟩ := List.getElem_of_mem hx
    exact h j hj hj
  · exact ⟨i, .inr ⟨i, hi, rfl, h1, h2⟩⟩
/-- the status of a node -/
def stAt (ns : List Nd) (i : Nat) : Int := (ns.map (·.st)).getD i 0
theorem stAt_eq {ns : List Nd} {i : Nat} (h : i < ns.length) : stAt ns i = ns[i].st := by
  unfold stAt; rw [getD_at (by simpa using h)]; simp
/-- boosted weights -/
def boostV (ns : List Nd) (ds : List Int) (r : List Int) (a : Int) (k : Int) : List Int :=
  if r = zroot then ds else if 0 ≤ k ∧ stAt ns k.toNat ≠ 2 then ds.set k.toNat ((ds.getD k.toNat 0 + a) % 18446744073709551616) else ds
theorem boostV_zero {ns : List Nd} {ds : List Int} {a k : Int} : boostV ns ds zroot a k = ds := if_pos rfl
theorem boostV_no {ns : List Nd} {ds : List Int} {r : List Int} {a : Int} : boostV ns ds r a (-1) = ds := by
  unfold boostV; split
  · rfl
  · rw [if_neg (by omega)]
theorem boostV_inv {ns : List Nd} {ds : List Int} {r : List Int} {a : Int} {i : Nat} (h : stAt ns i = 2) : boostV ns ds r a i = ds := by
  unfold boostV; split
  · rfl
  · rw [if_neg (by rw [Int.toNat_natCast, h]; omega)]
theorem boostV_yes {ns : List Nd} {ds : List Int} {r : List Int} {a : Int} {i : Nat} (hr : r ≠ zroot) (h : stAt ns i ≠ 2) : boostV ns ds r a i = ds.set i ((ds.getD i 0 + a) % 18446744073709551616) := by
  unfold boostV; rw [if_neg hr, if_pos ⟨by omega, by rwa [Int.toNat_natCast]⟩, Int.toNat_natCast]
def BoP (ns : List Nd) (ds : List Int) (r : List Int) (a : Int) (n : Nat) (w : World) (e : Ending) (w' : World) : Prop := ∃ k, FK ns r k ∧ UP n (boostV ns ds r a k) w e w'
set_option maxRecDepth 20000 in
set_option maxHeartbeats 1000000 in
theorem boostDirect_any (A0 A1 : Option Addr) (n c0 c1 : Nat) (ns : List Nd) (ws : List Int) (hw : U64 ws) (hn : n ≤ 4096) (hn0 : 0 < n) (r : List Int) (hr : r.length = 32) (a : Int) (ha : 0 ≤ a) (w : World) (h0 : NRow w A0 n ns) (h1 : URow w A1 n ws) :
    Calls Try.prog 40 #[.agg #[.slice A0 n c0], .slice A1 n c1, .agg (ints .u8 r).toArray, .int .u64 a] w (BoP ns ws r a n w) := by
  obtain ⟨g1, p1, rfl, hg1⟩ := h1.2 hn0
  have LW := bx h1.1
  have LN := bx h0.1
  have HW := bx hw
  have HR := bx hr
  have N0 := bx h0
  have HN0 := bx hn0
  have EA := bx (((Below.refl w.heap.size w).alloc (Nat.le_refl _) (.cells #[.slice A0 n c0] 25)).alloc (by simp) (.cells (ints .u8 r).toArray 41))
  have XB := bx ((Has.new w [.slice A0 n c0] 25).alloc (.cells (ints .u8 r).toArray 41))
  have XR : Bx (Has ((w.alloc (.cells #[.slice A0 n c0] 25)).alloc (.cells (ints .u8 r).toArray 41)) (w.heap.size + 1) (ints .u8 r)) := ⟨by have := Has.new (w.alloc (.cells #[.slice A0 n c0] 25)) (ints .u8 r) 41; simpa using this⟩
  have G1 := bx (hg1.below EA.out hg1.lt)
  have CL := bx (fun W c (h : Has W g1 (ints .u64 ws ++ p1)) => cloneU g1 n c (ints .u64 ws) p1 W h (by rw [ints_len, h1.1, Nat.mul_one]) (one_ints _ _) hn hn0)
  have FI := bx (fun W (h : NRow W A0 n ns) => btFind_any A0 n c0 ns r hr W h hn)
  have IZ := bx (isZero_any hr)
  clear h1 hw h0 hr hg1
  go_enter Try.func40, Try.ntmps40
  go_wp2_with fail
  refine (CL.out _ _ G1.out).mono ?_; rintro e w2 ⟨Au, cu, rfl, ho, hb⟩
  obtain ⟨go, co, po, hv, hgo, hs⟩ := own_block ho hn0
  injection hv with hv1 hv2 hv3
  subst hv1; subst hv3
  have O2 := bx hs
  have HGO : Bx (w.heap.size + 1 < go) := ⟨Nat.lt_of_lt_of_le XR.out.lt hgo⟩
  have E2 := bx (EA.out.trans (hb.mono EA.out.size))
  have XB2 := bx (XB.out.below hb XB.out.lt)
  have XR2 := bx (XR.out.below hb XR.out.lt)
  clear hs hb ho hgo XB EA G1 XR CL
  go_wp2_with ((with_reducible refine wpList_loadG 41 _ rfl _ (ints .u8 r) ?_ ?_ XR2.out Try.underlying41 rfl ?_ ?_); rfl; rfl; exact cells_root HR.out)
  refine (IZ.out _).mono ?_; rintro e w3 ⟨rfl, hb⟩
  have O3 := bx (O2.out.below hb O2.out.lt)
  have E3 := bx (E2.out.trans (hb.mono E2.out.size))
  have XB3 := bx (XB2.out.below hb XB2.out.lt)
  have XR3 := bx (XR2.out.below hb XR2.out.lt)
  clear hb O2 E2 XB2 XR2
  by_cases hz : r = zroot
  · have HZ := bx hz
    rw [decide_eq_true hz]
    clear hz
    obtain ⟨k, hk⟩ := fk_exists ns r
    have KK := bx hk
    clear hk
    go_wp2_with fail
    go_ret
    exact ⟨k, KK.out, _, _, rfl, by rw [HZ.out, boostV_zero]; exact HW.out, by rw [HZ.out, boostV_zero]; exact ⟨LW.out, fun _ => ⟨go, po, rfl, O3.out⟩⟩, E3.out⟩
  · have HZ := bx hz
    rw [decide_eq_false hz]
    clear hz
    go_wp2_with (first | ((with_reducible refine wpList_loadG 25 _ rfl _ [.slice A0 n c0] ?_ ?_ XB3.out Try.underlying25 rfl ?_ ?_); rfl; rfl; exact cells_tree _) | ((with_reducible refine wpList_loadG 41 _ rfl _ (ints .u8 r) ?_ ?_ XR3.out Try.underlying41 rfl ?_ ?_); rfl; rfl; exact cells_root HR.out))
    refine (FI.out _ (N0.out.below E3.out)).mono ?_; rintro e w4 ⟨⟨k, rfl, hk⟩, hb⟩
    have FKK : Bx (FK ns r k) := ⟨hk⟩
    have O4 := bx (O3.out.below hb O3.out.lt)
    have E4 := bx (E3.out.trans (hb.mono E3.out.size))
    have XB4 := bx (XB3.out.below hb XB3.out.lt)
    have hcb : w4.cell? ⟨w.heap.size, 0, none⟩ = some (.slice A0 n c0) := XB4.out.cell 0
    clear hb O3 E3 XB3 XR3 FI IZ
    rcases hk with ⟨rfl, _⟩ | ⟨i, hi, rfl, _, _⟩
    · go_wp2_with fail
      go_ret
      exact ⟨-1, FKK.out, _, _, rfl, by rw [boostV_no]; exact HW.out, by rw [boostV_no]; exact ⟨LW.out, fun _ => ⟨go, po, rfl, O4.out⟩⟩, E4.out⟩
    · have hin : i < n := by rw [← LN.out]; exact hi
      have hini : (i : Int) < (n : Int) := by omega
      have hi0 : (0 : Int) ≤ (i : Int) := by omega
      have hi0' : (i : Int) ≥ 0 := hi0
      obtain ⟨g0, p0, rfl, hg0⟩ := (N0.out.below E4.out).2.2 HN0.out
      have hcs := hg0.nodeCell N0.out.2.1 i hi 239 _ (nc_st (N0.out.2.1 _ (List.getElem_mem hi)))
      rw [← stAt_eq hi] at hcs
      have hio : Bx (i < ws.length) := ⟨by rw [LW.out]; exact hin⟩
      clear hg0
      by_cases hst : stAt ns i = 2
      · have HV := bx (boostV_inv (ds := ws) (r := r) (a := a) hst)
        rw [hst] at hcs
        go_wp2_with fail
        go_ret
        exact ⟨i, FKK.out, _, _, rfl, by rw [HV.out]; exact HW.out, by rw [HV.out]; exact ⟨LW.out, fun _ => ⟨go, po, rfl, O4.out⟩⟩, E4.out⟩
      · have HV := bx (boostV_yes (ds := ws) (a := a) HZ.out hst)
        have hne : (stAt ns i != 2) = true := by rw [bne_iff_ne]; exact hst
        have hc5 := URow.cell O4.out hio.out
        have hf5 : w4.frozen? ⟨go, i, none⟩ = false := O4.out.frozen i
        have SETU := bx (fun v => set_u ws po i v hio.out)
        have SET64 := bx (fun v hv => HW.out.set (v := v) hv i)
        have HX := HW.out.at hio.out
        generalize stAt ns i = st at *
        generalize ws.getD i 0 = x at *
        have hs0 : 0 ≤ (x + a) % 18446744073709551616 ∧ (x + a) % 18446744073709551616 < 18446744073709551616 := by omega
        have SS := bx hs0
        have S9 := bx (O4.out.set i (.int .u64 ((x + a) % 18446744073709551616)))
        rw [SETU.out] at S9
        have B9 := bx (E4.out.grown (grown_setCell w4 go i (.int .u64 ((x + a) % 18446744073709551616))) E4.out.size (fun k hk => by cases hk; have := HGO.out; omega))
        clear hs0 hst
        go_wp2_with fail
        go_ret
        exact ⟨i, FKK.out, _, _, rfl, by rw [HV.out]; exact SET64.out _ SS.out, by rw [HV.out]; exact ⟨by rw [List.length_set, LW.out], fun _ => ⟨go, po, rfl, S9.out⟩⟩, B9.out⟩
theorem root_neq {r : List Int} (hr : r.length = 32) (w : World) : (binOp .neq 41 (.agg (ints .u8 r).toArray) (.agg (ints .u8 zroot).toArray)).run Try.prog w = .ok (.bool (!decide (r = zroot))) w := by
  rw [run_neq_struct, root_same hr (b := zroot) (by rfl)]; rfl
set_option maxRecDepth 20000 in
set_option maxHeartbeats 1000000 in
theorem boosted_any (A0 A1 : Option Addr) (n c0 c1 : Nat) (ns : List Nd) (ws : List Int) (hw : U64 ws) (hn : n ≤ 4096) (hn0 : 0 < n) (r : List Int) (hr : r.length = 32) (a : Int) (ha : 0 ≤ a) (w : World) (h0 : NRow w A0 n ns) (h1 : URow w A1 n ws) :
    Calls Try.prog 41 #[.agg #[.slice A0 n c0], .slice A1 n c1, .agg (ints .u8 r).toArray, .int .u64 a] w (BoP ns ws r a n w) := by
  obtain ⟨i0, hi0, hz0, hz1, hz2⟩ := info_parts info_u64
  have HI := bx (show Try.prog.info? 35 = some i0 from hi0)
  obtain ⟨g1, p1, rfl, hg1⟩ := h1.2 hn0
  have LW := bx h1.1
  have LN := bx h0.1
  have HW := bx hw
  have HR := bx hr
  have N0 := bx h0
  have HN0 := bx hn0
  have EA := bx (((Below.refl w.heap.size w).alloc (Nat.le_refl _) (.cells #[.slice A0 n c0] 25)).alloc (by simp) (.cells (ints .u8 r).toArray 41))
  have XB := bx ((Has.new w [.slice A0 n c0] 25).alloc (.cells (ints .u8 r).toArray 41))
  have XR : Bx (Has ((w.alloc (.cells #[.slice A0 n c0] 25)).alloc (.cells (ints .u8 r).toArray 41)) (w.heap.size + 1) (ints .u8 r)) := ⟨by have := Has.new (w.alloc (.cells #[.slice A0 n c0] 25)) (ints .u8 r) 41; simpa using this⟩
  have G1 := bx (hg1.below EA.out hg1.lt)
  have FI := bx (fun W (h : NRow W A0 n ns) => find_any A0 n c0 ns r hr W h hn)
  have hz := zroot_lit
  have hnq := root_neq hr
  have HL : Bx ((ints .u64 ws).length = n * 1) := ⟨by rw [ints_len, h1.1, Nat.mul_one]⟩
  have ONE := bx (one_ints .u64 ws)
  have HM1 : Bx (0 + n ≤ maxLen) := ⟨by unfold maxLen; omega⟩
  have HM2 : Bx ((0 + n) * 8 ≤ 140737488355328) := ⟨by omega⟩
  have NIL := bx (fun W : World => (apd (World.ownsRow_nil W (w.heap.size + 1 + 1) 35 1) : Apd W (w.heap.size + 1 + 1) 35 1 (.slice none 0 0) 0 []))
  have SZ : Bx (w.heap.size + 1 + 1 ≤ ((w.alloc (.cells #[.slice A0 n c0] 25)).alloc (.cells (ints .u8 r).toArray 41)).heap.size) := ⟨by simp⟩
  clear h1 hw h0 hr hg1 hi0
  have NEWS : Bx (∀ j u, (ints .u64 ws)[j]? = some u → ((w.alloc (.cells #[.slice A0 n c0] 25)).alloc (.cells (ints .u8 r).toArray 41)).cell? ((⟨g1, 0, none⟩ : Addr).add j) = some u) := ⟨fun j u hu => by
    rw [add_at, G1.out.cell, Nat.zero_add, List.getElem?_append_left (List.getElem?_eq_some_iff.1 hu).1]; exact hu⟩
  go_enter Try.func41, Try.ntmps41
  go_wp2_with (first | (at_builtin; (with_reducible refine wpList_pushAt rfl (.const (.slice none 0 0)) (.tmp 11) 29 rfl i0 _ 8 Try.underlying29 HI.out hz0 hz1 hz2 ?_ ?_ ?_ (NIL.out _) ⟨g1, 0, none⟩ n c1 (ints .u64 ws) ?_ HN0.out HL.out NEWS.out ONE.out HM1.out HM2.out SZ.out ?_); rfl; omega; rfl; rfl; intro v' w' hown' _ hbel' _; have HW1 := bx hown'; have HB1 := bx hbel'; have XB2 := bx (XB.out.below hbel' (by omega)); have XR2 := bx (XR.out.below hbel' (by omega)); have E2 := bx (EA.out.trans (hbel'.mono (by omega))); clear hown' hbel') | ((with_reducible refine wpList_loadG 25 _ rfl _ [.slice A0 n c0] ?_ ?_ XB2.out Try.underlying25 rfl ?_ ?_); rfl; rfl; exact cells_tree _) | ((with_reducible refine wpList_loadG 41 _ rfl _ (ints .u8 r) ?_ ?_ XR2.out Try.underlying41 rfl ?_ ?_); rfl; rfl; exact cells_root HR.out))
  rename_i v' w2
  refine (FI.out _ (N0.out.below E2.out)).mono ?_; rintro e w4 ⟨⟨k, rfl, hk⟩, hb⟩
  have FKK : Bx (FK ns r k) := ⟨hk⟩
  have HW2 := HW1.out
  rw [Nat.zero_add, List.nil_append] at HW2
  obtain ⟨go, co, po, hv, hgo, hs⟩ := own_block HW2 HN0.out
  subst hv
  have HGO := bx hgo
  have O4 := bx (hs.below hb hs.lt)
  have E4 := bx (E2.out.trans (hb.mono E2.out.size))
  have XB4 := bx (XB2.out.below hb XB2.out.lt)
  have XR4 := bx (XR2.out.below hb XR2.out.lt)
  have hcb : w4.cell? ⟨w.heap.size, 0, none⟩ = some (.slice A0 n c0) := XB4.out.cell 0
  clear hb hs hgo HW1 HW2 HB1 XB2 XR2 E2 XB XR EA NEWS NIL SZ FI
  rcases hk with ⟨rfl, _⟩ | ⟨i, hi, rfl, _, _⟩
  · go_wp2_with fail
    go_ret
    exact ⟨-1, FKK.out, _, _, rfl, by rw [boostV_no]; exact HW.out, by rw [boostV_no]; exact ⟨LW.out, fun _ => ⟨go, po, rfl, O4.out⟩⟩, E4.out⟩
  · have hin : i < n := by rw [← LN.out]; exact hi
    have hini : (i : Int) < (n : Int) := by omega
    have hi0 : (0 : Int) ≤ (i : Int) := by omega
    have hi0' : (i : Int) ≥ 0 := hi0
    obtain ⟨g0, p0, rfl, hg0⟩ := (N0.out.below E4.out).2.2 HN0.out
    have hcs := hg0.nodeCell N0.out.2.1 i hi 239 _ (nc_st (N0.out.2.1 _ (List.getElem_mem hi)))
    rw [← stAt_eq hi] at hcs
    have hio : Bx (i < ws.length) := ⟨by rw [LW.out]; exact hin⟩
    clear hg0
    by_cases hst : stAt ns i = 2
    · have HV := bx (boostV_inv (ds := ws) (r := r) (a := a) hst)
      rw [hst] at hcs
      go_wp2_with fail
      go_ret
      exact ⟨i, FKK.out, _, _, rfl, by rw [HV.out]; exact HW.out, by rw [HV.out]; exact ⟨LW.out, fun _ => ⟨go, po, rfl, O4.out⟩⟩, E4.out⟩
    · have hne : (stAt ns i != 2) = true := by rw [bne_iff_ne]; exact hst
      by_cases hrz : r = zroot
      · rw [decide_eq_true hrz] at hnq
        have HV : Bx (boostV ns ws r a i = ws) := ⟨by rw [hrz]; exact boostV_zero⟩
        clear hrz hst
        generalize stAt ns i = st at *
        go_wp2_with ((with_reducible refine wpList_loadG 41 _ rfl _ (ints .u8 r) ?_ ?_ XR4.out Try.underlying41 rfl ?_ ?_); rfl; rfl; exact cells_root HR.out)
        go_ret
        exact ⟨i, FKK.out, _, _, rfl, by rw [HV.out]; exact HW.out, by rw [HV.out]; exact ⟨LW.out, fun _ => ⟨go, po, rfl, O4.out⟩⟩, E4.out⟩
      · rw [decide_eq_false hrz] at hnq
        have HV := bx (boostV_yes (ds := ws) (a := a) hrz hst)
        have hc5 := URow.cell O4.out hio.out
        have hf5 : w4.frozen? ⟨go, i, none⟩ = false := O4.out.frozen i
        have SETU := bx (fun v => set_u ws po i v hio.out)
        have SET64 := bx (fun v hv => HW.out.set (v := v) hv i)
        have HX := HW.out.at hio.out
        clear hrz hst
        generalize stAt ns i = st at *
        generalize ws.getD i 0 = x at *
        have hs0 : 0 ≤ (x + a) % 18446744073709551616 ∧ (x + a) % 18446744073709551616 < 18446744073709551616 := by omega
        have SS := bx hs0
        have S9 := bx (O4.out.set i (.int .u64 ((x + a) % 18446744073709551616)))
        rw [SETU.out] at S9
        have B9 := bx (E4.out.grown (grown_setCell w4 go i (.int .u64 ((x + a) % 18446744073709551616))) E4.out.size (fun k hk => by cases hk; have := HGO.out; omega))
        clear hs0
        go_wp2_with ((with_reducible refine wpList_loadG 41 _ rfl _ (ints .u8 r) ?_ ?_ XR4.out Try.underlying41 rfl ?_ ?_); rfl; rfl; exact cells_root HR.out)
        go_ret
        exact ⟨i, FKK.out, _, _, rfl, by rw [HV.out]; exact SET64.out _ SS.out, by rw [HV.out]; exact ⟨by rw [List.length_set, LW.out], fun _ => ⟨go, po, rfl, S9.out⟩⟩, B9.out⟩
end Go.Proofs.Ytonkgjengplppaa
