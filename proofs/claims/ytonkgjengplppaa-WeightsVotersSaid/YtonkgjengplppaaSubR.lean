/- Subtree: plain law; the reference's Subtree, walked. -/
import Derived.Test.YtonkgjengplppaaSubW
import Derived.Test.YtonkgjengplppaaRefApM
namespace Go.Proofs.Ytonkgjengplppaa
open Go.RowKit
theorem dsum_eq {us : List Int} (h : Lk us) (f : Nat → Int) (i : Nat) : ∀ n, n ≤ us.length → ((descN us i n).map f).sum = own us (i + 1) f i n
  | 0, _ => rfl
  | n + 1, hn => by
    have ih := dsum_eq h f i n (by omega)
    have e := isAnc_eq h (a := i) (b := n) (by omega)
    unfold anc at e
    rw [own]
    by_cases ha : hat us (i + 1) n n = i
    · rw [decide_eq_true ha] at e
      rw [descN_yes e, if_pos ha, ← ih, List.map_append, List.sum_append_int]; simp
    · rw [decide_eq_false ha] at e
      rw [descN_no e, if_neg ha, ← ih]; omega
def nat0 (d : List Int) (j : Nat) : Int := d.getD j 0
/-- the weights of subtrees, as sums -/
def subL (us : List Int) (n : Nat) (d : List Int) : List Int := (List.range n).map fun i => tot us (nat0 d) i n % 18446744073709551616
theorem subL_len (us : List Int) (n : Nat) (d : List Int) : (subL us n d).length = n := by simp [subL]
theorem subL_at {us : List Int} {n : Nat} {d : List Int} {i : Nat} (hi : i < n) : (subL us n d).getD i 0 = tot us (nat0 d) i n % 18446744073709551616 := by
  rw [getD_at (by rw [subL_len]; exact hi)]; simp [subL]
theorem subL_64 (us : List Int) (n : Nat) (d : List Int) : U64 (subL us n d) := fun x hx => by
  obtain ⟨i, _, rfl⟩ := List.mem_map.1 hx
  omega
structure SInv (us : List Int) (n : Nat) (d : List Int) (k : Nat) (o : List Int) : Prop where
  len : o.length = n
  lo : ∀ u, u < k → o.getD u 0 = own us k (nat0 d) u n % 18446744073709551616
  hi : ∀ i, k ≤ i → i < n → o.getD i 0 = tot us (nat0 d) i n % 18446744073709551616
theorem getS_eq {l : List Int} {i : Nat} {v : Int} (h : i < l.length) : (l.set i v).getD i 0 = v := by simp [List.getD, List.getElem?_set, h]
theorem getS_far {l : List Int} {i j : Nat} {v : Int} (h : i ≠ j) : (l.set i v).getD j 0 = l.getD j 0 := by simp [List.getD, List.getElem?_set, h]
theorem sub_law {us : List Int} (h : Lk us) {n : Nat} (hn : n = us.length) (d : List Int) : ∀ (k : Nat) (o : List Int), 0 < k → k ≤ n → SInv us n d k o → SInv us n d 1 (subR us k o)
  | 0, o, h0, _, _ => absurd h0 (Nat.lt_irrefl 0)
  | k + 1, o, _, hk, hi => by
    rcases Nat.eq_zero_or_pos k with h0 | h0
    · subst h0; rw [subR_one]; exact hi
    · obtain ⟨u, hu, e⟩ := h.up (i := k) (by omega) h0
      rw [subR_next h0 e]
      refine sub_law h hn d k _ h0 (by omega) ⟨by rw [List.length_set, hi.len], fun v hv => ?_, fun i h1 h2 => ?_⟩
      · have st := own_step h (i := k) (u := v) (nat0 d) h0 (by omega) hv n (by omega)
        by_cases hvu : v = u
        · subst hvu
          rw [if_pos e] at st
          rw [getS_eq (by rw [hi.len]; omega), hi.lo v (by omega), hi.lo k (by omega), st, ← Int.add_emod]
        · rw [if_neg (by rw [e]; omega), Int.add_zero] at st
          rw [getS_far (by omega), hi.lo v (by omega), st]
      · rw [getS_far (by omega)]
        rcases Nat.lt_or_ge k i with h3 | h3
        · exact hi.hi i (by omega) h2
        · obtain rfl : i = k := by omega
          exact hi.lo i (by omega)
theorem subR_eq {us : List Int} (h : Lk us) {n : Nat} (hn : n = us.length) (hn0 : 0 < n) {d : List Int} (hd : U64 d) (hl : d.length = n) : subR us n d = subL us n d := by
  have hs : SInv us n d n d := ⟨hl, fun u hu => by
    have := hd.at (k := u) (by omega)
    rw [own_all _ _ _ _ (Nat.le_refl _), if_pos hu]
    show d.getD u 0 = d.getD u 0 % _
    omega, fun i h1 h2 => by omega⟩
  have hr := sub_law h hn d n d hn0 (Nat.le_refl _) hs
  apply List.ext_getElem (by rw [hr.len, subL_len])
  intro i h1 h2
  have hin : i < n := by rw [hr.len] at h1; exact h1
  rw [← getD_at h1, ← getD_at h2, subL_at hin]
  rcases Nat.eq_zero_or_pos i with h0 | h0
  · subst h0; exact hr.lo 0 (by omega)
  · exact hr.hi i h0 hin
theorem map_next {f : Nat → Int} {L : List Nat} {k : Nat} (hk : k < L.length) : ((L.take (k + 1)).map f).sum = ((L.take k).map f).sum + f L[k] := by
  rw [List.take_succ_eq_append_getElem hk, List.map_append, List.sum_append_int]; simp
set_option maxRecDepth 20000 in
set_option maxHeartbeats 1000000 in
theorem refSubtree_any (A0 A1 : Option Addr) (n c0 c1 : Nat) (ns : List Nd) (ws : List Int) (hw : U64 ws) (hk : Lk (Go.Proofs.Ytonkgjengplppaa.ups ns)) (hn : n ≤ 4096) (w : World) (h0 : NRow w A0 n ns) (h1 : URow w A1 n ws) :
    Calls Try.prog 20 #[.agg #[.slice A0 n c0], .slice A1 n c1] w (UP n (subL (Go.Proofs.Ytonkgjengplppaa.ups ns) n ws) w) := by
  obtain ⟨i0, hi0, hz0, hz1, hz2⟩ := info_parts info_u64
  have HI := bx (show Try.prog.info? 35 = some i0 from hi0)
  have LW := bx h1.1
  have HW := bx hw
  have R1 := bx h1
  have DE := bx (fun (i : Nat) w1 (hb : Below w.heap.size w w1) => desc_any hk A0 n c0 hn i w1 (h0.below hb))
  have DS := bx (fun i (hi : i < n) => (subL_at (us := Go.Proofs.Ytonkgjengplppaa.ups ns) (d := ws) hi).trans (congrArg (· % 18446744073709551616) (dsum_eq hk (nat0 ws) i n (by rw [ups_len, h0.1]; exact Nat.le_refl _)).symm))
  have SL := bx (subL_len (Go.Proofs.Ytonkgjengplppaa.ups ns) n ws)
  have S64 := bx (subL_64 (Go.Proofs.Ytonkgjengplppaa.ups ns) n ws)
  have X0 := bx (Has.new w [.slice A0 n c0] 25)
  have B0 := bx (ext_alloc w (.cells #[.slice A0 n c0] 25))
  clear h0 h1 hw hk hi0
  generalize Go.Proofs.Ytonkgjengplppaa.ups ns = us at *
  generalize subL us n ws = R at *
  go_enter Try.func20, Try.ntmps20
  go_wp2_with fail
  go_loopw [5, 6] (fun s i wr => ∃ k : Nat, k ≤ n ∧ i = .int .i64 k ∧ wr.ownsRow (w.heap.size + 1) 35 1 s k (ints .u64 (R.take k)) ∧ Has wr w.heap.size [.slice A0 n c0] ∧ Below w.heap.size w wr) (fun _ i _ => n - (intOf i).toNat)
  case atStart => exact ⟨0, Nat.zero_le _, rfl, World.ownsRow_nil _ _ _ _, X0.out, B0.out⟩
  case round =>
    obtain ⟨i, hi, rfl, hown, hx, hbel⟩ := hrel
    have OW := bx hown
    have XR := bx hx
    have BR := bx hbel
    clear hown hx hbel X0 B0
    obtain ⟨A8, c8, hv⟩ := own_slice OW.out
    subst hv
    have hcb : wr.cell? ⟨w.heap.size, 0, none⟩ = some (.slice A0 n c0) := XR.out.cell 0
    by_cases hin : i < n
    · have hini : (i : Int) < (n : Int) := by omega
      have HIN := bx hin
      have HLD := bx (fun j (hj : j ∈ descN us i n) => descN_lt j hj)
      have HLL := descN_len us i n
      have DSI := bx (DS.out i hin)
      go_wp2_with ((with_reducible refine wpList_loadG 25 _ rfl _ [.slice A0 n c0] ?_ ?_ XR.out Try.underlying25 rfl ?_ ?_); rfl; rfl; exact cells_tree _)
      refine (DE.out i _ BR.out).mono ?_; rintro e w1 ⟨A12, c12, rfl, ho, hb⟩
      have X1 := bx (XR.out.below hb XR.out.lt)
      have O1 := bx (own_ext OW.out hb)
      have B1 := bx (BR.out.trans (hb.mono BR.out.size))
      have D12 := bx ho
      clear hb ho XR OW BR hcb
      generalize descN us i n = L at *
      go_wp2_with fail
      go_loop [7, 9] (fun s j => ∃ k : Nat, k ≤ L.length ∧ j = .int .i64 k ∧ s = .int .u64 (((L.take k).map (nat0 ws)).sum % 18446744073709551616)) (fun _ j => L.length - (intOf j).toNat)
      case atStart => exact ⟨0, Nat.zero_le _, rfl, rfl⟩
      case round =>
        obtain ⟨k, hk, rfl, rfl⟩ := hrel
        by_cases hkl : k < L.length
        · obtain ⟨g12, c12', p12, hv, _, hh⟩ := own_block D12.out (by omega)
          injection hv with hv1 hv2 hv3
          subst hv1; subst hv3
          have hjn := HLD.out L[k] (List.getElem_mem hkl)
          have hnk : (nats L)[k]? = some ((L[k] : Nat) : Int) := by simp [nats, List.getElem?_map, List.getElem?_eq_getElem hkl]
          have hcx : w1.cell? ⟨g12, k, none⟩ = some (.int .i64 ((L[k] : Nat) : Int)) := by
            rw [hh.cell, List.getElem?_append_left (by rw [ints_len, nats_len]; exact hkl), ints, List.getElem?_map, hnk]; rfl
          obtain ⟨g2, p2, rfl, hg2⟩ := (R1.out.below B1.out).2 (by omega)
          have hcu : w1.cell? ⟨g2, L[k], none⟩ = some (.int .u64 (nat0 ws L[k])) := URow.cell hg2 (by rw [LW.out]; exact hjn)
          have hx := HW.out.at (k := L[k]) (by rw [LW.out]; exact hjn)
          have MN := bx (map_next (f := nat0 ws) hkl)
          have hj0 : (0 : Int) ≤ ((L[k] : Nat) : Int) := by omega
          have hjni : ((L[k] : Nat) : Int) < (n : Int) := by omega
          have hki : (k : Int) < (L.length : Int) := by omega
          have hk0 : (0 : Int) ≤ (k : Int) := by omega
          have HKL := bx hkl
          change 0 ≤ nat0 ws L[k] ∧ nat0 ws L[k] < _ at hx
          clear hg2 hh hnk hv2
          generalize nat0 ws L[k] = x at *
          generalize L[k] = j at *
          generalize hS : ((L.take k).map (nat0 ws)).sum = S at *
          have SB : 0 ≤ S % 18446744073709551616 ∧ S % 18446744073709551616 < 18446744073709551616 := by omega
          have SN : Bx ((S % 18446744073709551616 + x) % 18446744073709551616 = (S + x) % 18446744073709551616) := ⟨Int.emod_add_emod _ _ _⟩
          generalize S % 18446744073709551616 = Sm at *
          go_wp2_with fail
          go_round
          case rel => exact ⟨k + 1, HKL.out, by go_num, by rw [MN.out, ← SN.out]; rfl⟩
          case measure => simp [intOf]; omega
        · have hkk : k = L.length := by omega
          subst hkk
          rw [List.take_of_length_le (Nat.le_refl _), ← DSI.out]
          have HRT : Bx (ints .u64 (R.take (i + 1)) = ints .u64 (R.take i) ++ [.int .u64 (R.getD i 0)]) := ⟨by
            rw [List.take_succ_eq_append_getElem (by rw [SL.out]; exact HIN.out), ints_push, ← getD_at]⟩
          generalize R.getD i 0 = v at *
          have HM1 : Bx (i + 1 ≤ maxLen) := ⟨by unfold maxLen; have := HIN.out; omega⟩
          have HM2 : Bx ((i + 1) * 8 ≤ 140737488355328) := ⟨by have := HIN.out; omega⟩
          have SZ : Bx (w.heap.size + 1 ≤ w1.heap.size) := ⟨X1.out.lt⟩
          clear DSI
          go_wp2_with (at_builtin; (with_reducible refine wpList_push rfl (.tmp 35) (.tmp 37) 29 rfl (w.heap.size + 1) 35 i0 _ 1 8 Try.underlying29 HI.out hz0 hz1 hz2 ?_ (by omega) _ _ _ ?_ O1.out [.int .u64 v] ?_ ?_ (one_u64 v) HM1.out HM2.out SZ.out ?_); rfl; rfl; rfl; rfl; intro v' w' hown' hg' hbel' _; have HOWN3 := bx hown'; have HB3 := bx (B1.out.trans (hbel'.mono (Nat.le_succ _))); have X3 := bx (X1.out.below hbel' (Nat.lt_succ_self _)); clear hown' hg' hbel')
          go_roundw
          case rel => exact ⟨i + 1, HIN.out, by go_num, by rw [HRT.out]; exact HOWN3.out, X3.out, HB3.out⟩
          case measure => simp [intOf]; omega
    · have hkk : i = n := by omega
      subst hkk
      have RT : Bx (R.take i = R) := ⟨List.take_of_length_le (by rw [SL.out]; exact Nat.le_refl _)⟩
      go_wp2_with fail
      go_ret
      exact ⟨A8, c8, rfl, S64.out, URow.own SL.out (by have := OW.out; rw [RT.out] at this; exact this), BR.out⟩
end Go.Proofs.Ytonkgjengplppaa
