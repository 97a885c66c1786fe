/- IsAncestor and Descendants of the reference, walked. -/
import Derived.Test.YtonkgjengplppaaAncP
namespace Go.Proofs.Ytonkgjengplppaa
open Go.RowKit
/-- the reference's test for an ancestor -/
def isAnc (us : List Int) (a : Int) (b : Nat) : Bool := decide (a ∈ nats (pathN us b))
theorem isAnc_eq {us : List Int} (h : Lk us) {a b : Nat} (hb : b < us.length) : isAnc us a b = anc us a b := by
  unfold isAnc anc
  rw [Bool.eq_iff_iff, decide_eq_true_iff, decide_eq_true_iff, nats_mem]
  exact path_mem h a b b hb (Nat.le_refl _)
set_option maxRecDepth 20000 in
set_option maxHeartbeats 800000 in
theorem isAnc_any {ns : List Nd} (hk : Lk (Go.Proofs.Ytonkgjengplppaa.ups ns)) (A : Option Addr) (n c : Nat) (hn : n ≤ 4096) (a : Int) (b : Nat) (hb : b < n) (w : World) (h : NRow w A n ns) :
    Calls Try.prog 43 #[.agg #[.slice A n c], .int .i64 a, .int .i64 b] w fun e w' => e = .returned (.bool (isAnc (Go.Proofs.Ytonkgjengplppaa.ups ns) a b)) ∧ Below w.heap.size w w' := by
  have X0 := bx (Has.new w [.slice A n c] 25)
  have B0 := bx (ext_alloc w (.cells #[.slice A n c] 25))
  have PA := bx (path_any hk A n c hn b hb _ (h.below B0.out))
  have PL : Bx ((pathN (Go.Proofs.Ytonkgjengplppaa.ups ns) b).length ≤ 9223372036854775807) := ⟨by have := pathN_len hk b (by rw [ups_len, h.1]; exact hb); omega⟩
  clear h hk
  unfold isAnc
  generalize pathN (Go.Proofs.Ytonkgjengplppaa.ups ns) b = L at *
  go_enter Try.func43, Try.ntmps43
  go_wp2_with ((with_reducible refine wpList_loadG 25 _ rfl _ [.slice A n c] ?_ ?_ X0.out Try.underlying25 rfl ?_ ?_); rfl; rfl; exact cells_tree _)
  refine PA.out.mono ?_; rintro e w1 ⟨A1, c1, rfl, ho, hb1⟩
  have HB := bx (has_any _ A1 L.length c1 (nats L) a w1 (own_row ho) PL.out)
  have B1 := bx (B0.out.trans (hb1.mono B0.out.size))
  clear ho hb1
  go_wp2_with fail
  refine HB.out.mono ?_; rintro e w2 ⟨rfl, rfl⟩
  go_wp2_with fail
  go_ret
  exact ⟨rfl, B1.out⟩
/-- the descendants of a node, below k -/
def descN (us : List Int) (i k : Nat) : List Nat := (List.range k).filter fun j => isAnc us i j
theorem descN_yes {us : List Int} {i k : Nat} (h : isAnc us i k = true) : descN us i (k + 1) = descN us i k ++ [k] := by
  simp [descN, List.range_succ, List.filter_append, h]
theorem descN_no {us : List Int} {i k : Nat} (h : isAnc us i k = false) : descN us i (k + 1) = descN us i k := by
  simp [descN, List.range_succ, List.filter_append, h]
theorem descN_len (us : List Int) (i k : Nat) : (descN us i k).length ≤ k := by
  have := List.length_filter_le (fun j => isAnc us i j) (List.range k)
  simpa [descN] using this
set_option maxRecDepth 20000 in
set_option maxHeartbeats 1000000 in
theorem desc_any {ns : List Nd} (hk : Lk (Go.Proofs.Ytonkgjengplppaa.ups ns)) (A : Option Addr) (n c : Nat) (hn : n ≤ 4096) (i : Nat) (w : World) (h : NRow w A n ns) :
    Calls Try.prog 48 #[.agg #[.slice A n c], .int .i64 i] w (NatsP (descN (Go.Proofs.Ytonkgjengplppaa.ups ns) i n) w) := by
  obtain ⟨i0, hi0, hz0, hz1, hz2⟩ := info_parts info_int
  have HI := bx (show Try.prog.info? 3 = some i0 from hi0)
  have X0 := bx (Has.new w [.slice A n c] 25)
  have B0 := bx (ext_alloc w (.cells #[.slice A n c] 25))
  have HA := bx (fun b (hb : b < n) w1 (hw : Below w.heap.size w w1) => isAnc_any hk A n c hn i b hb w1 (h.below hw))
  clear hi0 h hk
  generalize Go.Proofs.Ytonkgjengplppaa.ups ns = us at *
  go_enter Try.func48, Try.ntmps48
  go_wp2_with fail
  go_loopw [5, 6] (fun s j wr => ∃ k : Nat, k ≤ n ∧ j = .int .i64 k ∧ wr.ownsRow (w.heap.size + 1) 3 1 s (descN us i k).length (ints .i64 (nats (descN us i k))) ∧ Has wr w.heap.size [.slice A n c] ∧ Below w.heap.size w wr) (fun _ j _ => n - (intOf j).toNat)
  case atStart => exact ⟨0, Nat.zero_le _, rfl, World.ownsRow_nil _ _ _ _, X0.out, B0.out⟩
  case round =>
    obtain ⟨k, hk, rfl, hown, hx, hbel⟩ := hrel
    have HOWN := bx hown
    have XR := bx hx
    have BR := bx hbel
    have HDL := descN_len us i k
    clear hown hx hbel X0 B0
    obtain ⟨A5, c5, hv⟩ := own_slice HOWN.out
    subst hv
    have hcb : wr.cell? ⟨w.heap.size, 0, none⟩ = some (.slice A n c) := XR.out.cell 0
    by_cases hkn : k < n
    · have hki : (k : Int) < (n : Int) := by omega
      have HM1 : Bx ((descN us i k).length + 1 ≤ maxLen) := ⟨by unfold maxLen; omega⟩
      have HM2 : Bx (((descN us i k).length + 1) * 8 ≤ 140737488355328) := ⟨by omega⟩
      have ONE := bx (one_i64 k)
      have HKN := bx hkn
      have DY := bx (fun h => descN_yes (us := us) (i := i) (k := k) h)
      have DN := bx (fun h => descN_no (us := us) (i := i) (k := k) h)
      clear HDL
      go_wp2_with ((with_reducible refine wpList_loadG 25 _ rfl _ [.slice A n c] ?_ ?_ XR.out Try.underlying25 rfl ?_ ?_); rfl; rfl; exact cells_tree _)
      refine (HA.out k HKN.out _ BR.out).mono ?_; rintro e w1 ⟨rfl, hb⟩
      have X5 := bx (XR.out.below hb XR.out.lt)
      have O5 := bx (own_ext HOWN.out hb)
      have B5 := bx (BR.out.trans (hb.mono BR.out.size))
      have SZ5 : Bx (w.heap.size + 1 ≤ w1.heap.size) := ⟨X5.out.lt⟩
      clear hb XR HOWN BR hcb
      cases hanc : isAnc us i k with
      | true =>
        have DY' := bx (DY.out hanc)
        clear DY DN hanc
        generalize descN us i k = L at *
        go_wp2_with (at_builtin; (with_reducible refine wpList_push rfl (.tmp 18) (.tmp 20) 22 rfl (w.heap.size + 1) 3 i0 _ 1 8 Try.underlying22 HI.out hz0 hz1 hz2 ?_ (by omega) _ _ _ ?_ O5.out [.int .i64 k] ?_ ?_ ONE.out HM1.out HM2.out SZ5.out ?_); rfl; rfl; rfl; rfl; intro v' w' hown' hg' hbel' _; have HOWN3 := bx hown'; have HB3 := bx (B5.out.trans (hbel'.mono (Nat.le_succ _))); have X3 := bx (X5.out.below hbel' (Nat.lt_succ_self _)); clear hown' hg' hbel')
        go_roundw
        case rel => exact ⟨k + 1, HKN.out, by go_num, by rw [DY'.out, nats_push, ints_push, List.length_append]; exact HOWN3.out, X3.out, HB3.out⟩
        case measure => simp [intOf]; omega
      | false =>
        have DN' := bx (DN.out hanc)
        clear DY DN hanc
        generalize descN us i k = L at *
        go_wp2_with fail
        go_roundw
        case rel => exact ⟨k + 1, HKN.out, by go_num, by rw [DN'.out]; exact O5.out, X5.out, B5.out⟩
        case measure => simp [intOf]; omega
    · have hkk : k = n := by omega
      subst hkk
      go_wp2_with fail
      go_ret
      exact ⟨_, _, rfl, own_mono HOWN.out (Nat.le_succ _), BR.out⟩
end Go.Proofs.Ytonkgjengplppaa
