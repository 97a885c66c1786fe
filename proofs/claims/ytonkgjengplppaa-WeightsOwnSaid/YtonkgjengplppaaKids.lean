/- Children of the reference, walked; a subtree weighs what its node and the subtrees of its children weigh. -/
import Derived.Test.YtonkgjengplppaaWExact
namespace Go.Proofs.Ytonkgjengplppaa
open Go.RowKit
/-- the children of a node, below k -/
def kidN (us : List Int) (i k : Nat) : List Nat := (List.range k).filter fun j => decide (us.getD j 0 = (i : Int))
theorem kidN_yes {us : List Int} {i k : Nat} (h : us.getD k 0 = (i : Int)) : kidN us i (k + 1) = kidN us i k ++ [k] := by
  simp [kidN, List.range_succ, List.filter_append, ← List.getD_eq_getElem?_getD, h]
theorem kidN_no {us : List Int} {i k : Nat} (h : us.getD k 0 ≠ (i : Int)) : kidN us i (k + 1) = kidN us i k := by
  have h' : ¬ us[k]?.getD 0 = (i : Int) := by rwa [← List.getD_eq_getElem?_getD]
  simp [kidN, List.range_succ, List.filter_append, h']
theorem kidN_len (us : List Int) (i k : Nat) : (kidN us i k).length ≤ k := by
  have := List.length_filter_le (fun j => decide (us.getD j 0 = (i : Int))) (List.range k)
  simpa [kidN] using this
theorem kidN_lt {us : List Int} {i k : Nat} : ∀ x ∈ kidN us i k, x < k := fun x hx => by
  have := (List.mem_filter.1 hx).1
  simpa using this
/-- sums over the children -/
def sumL (W : Nat → Int) : List Nat → Int
  | [] => 0
  | x :: l => W x + sumL W l
theorem sumL_push (W : Nat → Int) (l : List Nat) (x : Nat) : sumL W (l ++ [x]) = sumL W l + W x := by
  induction l with
  | nil => simp [sumL]
  | cons y l ih => simp only [List.cons_append, sumL, ih]; omega
theorem sumL_take {W : Nat → Int} {l : List Nat} {k : Nat} (hk : k < l.length) : sumL W (l.take (k + 1)) = sumL W (l.take k) + W (l.getD k 0) := by
  rw [List.take_succ_eq_append_getElem hk, sumL_push]
  simp [List.getD, List.getElem?_eq_getElem hk]
section
variable {us : List Int} {d : Nat → Int} {n u : Nat}
theorem kid_none (h : Lk us) (hu : u < us.length) : ∀ k, k ≤ u + 1 → kidN us u k = []
  | 0, _ => rfl
  | k + 1, hk => by
    rw [kidN_no, kid_none h hu k (by omega)]
    intro e
    rcases h k (by omega) with ⟨_, e2⟩ | ⟨v, hv, e2⟩
    · rw [e2] at e; omega
    · rw [e2] at e; have : v = u := by omega
      omega
theorem tot_kids_step (h : Lk us) (hn : n = us.length) (hu : u < n) : ∀ m i, i + m = n → u < i → own us i d u n + sumL (fun j => tot us d j n) (kidN us u i) = d u + sumL (fun j => tot us d j n) (kidN us u n)
  | 0, i, he, hi => by
    have : i = n := by omega
    subst this
    rw [own_all d u i i (Nat.le_refl _), if_pos hu]
  | m + 1, i, he, hi => by
    have ih := tot_kids_step h hn hu m (i + 1) (by omega) (by omega)
    have st := own_step h d (show 0 < i by omega) (by omega) hi n (by omega)
    rw [← ih, st]
    by_cases hk : us.getD i 0 = (u : Int)
    · rw [if_pos hk, kidN_yes hk, sumL_push]
      show _ + own us (i + 1) d i n + _ = _ + (_ + own us (i + 1) d i n)
      omega
    · rw [if_neg hk, kidN_no hk]; omega
/-- a subtree weighs what its node and the subtrees of the children weigh -/
theorem tot_kids (h : Lk us) (hn : n = us.length) (hu : u < n) : tot us d u n = d u + sumL (fun j => tot us d j n) (kidN us u n) := by
  have := tot_kids_step (d := d) h hn hu (n - (u + 1)) (u + 1) (by omega) (by omega)
  rw [kid_none h (by omega) (u + 1) (Nat.le_refl _)] at this
  simpa [sumL, tot] using this
/-- the sum of all -/
def sumA (d : Nat → Int) : Nat → Int
  | 0 => 0
  | n + 1 => sumA d n + d n
theorem tot_root (h : Lk us) : ∀ n, n ≤ us.length → tot us d 0 n = sumA d n
  | 0, _ => rfl
  | n + 1, hn => by
    have ih := tot_root h n (by omega)
    have hh := hat_lt h (show 0 < 1 by omega) n n (by omega) (Nat.le_refl _)
    unfold tot at ih ⊢
    rw [own, ih, sumA, if_pos (by have : hat us (0 + 1) n n < 1 := hh.1; omega)]
end
theorem sum_mod {a b M : Int} : (a % M + b % M) % M = (a + b) % M := (Int.add_emod a b M).symm
/-- subtrees, modulo -/
theorem subL_kids {us : List Int} (h : Lk us) {n u : Nat} (hn : n = us.length) (hu : u < n) (ds : List Int) :
    (subL us n ds).getD u 0 = (ds.getD u 0 + sumL (fun j => tot us (nat0 ds) j n) (kidN us u n)) % 18446744073709551616 := by
  rw [subL_at hu, tot_kids h hn hu]; rfl
set_option maxRecDepth 20000 in
set_option maxHeartbeats 1000000 in
theorem children_any {ns : List Nd} (A : Option Addr) (n c : Nat) (hn : n ≤ 4096) (i : Nat) (hi : i < n) (w : World) (h : NRow w A n ns) :
    Calls Try.prog 24 #[.agg #[.slice A n c], .int .i64 i] w (NatsP (kidN (Go.Proofs.Ytonkgjengplppaa.ups ns) i n) w) := by
  obtain ⟨i0, hi0, hz0, hz1, hz2⟩ := info_parts info_int
  have HI := bx (show Try.prog.info? 3 = some i0 from hi0)
  have X0 := bx (Has.new w [.slice A n c] 25)
  have B0 := bx (ext_alloc w (.cells #[.slice A n c] 25))
  have HA := bx (fun w1 => is_any A n c (i : Int) w1)
  have HIB : Bx (inB (i : Int) n = true) := ⟨decide_eq_true ⟨by omega, by omega⟩⟩
  rw [HIB.out] at HA
  have NR := bx h
  have LN := bx h.1
  clear hi0 h HIB
  go_enter Try.func24, Try.ntmps24
  go_wp2_with fail
  go_loopw [5, 6] (fun s j wr => ∃ k : Nat, k ≤ n ∧ j = .int .i64 k ∧ wr.ownsRow (w.heap.size + 1) 3 1 s (kidN (Go.Proofs.Ytonkgjengplppaa.ups ns) i k).length (ints .i64 (nats (kidN (Go.Proofs.Ytonkgjengplppaa.ups ns) i k))) ∧ Has wr w.heap.size [.slice A n c] ∧ Below w.heap.size w wr) (fun _ j _ => n - (intOf j).toNat)
  case atStart => exact ⟨0, Nat.zero_le _, rfl, World.ownsRow_nil _ _ _ _, X0.out, B0.out⟩
  case round =>
    obtain ⟨k, hk, rfl, hown, hx, hbel⟩ := hrel
    have HOWN := bx hown
    have XR := bx hx
    have BR := bx hbel
    have HDL := kidN_len (Go.Proofs.Ytonkgjengplppaa.ups ns) i k
    clear hown hx hbel X0 B0
    obtain ⟨A5, c5, hv⟩ := own_slice HOWN.out
    subst hv
    have hcb : wr.cell? ⟨w.heap.size, 0, none⟩ = some (.slice A n c) := XR.out.cell 0
    by_cases hkn : k < n
    · have hki : (k : Int) < (n : Int) := by omega
      have hk0 : (0 : Int) ≤ (k : Int) := by omega
      have hkl : k < ns.length := by rw [LN.out]; exact hkn
      have HM1 : Bx ((kidN (Go.Proofs.Ytonkgjengplppaa.ups ns) i k).length + 1 ≤ maxLen) := ⟨by unfold maxLen; omega⟩
      have HM2 : Bx (((kidN (Go.Proofs.Ytonkgjengplppaa.ups ns) i k).length + 1) * 8 ≤ 140737488355328) := ⟨by omega⟩
      have ONE := bx (one_i64 k)
      have HKN := bx hkn
      have DY := bx (fun h => kidN_yes (us := Go.Proofs.Ytonkgjengplppaa.ups ns) (i := i) (k := k) h)
      have DN := bx (fun h => kidN_no (us := Go.Proofs.Ytonkgjengplppaa.ups ns) (i := i) (k := k) h)
      rw [ups_at hkl] at DY DN
      clear HDL
      go_wp2_with ((with_reducible refine wpList_loadG 25 _ rfl _ [.slice A n c] ?_ ?_ XR.out Try.underlying25 rfl ?_ ?_); rfl; rfl; exact cells_tree _)
      refine (HA.out _).mono ?_; rintro e w1 ⟨rfl, hb⟩
      have X5 := bx (XR.out.below hb XR.out.lt)
      have O5 := bx (own_ext HOWN.out hb)
      have B5 := bx (BR.out.trans (hb.mono BR.out.size))
      have SZ5 : Bx (w.heap.size + 1 ≤ w1.heap.size) := ⟨X5.out.lt⟩
      have N5 := bx (NR.out.below B5.out)
      clear hb XR HOWN BR hcb
      obtain ⟨g0, p0, hA0, hg0⟩ := N5.out.2.2 (by omega)
      subst hA0
      have hcu := hg0.nodeCell N5.out.2.1 k hkl 238 _ (nc_up (N5.out.2.1 _ (List.getElem_mem hkl)))
      have hcb : w1.cell? ⟨w.heap.size, 0, none⟩ = some (.slice (some ⟨g0, 0, none⟩) n c) := X5.out.cell 0
      clear hg0 N5
      by_cases hup : ns[k].up = (i : Int)
      · have DY' := bx (DY.out hup)
        rw [hup] at hcu
        clear DY DN hup
        generalize kidN (Go.Proofs.Ytonkgjengplppaa.ups ns) i k = L at *
        go_wp2_with (at_builtin; (with_reducible refine wpList_push rfl (.tmp 27) (.tmp 29) 22 rfl (w.heap.size + 1) 3 i0 _ 1 8 Try.underlying22 HI.out hz0 hz1 hz2 ?_ (by omega) _ _ _ ?_ O5.out [.int .i64 k] ?_ ?_ ONE.out HM1.out HM2.out SZ5.out ?_); rfl; rfl; rfl; rfl; intro v' w' hown' hg' hbel' _; have HOWN3 := bx hown'; have HB3 := bx (B5.out.trans (hbel'.mono (Nat.le_succ _))); have X3 := bx (X5.out.below hbel' (Nat.lt_succ_self _)); clear hown' hg' hbel')
        go_roundw
        case rel => exact ⟨k + 1, HKN.out, by go_num, by rw [DY'.out, nats_push, ints_push, List.length_append]; exact HOWN3.out, X3.out, HB3.out⟩
        case measure => simp [intOf]; omega
      · have DN' := bx (DN.out hup)
        have hupf : (ns[k].up == (i : Int)) = false := by rw [beq_eq_false_iff_ne]; exact hup
        clear DY DN hup
        generalize kidN (Go.Proofs.Ytonkgjengplppaa.ups ns) i k = L at *
        generalize ns[k].up = up at *
        go_wp2_with fail
        go_roundw
        case rel => exact ⟨k + 1, HKN.out, by go_num, by rw [DN'.out]; exact O5.out, X5.out, B5.out⟩
        case measure => simp [intOf]; omega
    · have hkk : k = n := by omega
      subst hkk
      go_wp2_with fail
      go_ret
      exact ⟨_, _, rfl, own_mono HOWN.out (Nat.le_succ _), BR.out⟩
end Go.Proofs.Ytonkgjengplppaa
