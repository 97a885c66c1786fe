/- Direct weights and one balance that is changed. -/
import Derived.Test.YtonkgjengplppaaWExact
namespace Go.Proofs.Ytonkgjengplppaa
theorem nat0_bdw {l : List Int} {b : Int} (hb : 0 ≤ b) (h : ∀ x ∈ l, 0 ≤ x ∧ x ≤ b) (j : Nat) : 0 ≤ nat0 l j ∧ nat0 l j ≤ b := by
  unfold nat0
  by_cases hj : j < l.length
  · rw [getD_at hj]; exact h _ (List.getElem_mem hj)
  · rw [List.getD, List.getElem?_eq_none (by omega)]; exact ⟨Int.le_refl 0, hb⟩
theorem tot_bdw {us : List Int} {l : List Int} {b : Int} (hb : 0 ≤ b) (h : ∀ x ∈ l, 0 ≤ x ∧ x ≤ b) (i n : Nat) : 0 ≤ tot us (nat0 l) i n ∧ tot us (nat0 l) i n ≤ n * b :=
  ⟨own_nonneg n fun j _ => (nat0_bdw hb h j).1, own_le hb n fun j _ => (nat0_bdw hb h j).2⟩
theorem getS {l : List Int} {i : Nat} {v : Int} (hi : i < l.length) (j : Nat) : (l.set i v).getD j 0 = if i = j then v else l.getD j 0 := by
  by_cases h : i = j
  · subst h; simp [List.getD, hi]
  · simp [List.getD, List.getElem?_set, h]
section
variable {ns : List Nd} {vs : List Vt} {G bs : List Int} {r : List Int} {i : Nat} {v a : Int}
theorem wgt_set (hi : i < bs.length) : ∀ m, wgt vs G (bs.set i v) r m = wgt vs G bs r m + if i < m ∧ cnt vs G r i = true then v - bs.getD i 0 else 0
  | 0 => by simp [wgt]
  | m + 1 => by
    rw [wgt, wgt, wgt_set hi m, getS hi]
    by_cases h : i = m
    · subst h
      rw [if_pos rfl, if_neg (fun h => Nat.lt_irrefl _ h.1)]
      by_cases hc : cnt vs G r i = true
      · rw [if_pos hc, if_pos hc, if_pos ⟨Nat.lt_succ_self _, hc⟩]; omega
      · simp [hc]
    · rw [if_neg h]
      generalize (if cnt vs G r m = true then bs.getD m 0 else 0) = z
      by_cases h2 : i < m ∧ cnt vs G r i = true
      · have h3 : i < m + 1 ∧ cnt vs G r i = true := ⟨Nat.lt_succ_of_lt h2.1, h2.2⟩
        rw [if_pos h2, if_pos h3]; omega
      · have h3 : ¬ (i < m + 1 ∧ cnt vs G r i = true) := fun h' => h2 ⟨by have := h'.1; omega, h'.2⟩
        rw [if_neg h2, if_neg h3]; omega
/-- what a change of one balance by a changes at node j -/
def eD (ns : List Nd) (vs : List Vt) (G : List Int) (i : Nat) (a : Int) (j : Nat) : Int :=
  if (ns.map (·.st)).getD j 2 = 2 then 0 else if cnt vs G ((ns.map (·.b.root)).getD j []) i = true then a else 0
theorem eD_at {j : Nat} (hj : j < ns.length) : eD ns vs G i a j = if ns[j].st = 2 then 0 else if cnt vs G ns[j].b.root i = true then a else 0 := by
  unfold eD
  rw [rootAt hj]
  simp [List.getD, List.getElem?_eq_getElem hj]
theorem eD_out {j : Nat} (hj : ¬ j < ns.length) : eD ns vs G i a j = 0 := by
  unfold eD
  rw [List.getD, List.getElem?_eq_none (by simpa using hj)]
  rfl
theorem eD_bd (ha : 0 ≤ a) (j : Nat) : 0 ≤ eD ns vs G i a j ∧ eD ns vs G i a j ≤ a := by
  unfold eD
  split
  · omega
  · split <;> omega
theorem eD_in {j : Nat} (h : eD ns vs G i a j ≠ 0) : ∃ hj : j < ns.length, ns[j].st ≠ 2 ∧ cnt vs G ns[j].b.root i = true := by
  by_cases hj : j < ns.length
  · rw [eD_at hj] at h
    by_cases hs : ns[j].st = 2
    · rw [if_pos hs] at h; exact absurd rfl h
    · rw [if_neg hs] at h
      by_cases hc : cnt vs G ns[j].b.root i = true
      · exact ⟨hj, hs, hc⟩
      · rw [if_neg hc] at h; exact absurd rfl h
  · exact absurd (eD_out hj) h
theorem cnt_root {r : List Int} (h : cnt vs G r i = true) : (vs.getD i zv).2.2 = r := by
  unfold cnt at h
  simp only [Bool.and_eq_true, decide_eq_true_eq] at h
  exact h.2.2
theorem eD_one (wf : Wf ns) {j k : Nat} (hj : eD ns vs G i a j ≠ 0) (hk : eD ns vs G i a k ≠ 0) : j = k := by
  obtain ⟨h1, _, c1⟩ := eD_in hj
  obtain ⟨h2, _, c2⟩ := eD_in hk
  exact wf.diff j k h1 h2 ((cnt_root c1).symm.trans (cnt_root c2))
/-- a direct weight after a change of one balance -/
theorem dirL_set {m j : Nat} (hi : i < bs.length) (him : i < m) (hj : j < ns.length) :
    nat0 (dirL ns vs G (bs.set i v) m) j = nat0 (dirL ns vs G bs m) j + eD ns vs G i (v - bs.getD i 0) j := by
  unfold nat0
  rw [dirL_at hj, dirL_at hj, eD_at hj, wgt_set hi]
  by_cases hs : ns[j].st = 2
  · rw [if_pos hs, if_pos hs, if_pos hs]; rfl
  · rw [if_neg hs, if_neg hs, if_neg hs]
    by_cases hc : cnt vs G ns[j].b.root i = true
    · rw [if_pos ⟨him, hc⟩, if_pos hc]
    · rw [if_neg (fun h => hc h.2), if_neg hc]
end
section
variable {us : List Int} {k u : Nat} {d : Nat → Int}
theorem own_none : ∀ n, (∀ j, j < n → d j = 0) → own us k d u n = 0
  | 0, _ => rfl
  | n + 1, h => by
    rw [own, own_none n (fun j hj => h j (by omega)), h n (by omega)]; split <;> rfl
theorem own_single {b : Int} (hb : ∀ j, 0 ≤ d j ∧ d j ≤ b) (h1 : ∀ j k, d j ≠ 0 → d k ≠ 0 → j = k) : ∀ n, own us k d u n ≤ b
  | 0 => by have := hb 0; rw [own]; omega
  | n + 1 => by
    rw [own]
    by_cases h : d n = 0
    · rw [h]
      have := own_single hb h1 n
      split <;> omega
    · rw [own_none n (fun j hj => by
        by_cases hz : d j = 0
        · exact hz
        · have := h1 j n hz h; omega)]
      have := hb n
      split <;> omega
end
/-- a larger balance makes no weight smaller -/
theorem grow_law {ns : List Nd} {vs : List Vt} {G bs : List Int} {n i : Nat} {a : Int} (wf : Wf ns) (h9 : ns.length ≤ 9) (hs : SmB bs) (hs' : SmB (bs.set i (bs.getD i 0 + a))) (hl : bs.length = n) (h7 : n ≤ 7) (hi : i < n) (ha : 0 ≤ a) {k : Nat} (hk : k < ns.length) :
    (subL (Go.Proofs.Ytonkgjengplppaa.ups ns) ns.length (dirL ns vs G bs n)).getD k 0 ≤ (subL (Go.Proofs.Ytonkgjengplppaa.ups ns) ns.length (dirL ns vs G (bs.set i (bs.getD i 0 + a)) n)).getD k 0 ∧
    (subL (Go.Proofs.Ytonkgjengplppaa.ups ns) ns.length (dirL ns vs G (bs.set i (bs.getD i 0 + a)) n)).getD k 0 - (subL (Go.Proofs.Ytonkgjengplppaa.ups ns) ns.length (dirL ns vs G bs n)).getD k 0 ≤ a := by
  have n9 : (ns.length : Int) * 1008806316530991104 ≤ 9 * 1008806316530991104 := Int.mul_le_mul_of_nonneg_right (by omega) (by decide)
  have t1 := tot_bdw (us := Go.Proofs.Ytonkgjengplppaa.ups ns) (b := 1008806316530991104) (by decide) (dirL_bd (ns := ns) (vs := vs) (G := G) hs (m := n) (by omega) h7) k ns.length
  have t2 := tot_bdw (us := Go.Proofs.Ytonkgjengplppaa.ups ns) (b := 1008806316530991104) (by decide) (dirL_bd (ns := ns) (vs := vs) (G := G) hs' (m := n) (by rw [List.length_set]; omega) h7) k ns.length
  rw [subL_at hk, subL_at hk, Int.emod_eq_of_lt t1.1 (by omega), Int.emod_eq_of_lt t2.1 (by omega)]
  have e : tot (Go.Proofs.Ytonkgjengplppaa.ups ns) (nat0 (dirL ns vs G (bs.set i (bs.getD i 0 + a)) n)) k ns.length = tot (Go.Proofs.Ytonkgjengplppaa.ups ns) (nat0 (dirL ns vs G bs n)) k ns.length + tot (Go.Proofs.Ytonkgjengplppaa.ups ns) (eD ns vs G i a) k ns.length := by
    unfold tot
    rw [← own_add]
    apply own_congr
    intro j hj
    have := dirL_set (ns := ns) (vs := vs) (G := G) (v := bs.getD i 0 + a) (m := n) (j := j) (show i < bs.length by omega) hi hj
    rw [this]
    congr 2
    omega
  rw [e]
  have e0 : 0 ≤ tot (Go.Proofs.Ytonkgjengplppaa.ups ns) (eD ns vs G i a) k ns.length := own_nonneg _ (fun j _ => (eD_bd ha j).1)
  have e1 : tot (Go.Proofs.Ytonkgjengplppaa.ups ns) (eD ns vs G i a) k ns.length ≤ a := own_single (fun j => eD_bd ha j) (fun j k h h' => eD_one wf h h') _
  omega
end Go.Proofs.Ytonkgjengplppaa
