/- Direct weights: what Direct and its reference compute. -/
import Derived.Test.YtonkgjengplppaaWTot
namespace Go.Proofs.Ytonkgjengplppaa
open Go.RowKit
/-- the vote of validator k counts for this root -/
def cnt (vs : List Vt) (G : List Int) (r : List Int) (k : Nat) : Bool := (vs.getD k zv).1 && (!decide ((k : Int) ∈ G) && decide ((vs.getD k zv).2.2 = r))
def wgt (vs : List Vt) (G bs : List Int) (r : List Int) : Nat → Int
  | 0 => 0
  | k + 1 => wgt vs G bs r k + if cnt vs G r k = true then bs.getD k 0 else 0
def dirL (ns : List Nd) (vs : List Vt) (G bs : List Int) (m : Nat) : List Int := ns.map fun x => if x.st = 2 then 0 else wgt vs G bs x.b.root m
theorem dirL_len {ns : List Nd} {vs : List Vt} {G bs : List Int} {m : Nat} : (dirL ns vs G bs m).length = ns.length := by simp [dirL]
theorem wgt_bd {vs : List Vt} {G bs r : List Int} (h : SmB bs) : ∀ k, k ≤ bs.length → 0 ≤ wgt vs G bs r k ∧ wgt vs G bs r k ≤ (k : Int) * 144115188075855872
  | 0, _ => by simp [wgt]
  | k + 1, hk => by
    have h1 := wgt_bd (vs := vs) (G := G) (r := r) h k (by omega)
    have h2 := h.at (show k < bs.length by omega)
    unfold wgt
    split <;> omega
theorem wgt_bd7 {vs : List Vt} {G bs r : List Int} (h : SmB bs) {k : Nat} (hk : k ≤ bs.length) (h7 : k ≤ 7) : 0 ≤ wgt vs G bs r k ∧ wgt vs G bs r k ≤ 1008806316530991104 := by
  have h1 := wgt_bd (vs := vs) (G := G) (r := r) h k hk
  have h2 : (k : Int) * 144115188075855872 ≤ 7 * 144115188075855872 := Int.mul_le_mul_of_nonneg_right (by omega) (by decide)
  omega
theorem dirL_at {ns : List Nd} {vs : List Vt} {G bs : List Int} {m i : Nat} (hi : i < ns.length) : (dirL ns vs G bs m).getD i 0 = if ns[i].st = 2 then 0 else wgt vs G bs ns[i].b.root m := by
  rw [getD_at (by rw [dirL_len]; exact hi)]; simp [dirL]
theorem dirL_bd {ns : List Nd} {vs : List Vt} {G bs : List Int} (h : SmB bs) {m : Nat} (hm : m ≤ bs.length) (h7 : m ≤ 7) : ∀ x ∈ dirL ns vs G bs m, 0 ≤ x ∧ x ≤ 1008806316530991104 := fun x hx => by
  obtain ⟨y, _, rfl⟩ := List.mem_map.1 hx
  have := wgt_bd7 (vs := vs) (G := G) (r := y.b.root) h hm h7
  split <;> omega
theorem dirL_zero {ns : List Nd} {vs : List Vt} {G bs : List Int} : dirL ns vs G bs 0 = List.replicate ns.length 0 := by
  apply List.ext_getElem
  · simp [dirL]
  · intro i h1 h2
    simp [dirL, wgt]
/-- the index of a root in a map -/
def ix (ns : List Nd) : Nat → List Int → Option Nat
  | 0, _ => none
  | k + 1, r => if r = (ns.map (·.b.root)).getD k [] ∧ (ns.map (·.st)).getD k 0 ≠ 2 then some k else ix ns k r
theorem rootAt {ns : List Nd} {k : Nat} (hk : k < ns.length) : (ns.map (·.b.root)).getD k [] = ns[k].b.root := by simp [List.getD, List.getElem?_eq_getElem hk]
theorem stsAt {ns : List Nd} {k : Nat} (hk : k < ns.length) : (ns.map (·.st)).getD k 0 = ns[k].st := by simp [List.getD, List.getElem?_eq_getElem hk]
theorem ix_in {ns : List Nd} {k : Nat} (hk : k < ns.length) (hs : ns[k].st ≠ 2) : ix ns (k + 1) = fun r => if r = ns[k].b.root then some k else ix ns k r := by
  funext r
  show (if _ then _ else _) = _
  rw [rootAt hk, stsAt hk]
  by_cases h : r = ns[k].b.root
  · rw [if_pos ⟨h, hs⟩, if_pos h]
  · rw [if_neg (fun h' => h h'.1), if_neg h]
theorem ix_out {ns : List Nd} {k : Nat} (hk : k < ns.length) (hs : ns[k].st = 2) : ix ns (k + 1) = ix ns k := by
  funext r
  show (if _ then _ else _) = _
  rw [stsAt hk, if_neg (fun h' => h'.2 hs)]
theorem ix_some {ns : List Nd} {r : List Int} {i : Nat} : ∀ k, k ≤ ns.length → ix ns k r = some i → ∃ h : i < ns.length, i < k ∧ ns[i].b.root = r ∧ ns[i].st ≠ 2
  | 0, _, h => by cases h
  | k + 1, hk, h => by
    have hkl : k < ns.length := by omega
    unfold ix at h
    rw [rootAt hkl, stsAt hkl] at h
    by_cases hc : r = ns[k].b.root ∧ ns[k].st ≠ 2
    · rw [if_pos hc] at h
      cases h
      exact ⟨hkl, Nat.lt_succ_self _, hc.1.symm, hc.2⟩
    · rw [if_neg hc] at h
      obtain ⟨h1, h2, h3⟩ := ix_some k (by omega) h
      exact ⟨h1, by omega, h3⟩
theorem ix_none {ns : List Nd} {r : List Int} : ∀ k, k ≤ ns.length → ix ns k r = none → ∀ j (hj : j < ns.length), j < k → ns[j].b.root = r → ns[j].st = 2
  | 0, _, _, j, _, hjk, _ => absurd hjk (Nat.not_lt_zero _)
  | k + 1, hk, h, j, hj, hjk, he => by
    have hkl : k < ns.length := by omega
    unfold ix at h
    rw [rootAt hkl, stsAt hkl] at h
    by_cases hc : r = ns[k].b.root ∧ ns[k].st ≠ 2
    · rw [if_pos hc] at h; cases h
    · rw [if_neg hc] at h
      rcases Nat.lt_or_eq_of_le (Nat.le_of_lt_succ hjk) with h1 | h1
      · exact ix_none k (by omega) h j hj h1 he
      · subst h1
        by_cases h2 : ns[j].st = 2
        · exact h2
        · exact absurd ⟨he.symm, h2⟩ hc
section
variable {ns : List Nd} {vs : List Vt} {G bs : List Int} {m i : Nat}
/-- a vote that does not count -/
theorem dir_no (h : ∀ r, cnt vs G r m = false) : dirL ns vs G bs (m + 1) = dirL ns vs G bs m := by
  unfold dirL
  apply List.map_congr_left
  intro x _
  show (if x.st = 2 then 0 else wgt vs G bs x.b.root m + if cnt vs G x.b.root m = true then bs.getD m 0 else 0) = _
  rw [h]; simp
theorem cnt_has (h : (vs.getD m zv).1 = false) (r : List Int) : cnt vs G r m = false := by unfold cnt; rw [h]; rfl
theorem cnt_guilty (h : (m : Int) ∈ G) (r : List Int) : cnt vs G r m = false := by unfold cnt; rw [decide_eq_true h]; cases (vs.getD m zv).1 <;> rfl
theorem cnt_yes (h : (vs.getD m zv).1 = true) (hg : (m : Int) ∉ G) (r : List Int) : cnt vs G r m = decide ((vs.getD m zv).2.2 = r) := by unfold cnt; rw [h, decide_eq_false hg]; rfl
/-- a vote for a root that is not known -/
theorem dir_none (h : (vs.getD m zv).1 = true) (hg : (m : Int) ∉ G) (hi : ix ns ns.length (vs.getD m zv).2.2 = none) : dirL ns vs G bs (m + 1) = dirL ns vs G bs m := by
  unfold dirL
  apply List.map_congr_left
  intro x hx
  obtain ⟨j, hj, rfl⟩ := List.getElem_of_mem hx
  show (if ns[j].st = 2 then 0 else wgt vs G bs ns[j].b.root m + if cnt vs G ns[j].b.root m = true then bs.getD m 0 else 0) = _
  by_cases hs : ns[j].st = 2
  · rw [if_pos hs, if_pos hs]
  · rw [if_neg hs, if_neg hs, cnt_yes h hg]
    by_cases he : (vs.getD m zv).2.2 = ns[j].b.root
    · exact absurd (ix_none _ (Nat.le_refl _) hi j hj hj he.symm) hs
    · rw [decide_eq_false he]; simp
/-- a vote that counts for node i -/
theorem dir_yes (wf : Wf ns) (h : (vs.getD m zv).1 = true) (hg : (m : Int) ∉ G) (hi : ix ns ns.length (vs.getD m zv).2.2 = some i) : dirL ns vs G bs (m + 1) = (dirL ns vs G bs m).set i ((dirL ns vs G bs m).getD i 0 + bs.getD m 0) := by
  obtain ⟨hil, _, hr, hs⟩ := ix_some _ (Nat.le_refl _) hi
  rw [dirL_at hil, if_neg hs]
  apply List.ext_getElem
  · rw [List.length_set, dirL_len, dirL_len]
  · intro j h1 h2
    have hj : j < ns.length := by rwa [dirL_len] at h1
    rw [← getD_at h1, dirL_at hj, List.getElem_set]
    show (if ns[j].st = 2 then 0 else wgt vs G bs ns[j].b.root m + if cnt vs G ns[j].b.root m = true then bs.getD m 0 else 0) = _
    rw [cnt_yes h hg]
    by_cases hij : i = j
    · subst hij
      rw [if_neg hs, if_pos rfl, decide_eq_true hr.symm, if_pos rfl]
    · rw [if_neg hij, ← getD_at (by rw [dirL_len]; exact hj), dirL_at hj]
      by_cases hsj : ns[j].st = 2
      · rw [if_pos hsj, if_pos hsj]
      · rw [if_neg hsj, if_neg hsj]
        by_cases he : (vs.getD m zv).2.2 = ns[j].b.root
        · exact absurd (wf.diff i j hil hj (hr.trans he)) hij
        · rw [decide_eq_false he]; simp
end
theorem flat_one (l : List Int) : l.flatMap (fun x => [Value.int .u64 x]) = ints .u64 l := by simp [ints, List.map_eq_flatMap]
theorem set_w (xs : List Int) (k : Nat) (v : Int) : (ints .u64 xs).set k (.int .u64 v) = ints .u64 (xs.set k v) := by rw [ints, ints, List.map_set]
theorem wpList_allocZ {P : Program} {ops : Array Oper} {rest : List Oper} {o : Oper} {a : Act} {w : World} {Q : Exit → Act → World → Prop} (hg : o.guard = none) (ty : TypeId) (cs : List Value) (hz : ∀ w, (zeroValue ty).run P w = .ok (.agg cs.toArray) w)
    (ho : o.op = .alloc ty) (h : wpList P ops Q rest (a.put o.dst (.pointer (some ⟨w.heap.size, 0, none⟩))) (w.alloc (.cells cs.toArray ty))) : wpList P ops Q (o :: rest) a w :=
  wpList_plain hg fun K hK => by
    unfold Oper.wp
    rw [run_allocZ hz ho, Oper.upon_value]
    exact hK _ _ h
end Go.Proofs.Ytonkgjengplppaa
