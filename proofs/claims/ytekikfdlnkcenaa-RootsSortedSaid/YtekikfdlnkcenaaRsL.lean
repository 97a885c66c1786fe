/- Lists of roots in order: plain laws. -/
import Derived.Test.YtekikfdlnkcenaaRsA
namespace Go.Proofs.Ytekikfdlnkcenaa
open Go.RowKit Go.Sort
theorem cmpRt_flip (a b : Rt) : cmpRt b a = - cmpRt a b := cmpI_flip _ _
theorem cmpRt_zero {a b : Rt} (h : cmpRt a b = 0) : a = b := Rt.ext' (cmpI_zero _ _ (by rw [a.len, b.len]) h)
theorem cmpRt_self (a : Rt) : cmpRt a a = 0 := cmpI_self _
theorem cmpRt_le {a b c : Rt} (h1 : cmpRt a b ≤ 0) (h2 : cmpRt b c ≤ 0) : cmpRt a c ≤ 0 := cmpI_trans _ _ _ (by rw [a.len, b.len]) (by rw [b.len, c.len]) h1 h2
theorem cmpRt_lt_of_le {a b c : Rt} (h1 : cmpRt a b ≤ 0) (h2 : cmpRt b c < 0) : cmpRt a c < 0 := by
  have h3 := cmpRt_le h1 (Int.le_of_lt h2)
  rcases Int.lt_or_eq_of_le h3 with h | h
  · exact h
  · have := cmpRt_zero h
    subst this
    have := cmpRt_flip a b
    omega
theorem cmpRt_trans {a b c : Rt} (h1 : cmpRt a b < 0) (h2 : cmpRt b c < 0) : cmpRt a c < 0 := cmpRt_lt_of_le (Int.le_of_lt h1) h2
/-- ascending, each root once -/
def AscR (l : List Rt) : Prop := l.Pairwise fun a b => cmpRt a b < 0
theorem AscR.nodup {l : List Rt} (h : AscR l) : l.Nodup := List.Pairwise.imp (S := fun a b => a ≠ b) (fun {a b} h (e : a = b) => by rw [e, cmpRt_self] at h; omega) h
theorem AscR.uniq {a b : List Rt} (ha : AscR a) (hb : AscR b) (h : ∀ x, x ∈ a ↔ x ∈ b) : a = b := by
  have hp : a.Perm b := (List.perm_ext_iff_of_nodup ha.nodup hb.nodup).2 h
  refine List.Perm.eq_of_pairwise (le := fun x y : Rt => cmpRt x y < 0) (fun x y _ _ h1 h2 => ?_) ha hb hp
  have := cmpRt_flip x y
  omega
/-- not descending -/
def LeR (l : List Rt) : Prop := l.Pairwise fun a b => cmpRt a b ≤ 0
theorem srtR_le (l : List Rt) : LeR (srtR l) := by
  have swo : SWO (ltOf cmpRt) := swo_of (fun r : Rt => r.l) 32 (fun r => r.len)
  have hlt : ∀ x y : Rt, ltOf cmpRt x y = true ↔ cmpRt x y < 0 := fun x y => by simp [ltOf]
  have := List.pairwise_mergeSort (le := fun x y => !ltOf cmpRt y x) (fun a b c h1 h2 => by
    simp only [Bool.not_eq_true'] at *
    exact swo.ntrans _ _ _ h2 h1) (fun a b => by
    simp only [Bool.or_eq_true, Bool.not_eq_true']
    cases e : ltOf cmpRt b a with
    | false => exact .inl rfl
    | true =>
      refine .inr ?_
      cases e2 : ltOf cmpRt a b with
      | false => rfl
      | true => have := swo.trans _ _ _ e e2; rw [swo.irrefl] at this; cases this) l
  exact this.imp fun {a b} h => by
    have h2 : ¬ cmpRt b a < 0 := fun h3 => by
      have h4 := (hlt b a).2 h3
      rw [h4] at h
      exact Bool.noConfusion h
    have := cmpRt_flip a b
    omega
theorem srtR_mem (l : List Rt) (x : Rt) : x ∈ srtR l ↔ x ∈ l := (List.mergeSort_perm l _).mem_iff
/-- runs of one root are made one root: of the first k -/
def cptR (l : List Rt) : Nat → List Rt
  | 0 => []
  | k + 1 => if 0 < k ∧ l[k]? = l[k - 1]? then cptR l k else cptR l k ++ (l[k]?).toList
theorem cptR_len (l : List Rt) : ∀ k, (cptR l k).length ≤ k
  | 0 => Nat.le_refl _
  | k + 1 => by
    have := cptR_len l k
    unfold cptR
    split
    · omega
    · rw [List.length_append]
      have : (l[k]?).toList.length ≤ 1 := by cases l[k]? <;> simp
      omega
theorem cptR_pos (l : List Rt) (hl : 0 < l.length) : ∀ k, 0 < k → 0 < (cptR l k).length
  | 1, _ => by
    unfold cptR
    rw [if_neg (fun h => Nat.lt_irrefl _ h.1), List.getElem?_eq_getElem hl]
    simp [cptR]
  | k + 2, _ => by
    have := cptR_pos l hl (k + 1) (Nat.succ_pos _)
    unfold cptR
    split
    · exact this
    · rw [List.length_append]; omega
theorem cptR_all (l : List Rt) : ∀ k, k ≤ l.length → (∀ j, 0 < j → j < k → l[j]? ≠ l[j - 1]?) → cptR l k = l.take k
  | 0, _, _ => rfl
  | k + 1, hk, h => by
    have ih := cptR_all l k (by omega) (fun j h0 h1 => h j h0 (by omega))
    unfold cptR
    rw [if_neg (fun e => h k e.1 (by omega) e.2), ih, List.take_succ_eq_append_getElem (by omega), List.getElem?_eq_getElem (by omega)]
    rfl
theorem cptR_law {l : List Rt} (hl : LeR l) : ∀ k, k ≤ l.length → AscR (cptR l k) ∧ (∀ x, x ∈ cptR l k ↔ x ∈ l.take k)
  | 0, _ => ⟨List.Pairwise.nil, fun x => by simp [cptR]⟩
  | k + 1, hk => by
    obtain ⟨h1, h2⟩ := cptR_law hl k (by omega)
    have hkl : k < l.length := by omega
    have hle : ∀ j (hj : j < l.length), j < k → cmpRt l[j] l[k] ≤ 0 := fun j hj hjk => List.pairwise_iff_getElem.1 hl j k hj hkl hjk
    unfold cptR
    rw [List.take_succ_eq_append_getElem hkl]
    split
    · rename_i hc
      obtain ⟨h0, he⟩ := hc
      rw [List.getElem?_eq_getElem hkl, List.getElem?_eq_getElem (by omega)] at he
      have he' : l[k] = l[k - 1] := Option.some.inj he
      refine ⟨h1, fun x => ?_⟩
      rw [h2, List.mem_append]
      constructor
      · exact .inl
      · rintro (h | h)
        · exact h
        · have hx : x = l[k] := by simpa using h
          rw [hx, he']
          exact List.mem_take_iff_getElem.2 ⟨k - 1, by omega, rfl⟩
    · rename_i hc
      rw [List.getElem?_eq_getElem hkl]
      refine ⟨?_, fun x => by rw [List.mem_append, List.mem_append, h2]; simp⟩
      show AscR (cptR l k ++ [l[k]])
      unfold AscR
      rw [List.pairwise_append]
      refine ⟨h1, List.pairwise_singleton _ _, fun x hx y hy => ?_⟩
      have hy' : y = l[k] := by simpa using hy
      subst hy'
      obtain ⟨j, hj, ej⟩ := List.mem_take_iff_getElem.1 ((h2 x).1 hx)
      have hjk : j < k := by omega
      have hk0 : 0 < k := by omega
      have hne : l[k - 1] ≠ l[k] := fun e => hc ⟨hk0, by rw [List.getElem?_eq_getElem hkl, List.getElem?_eq_getElem (by omega), e]⟩
      have hlast : cmpRt l[k - 1] l[k] < 0 := by
        have h3 := hle (k - 1) (by omega) (by omega)
        rcases Int.lt_or_eq_of_le h3 with h | h
        · exact h
        · exact absurd (cmpRt_zero h) hne
      have hxle : cmpRt x l[k - 1] ≤ 0 := by
        rw [← ej]
        rcases Nat.lt_or_eq_of_le (show j ≤ k - 1 by omega) with h | h
        · exact List.pairwise_iff_getElem.1 hl j (k - 1) (by omega) (by omega) h
        · subst h; rw [cmpRt_self]; exact Int.le_refl _
      exact cmpRt_lt_of_le hxle hlast
/-- a list of roots, sorted, each once -/
def rsU (l : List Rt) : List Rt := cptR (srtR l) l.length
theorem rsU_law (l : List Rt) : AscR (rsU l) ∧ ∀ x, x ∈ rsU l ↔ x ∈ l := by
  obtain ⟨h1, h2⟩ := cptR_law (srtR_le l) l.length (by rw [srtR_len]; exact Nat.le_refl _)
  refine ⟨h1, fun x => ?_⟩
  show x ∈ cptR (srtR l) l.length ↔ _
  rw [h2, List.take_of_length_le (by rw [srtR_len]; exact Nat.le_refl _), srtR_mem]
theorem rsU_uniq {l a : List Rt} (ha : AscR a) (h : ∀ x, x ∈ a ↔ x ∈ l) : a = rsU l := AscR.uniq ha (rsU_law l).1 fun x => (h x).trans ((rsU_law l).2 x).symm
theorem rsU_idem (l : List Rt) : rsU (rsU l) = rsU l := (rsU_uniq (rsU_law l).1 fun _ => Iff.rfl).symm
theorem rsU_len (l : List Rt) : (rsU l).length ≤ l.length := cptR_len _ _
/-- the last is the greatest -/
theorem AscR.last {l : List Rt} (h : AscR l) (hn : l ≠ []) {x : Rt} (hx : x ∈ l) : cmpRt x (l.getLast hn) ≤ 0 := by
  obtain ⟨j, hj, rfl⟩ := List.getElem_of_mem hx
  rw [List.getLast_eq_getElem]
  rcases Nat.lt_or_eq_of_le (show j ≤ l.length - 1 by omega) with h1 | h1
  · exact Int.le_of_lt (List.pairwise_iff_getElem.1 h j (l.length - 1) hj (by omega) h1)
  · simp only [← h1, cmpRt_self]; exact Int.le_refl _
end Go.Proofs.Ytekikfdlnkcenaa
