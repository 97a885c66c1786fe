/- Tables dropped from a map of tables: the plain law. -/
import Derived.Test.YtekikfdlnkcenaaSeqC
import Derived.Lib.SlMapFilter
namespace Go.Proofs.Ytekikfdlnkcenaa
open Go.RowKit Go.Maps
/-- the keys that go -/
def gone (e : Int) (T : List Tb) (kl : Lit) : Bool := T.any fun t => (kc t.1).sameKey kl && decide (t.1.1 < e)
theorem kc_key {c : Ck} (h : CkOk c) : WideAt.IsKeyLit (kc c) := keyedC.key (keyOf_ck h)
theorem gone_of {T : List Tb} (ok : TOk T) {t : Tb} (ht : t ∈ T) (e : Int) : gone e T (kc t.1) = decide (t.1.1 < e) := by
  rw [Bool.eq_iff_iff, gone, List.any_eq_true, decide_eq_true_eq]
  constructor
  · rintro ⟨s, hs, h⟩
    simp only [Bool.and_eq_true, decide_eq_true_eq] at h
    have := kc_inj (ok.ok s hs) (ok.ok t ht) (WideAt.sameKey_eq h.1)
    rw [← this]; exact h.2
  · intro h
    exact ⟨t, ht, by rw [WideAt.sameKey_self (kc_key (ok.ok t ht))]; simpa using h⟩
/-- the tables that stay -/
def stayT (e : Int) (T : List Tb) : List Tb := T.filter fun t => !decide (t.1.1 < e)
theorem keys_perm {es0 : List (Lit × DataW Value)} (hap : es0.Pairwise fun p q => p.1 ≠ q.1) (hkeys : ∀ p ∈ es0, WideAt.IsKeyLit p.1) {T : List Tb} (ok : TOk T) (hh : ∀ kl, has (DataW.map es0) kl = true ↔ ∃ t ∈ T, kl = kc t.1) :
    (es0.map (·.1)).Perm (T.map fun t => kc t.1) := by
  have n1 : (es0.map (·.1)).Nodup := by
    unfold List.Nodup
    rw [List.pairwise_map]; exact hap
  have n2 : (T.map fun t => kc t.1).Nodup := by
    unfold List.Nodup
    rw [List.pairwise_map]
    exact ok.nd.imp_of_mem fun {a b} ha hb h e => h (kc_inj (ok.ok a ha) (ok.ok b hb) e)
  refine (List.perm_ext_iff_of_nodup n1 n2).2 fun kl => ?_
  rw [List.mem_map, List.mem_map]
  constructor
  · rintro ⟨p, hp, rfl⟩
    obtain ⟨t, ht, e⟩ := (hh p.1).1 (by rw [has_eq, List.any_eq_true]; exact ⟨p, hp, WideAt.sameKey_self (hkeys p hp)⟩)
    exact ⟨t, ht, e.symm⟩
  · rintro ⟨t, ht, rfl⟩
    have := (hh (kc t.1)).2 ⟨t, ht, rfl⟩
    rw [has_eq, List.any_eq_true] at this
    obtain ⟨p, hp, e⟩ := this
    exact ⟨p, hp, WideAt.sameKey_eq e⟩
theorem BkMap.drop {P : Nat → Prop} {w w' : World} {M n : Nat} {T : List Tb} {es0 : List (Lit × DataW Value)} (e : Int) (ok : TOk T) (hap : es0.Pairwise fun p q => p.1 ≠ q.1) (hkeys : ∀ p ∈ es0, WideAt.IsKeyLit p.1) (hh : ∀ kl, has (DataW.map es0) kl = true ↔ ∃ t ∈ T, kl = kc t.1)
    (ha : ∀ t ∈ T, ∃ A cap, (∀ z, (DataW.map es0).atKey (kc t.1) z = .held (.agg (tbc t.1 (.slice A t.2.length cap)).toArray)) ∧ URow w A t.2.length t.2 ∧ (A = none → cap = 0) ∧ ∀ ad, A = some ad → P ad.block)
    (hne : ∀ g cs, Has w g cs → g ≠ M) (ho : w'.ownsMap (H := Value) Try.prog 35 heldR M n (Lib.deleteFuncD (fun kl _ => gone e T kl) (.map es0))) (hg : w.grownBy w' (some M)) : BkMap P w' M (stayT e T) := by
  have hp := keys_perm hap hkeys ok hh
  have hmem : ∀ t ∈ T, ∃ d, (kc t.1, d) ∈ es0 := fun t ht => by
    obtain ⟨p, hp1, e1⟩ := List.mem_map.1 (hp.symm.subset (List.mem_map.2 ⟨t, ht, rfl⟩))
    exact ⟨p.2, by rw [← e1]; exact hp1⟩
  have hsz : (es0.filter fun p => !gone e T p.1).length = (stayT e T).length := by
    have e1 : (es0.filter fun p => !gone e T p.1).length = ((es0.map (·.1)).filter fun k => !gone e T k).length := by
      rw [List.filter_map, List.length_map]; rfl
    have e2 : ((T.map fun t => kc t.1).filter fun k => !gone e T k).length = (stayT e T).length := by
      rw [List.filter_map, List.length_map]
      unfold stayT
      congr 1
      exact List.filter_congr fun t ht => by simp [gone_of ok ht]
    rw [e1, ← e2]
    exact (hp.filter _).length_eq
  have hap' := hap.filter (fun p => !gone e T p.1)
  refine ⟨⟨fun t ht => ok.ok t (List.mem_filter.1 ht).1, fun t ht => ok.u t (List.mem_filter.1 ht).1, ok.nd.filter _⟩, _, ?_, ⟨_, rfl, hap'⟩, hsz, fun kl => ?_, fun t ht => ?_⟩
  · obtain ⟨es, clock, q1, q2, q3, q4⟩ := ho
    refine ⟨es, clock, q1, q2, ?_, q4⟩
    have q5 : (es0.filter fun p => !gone e T p.1).length = es.size := by
      have q5 := congrArg Maps.size q4
      rw [size_eq, length_sorted, List.length_map, Array.length_toList] at q5
      exact q5
    rw [← hsz, q5]; exact Nat.le_refl _
  · rw [has_eq, List.any_eq_true]
    constructor
    · rintro ⟨p, hp1, hs⟩
      obtain ⟨hp2, hp3⟩ := List.mem_filter.1 hp1
      have ek := WideAt.sameKey_eq hs
      subst ek
      obtain ⟨t, ht, e1⟩ := (hh p.1).1 (by rw [has_eq, List.any_eq_true]; exact ⟨p, hp2, hs⟩)
      refine ⟨t, List.mem_filter.2 ⟨ht, ?_⟩, e1⟩
      rw [e1, gone_of ok ht] at hp3
      exact hp3
    · rintro ⟨t, ht, rfl⟩
      obtain ⟨ht1, ht2⟩ := List.mem_filter.1 ht
      obtain ⟨d, hd⟩ := hmem t ht1
      exact ⟨_, List.mem_filter.2 ⟨hd, by rw [gone_of ok ht1]; exact ht2⟩, WideAt.sameKey_self (kc_key (ok.ok t ht1))⟩
  · obtain ⟨ht1, ht2⟩ := List.mem_filter.1 ht
    obtain ⟨d, hd⟩ := hmem t ht1
    obtain ⟨A, cap, hat, hu, hn, hP⟩ := ha t ht1
    have kk := kc_key (ok.ok t ht1)
    have ed : d = .held (.agg (tbc t.1 (.slice A t.2.length cap)).toArray) := (WideAt.atKey_mem .nil kk hap hd).symm.trans (hat .nil)
    refine ⟨A, cap, fun z => ?_, ⟨hu.1, fun h0 => ?_⟩, hn, hP⟩
    · rw [← ed]
      exact WideAt.atKey_mem z kk hap' (List.mem_filter.2 ⟨hd, by rw [gone_of ok ht1]; exact ht2⟩)
    · obtain ⟨k, post, ek, hk⟩ := hu.2 h0
      exact ⟨k, post, ek, hk.grown hg (ne_som (hne _ _ hk))⟩
end Go.Proofs.Ytekikfdlnkcenaa
