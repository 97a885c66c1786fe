/- The walk of UnitsSums. -/
import Derived.Test.YthfiiikanpagiaaSums
import Derived.Laws.AppendOwn
import Derived.OwnWalk
namespace Go.Proofs.Ythfiiikanpagiaa
open Go.RowKit

theorem u64s_of_fit {l : List Int} (h : Fit .u64 l) : U64s l := fun x hx => by
  have := bounds_u64 (h x hx); omega

theorem unitsSums_walk (A : Option Addr) (n c : Nat) (l : List Int) (w : World) (hf : Fit .u64 l) (hlen : l.length = n) (hr : Row w w.heap.size 1 A n (ints .u64 l)) (hnc : n ≤ c) (hc : c ≤ maxLen) :
    Calls Try.prog 6 #[.slice A n c] w fun e w' => e = .returned (.bool true) ∧ Below w.heap.size w w' := by
  have hl := u64s_of_fit hf
  clear hf
  unfold maxLen at hc
  have HA := Lib.hid units_awake
  by_cases hbig : 1000 < n
  · clear hr hlen
    go_enter Try.func6, Try.ntmps6
    go_wp2_with (go_at_call 17; refine (HA.out _).mono ?_; rintro e w' ⟨rfl, rfl⟩)
    go_ret
    exact ⟨rfl, Below.refl _ _⟩
  · have hR := Lib.hid hr
    have hsm : n ≤ 1000 := by omega
    have HL := Lib.hid hlen
    clear hr hlen hbig
    obtain ⟨i0, hi0, hz0, hz1, hz2⟩ := info_parts info_u64
    go_enter Try.func6, Try.ntmps6
    go_wp2
    go_loopw [3, 4] (fun v i wr => ∃ k : Nat, k ≤ n ∧ i = .int .i64 ((n : Int) - 1 - k) ∧ wr.ownsRow w.heap.size 36 1 v k (ints .u64 (l.reverse.take k)) ∧ Below w.heap.size w wr) (fun _ i _ => (intOf i + 1).toNat)
    case atStart => exact ⟨0, Nat.zero_le _, by simp, World.ownsRow_nil _ _ _ _, Below.refl _ _⟩
    case round =>
      obtain ⟨k, hk, rfl, hown, hbel⟩ := hrel
      by_cases hkn : k < n
      · have hkl : n - 1 - k < l.length := by rw [HL.out]; omega
        have hu : (ints .u64 l)[n - 1 - k]? = some (.int .u64 l[n - 1 - k]) := by unfold ints; rw [List.getElem?_map, List.getElem?_eq_getElem hkl]; rfl
        have hr' := hR.out.below hbel
        obtain ⟨ad, rfl, hb, hc'⟩ := hr'.at_ hu
        have hB : w.heap.size ≤ wr.heap.size := hbel.size
        have hnext : Hid (ints .u64 (l.reverse.take (k + 1)) = ints .u64 (l.reverse.take k) ++ [.int .u64 l[n - 1 - k]]) := by
          show _ = _
          have hkr : k < l.reverse.length := by rw [List.length_reverse, HL.out]; exact hkn
          rw [List.take_succ_eq_append_getElem hkr, List.getElem_reverse]
          have : l.length - 1 - k = n - 1 - k := by rw [HL.out]
          simp only [ints, List.map_append, List.map_cons, List.map_nil, this]
        clear hu
        generalize l[n - 1 - k] = x at *
        have c1 : ∀ u ∈ [Value.int .u64 x], u.oneCell' = true := by intro u hu; simp at hu; subst hu; rfl
        go_wp2_with (at_builtin; refine wpList_push rfl (.tmp 22) (.tmp 27) 35 rfl w.heap.size 36 i0 _ 1 8 Try.underlying35 hi0 hz0 hz1 hz2 rfl (by omega) u3 k _ (by rfl) hown [.int .u64 x] (by rfl) rfl c1 (by unfold maxLen; omega) (by omega) hB ?_; intro v' w' hown' hg' hbel' _)
        go_wp2
        go_roundw
        case rel => exact ⟨k + 1, by omega, by go_num, by rw [hnext.out]; exact hown', hbel.trans hbel'⟩
        case measure => simp [intOf]; omega
      · have hkk : k = n := by omega
        subst hkk
        have hall : ints .u64 (l.reverse.take k) = ints .u64 l.reverse := by rw [List.take_of_length_le (by rw [List.length_reverse, HL.out]; exact Nat.le_refl _)]
        rw [hall] at hown
        clear hall
        have hform : ∃ A' c', u3 = Value.slice A' k c' := by
          rcases hown.2 with ⟨h1, h2⟩ | ⟨g, cap, cur, h1, _⟩
          · exact ⟨none, 0, by rw [h1, h2]⟩
          · exact ⟨_, _, h1⟩
        obtain ⟨A', c', rfl⟩ := hform
        have hrb := Row.own hown
        have hlr : U64s l.reverse := fun x hx => hl x (List.mem_reverse.1 hx)
        have hsr : l.reverse.sum = l.sum := List.sum_reverse_int _
        have hv : sumV l.reverse = sumV l := by unfold sumV; rw [hsr]
        have he : sumE l.reverse = sumE l := by unfold sumE; rw [hsr]
        have H1 := Lib.hid (sum_any _ A k c l wr (hR.out.below hbel) hl (by omega))
        have H2 := Lib.hid (ref_sum _ A k c l wr (hR.out.below hbel) hl (by omega))
        have H3 := Lib.hid (sum_any _ A' k c' l.reverse wr hrb hlr (by omega))
        rw [hv, he] at H3
        clear hown hrb hv he hsr hlr
        go_wp2_with fail
        refine (H1.out).mono ?_; rintro e w' ⟨rfl, rfl⟩
        go_wp2_with fail
        refine (H2.out).mono ?_; rintro e w' ⟨rfl, rfl⟩
        go_wp2_with fail
        refine (H3.out).mono ?_; rintro e w' ⟨rfl, rfl⟩
        go_wp2_with (go_at_call 17; refine (HA.out _).mono ?_; rintro e w' ⟨rfl, rfl⟩)
        go_ret
        exact ⟨rfl, hbel⟩
end Go.Proofs.Ythfiiikanpagiaa
