/- Numbers of 256 bits: the program's decimal notation. -/
import Derived.Test.YtpgpplpddjjchaaDoorWideT
import Derived.Test.YtpgpplpddjjchaaDoorWideG
import Derived.Test.YtpgpplpddjjchaaDoorEq
import Derived.Test.YtpgpplpddjjchaaDoorShelf
import Derived.Deep.AppendLies
namespace Go.Proofs.YtpgpplpddjjchaaDoor
open Go.RowKit
theorem info_u8 : (Tryd.prog.info? 5).map (fun i => (i.zero, i.size, i.bytes)) = some (some (.int .u8 0), 1, 1) := by kernel_rfl
theorem eqWide : EqT Tryd.prog 2 24 (List.replicate 4 [Value.int .u64 0]).flatten :=
  EqT.array (EqT.int Tryd.underlying22 (by kernel_rfl)) Tryd.underlying24 (by kernel_rfl) (info_of_underlying Tryd.underlying22)
theorem fits_wide {l : List Int} (h : l.length = 4) : Fits (List.replicate 4 [Value.int .u64 0]).flatten (ints .u64 l) := Fits.ints h
theorem wide_same (n m : Nat) (w : World) :
    (Op.equalIn 10000 24 (.agg (ints .u64 (wl n)).toArray) (.agg (ints .u64 (wl m)).toArray)).run Tryd.prog w = .ok (decide (wl n = wl m)) w :=
  eqWide.same (by omega) (agg_of_array Tryd.underlying24) (size_of_underlying Tryd.underlying24) (fits_wide rfl) (fits_wide rfl) (by rw [wl_len]; rfl) (by rw [wl_len]; rfl) (by simp [ints_inj]) w
theorem wl_inj {n m : Nat} (hn : n < 2 ^ 256) (hm : m < 2 ^ 256) (h : wl n = wl m) : n = m := by
  have h0 : limb n 0 = limb m 0 := by have := congrArg (fun l => l.getD 0 0) h; exact this
  have h1 : limb n 1 = limb m 1 := by have := congrArg (fun l => l.getD 1 0) h; exact this
  have h2 : limb n 2 = limb m 2 := by have := congrArg (fun l => l.getD 2 0) h; exact this
  have h3 : limb n 3 = limb m 3 := by have := congrArg (fun l => l.getD 3 0) h; exact this
  have e4 : n / 2 ^ (64 * (3 + 1)) = m / 2 ^ (64 * (3 + 1)) := by
    rw [Nat.div_eq_of_lt (show n < 2 ^ (64 * (3 + 1)) from hn), Nat.div_eq_of_lt (show m < 2 ^ (64 * (3 + 1)) from hm)]
  have e3 := limb_eq e4 h3
  have e2 := limb_eq (j := 2) e3 h2
  have e1 := limb_eq (j := 1) e2 h1
  have e0 := limb_eq (j := 0) e1 h0
  rw [Nat.mul_zero, Nat.pow_zero, Nat.div_one, Nat.div_one] at e0
  exact e0
theorem wl_eq {n m : Nat} (hn : n < 2 ^ 256) (hm : m < 2 ^ 256) : decide (wl n = wl m) = decide (n = m) := by
  by_cases h : n = m
  · rw [h, decide_eq_true rfl, decide_eq_true rfl]
  · rw [decide_eq_false h, decide_eq_false (fun e => h (wl_inj hn hm e))]

theorem own_ext {w w' : World} {base : Nat} {e : TypeId} {size : Nat} {v : Value} {n : Nat} {xs : List Value} (h : w.ownsRow base e size v n xs) (hb : Below w.heap.size w w') : w'.ownsRow base e size v n xs := by
  refine ⟨h.1, ?_⟩
  rcases h.2 with h1 | ⟨g, cap, cur, h1, h2, h3, h4⟩
  · exact .inl h1
  · exact .inr ⟨g, cap, cur, h1, h2, by rw [hb.block g (Array.getElem?_eq_some_iff.1 h3).1]; exact h3, h4⟩
/-- a row of the call's own, with elements, as a block -/
theorem own_block {w : World} {base : Nat} {e : TypeId} {size : Nat} {v : Value} {n : Nat} {xs : List Value} (h : w.ownsRow base e size v n xs) (hn : 0 < n) :
    ∃ g c post, v = .slice (some ⟨g, 0, none⟩) n c ∧ base ≤ g ∧ Has w g (xs ++ post) := by
  rcases h.2 with ⟨h1, h2⟩ | ⟨g, cap, cur, h1, h2, h3, h4, h5, h6, h7⟩
  · omega
  · refine ⟨g, cap, cur.toList.drop (n * size), h1, h2, ⟨e, ?_⟩⟩
    rw [← h7, List.take_append_drop]
    simpa using h3
theorem own_slice {w : World} {base : Nat} {e : TypeId} {size : Nat} {v : Value} {n : Nat} {xs : List Value} (h : w.ownsRow base e size v n xs) : ∃ A c, v = .slice A n c := by
  rcases h.2 with ⟨h1, h2⟩ | ⟨g, cap, cur, h1, _⟩
  · subst h2; exact ⟨none, 0, h1⟩
  · exact ⟨_, _, h1⟩
def lenS : Value → Nat
  | .slice _ n _ => n
  | _ => 0
theorem dg_chunk (n j k : Nat) (hk : k < 19) : n / 10 ^ (19 * j) % 10000000000000000000 / 10 ^ k % 10 = dg n (19 * j + k) := by
  have e : (10000000000000000000 : Nat) = 10 ^ k * 10 ^ (19 - k) := by
    rw [← Nat.pow_add, show k + (19 - k) = 19 by omega]
  have e2 : (10 : Nat) ^ (19 - k) = 10 * 10 ^ (18 - k) := by
    rw [Nat.mul_comm, ← Nat.pow_succ]; congr 1; omega
  rw [e, Nat.mod_mul_right_div_self, e2, Nat.mod_mul_right_mod, Nat.div_div_eq_div_mul, ← Nat.pow_add]
  rfl
theorem next_chunk (n j : Nat) : n / 10 ^ (19 * j) / 10000000000000000000 = n / 10 ^ (19 * (j + 1)) := by
  have e : 10 ^ (19 * (j + 1)) = 10 ^ (19 * j) * 10000000000000000000 := by rw [show 19 * (j + 1) = 19 * j + 19 by omega, Nat.pow_add]
  rw [e, Nat.div_div_eq_div_mul]
theorem chunk_any (m : Nat) (hm : m < 2 ^ 256) (w : World) :
    Calls Tryd.prog 20 #[.agg (ints .u64 (wl m)).toArray, .int .u64 10000000000000000000] w fun e w' =>
      e = .returned (.tuple #[.agg (ints .u64 (wl (m / 10000000000000000000))).toArray, .int .u64 ((m % 10000000000000000000 : Nat) : Int), .int .i64 0]) ∧ Below w.heap.size w w' :=
  (divS_any m 10000000000000000000 hm (by decide) w).mono fun e w' h => ⟨h.1, h.2⟩
/-- t at each end exchanged -/
def swp (l : List Int) (t : Nat) : List Int := (List.range l.length).map fun j => if j < t ∨ l.length - t ≤ j then l.getD (l.length - 1 - j) 0 else l.getD j 0
theorem swp_len (l : List Int) (t : Nat) : (swp l t).length = l.length := by simp [swp]
theorem swp_at (l : List Int) (t j : Nat) (h : j < l.length) : (swp l t)[j]? = some (if j < t ∨ l.length - t ≤ j then l.getD (l.length - 1 - j) 0 else l.getD j 0) := by
  unfold swp
  rw [List.getElem?_map, List.getElem?_range h]; rfl
theorem getD_at (l : List Int) (j : Nat) (h : j < l.length) : l[j]? = some (l.getD j 0) := by
  rw [List.getD_eq_getElem?_getD, List.getElem?_eq_getElem h]; rfl
theorem swp_zero (l : List Int) : swp l 0 = l := by
  apply List.ext_getElem?
  intro j
  by_cases h : j < l.length
  · rw [swp_at l 0 j h, if_neg (by omega), getD_at l j h]
  · rw [List.getElem?_eq_none (by rw [swp_len]; omega), List.getElem?_eq_none (by omega)]
theorem swp_step (l : List Int) (t u : Nat) (h : t + u + 1 = l.length) (htu : t < u) : ((swp l t).set t (l.getD u 0)).set u (l.getD t 0) = swp l (t + 1) := by
  apply List.ext_getElem?
  intro j
  by_cases hj : j < l.length
  · rw [swp_at l (t + 1) j hj, List.getElem?_set, List.getElem?_set, List.length_set, swp_len]
    by_cases h1 : u = j
    · rw [if_pos h1, if_pos (by omega), if_pos (by omega), show l.length - 1 - j = t by omega]
    · rw [if_neg h1]
      by_cases h2 : t = j
      · rw [if_pos h2, if_pos (by omega), if_pos (by omega), show l.length - 1 - j = u by omega]
      · rw [if_neg h2, swp_at l t j hj]
        by_cases h3 : j < t ∨ l.length - t ≤ j
        · rw [if_pos h3, if_pos (by omega)]
        · rw [if_neg h3, if_neg (by omega)]
  · rw [List.getElem?_eq_none (by rw [List.length_set, List.length_set, swp_len]; omega), List.getElem?_eq_none (by rw [swp_len]; omega)]
theorem swp_end (l : List Int) (t u : Nat) (h : t + u + 1 = l.length) (htu : u ≤ t) (h2 : t ≤ u + 1) : swp l t = l.reverse := by
  apply List.ext_getElem?
  intro j
  by_cases hj : j < l.length
  · rw [swp_at l t j hj, List.getElem?_reverse hj, getD_at l _ (by omega)]
    by_cases h3 : j < t ∨ l.length - t ≤ j
    · rw [if_pos h3]
    · rw [if_neg h3, show l.length - 1 - j = j by omega]
  · rw [List.getElem?_eq_none (by rw [swp_len]; omega), List.getElem?_eq_none (by rw [List.length_reverse]; omega)]
end Go.Proofs.YtpgpplpddjjchaaDoor
