/- Contracts of the functions of roots and of their references. -/
import Derived.Test.YthfiiikanpagiaaRows
import Derived.Test.YthfiiikanpagiaaCore
import Derived.Test.YthfiiikanpagiaaEq
import Derived.WalkLawsBesides
import Derived.Outline
import Derived.Handy
import Derived.Lib.BytesEntry
import Derived.Lib.Bytealg
import Derived.Laws.Externs
import Derived.Deep.QuietTactic
import Derived.BigQuiet
namespace Go.Proofs.Ythfiiikanpagiaa
open Go.RowKit

/-- bytewise order of two lists of one length -/
def cmpI : List Int → List Int → Int
  | a :: xs, b :: ys => if a < b then -1 else if b < a then 1 else cmpI xs ys
  | _, _ => 0

theorem fit_u8 {l : List Int} (h : Fit .u8 l) : ∀ x ∈ l, 0 ≤ x ∧ x < 256 := fun x hx => by
  have := bounds_u8 (h x hx); omega

theorem byte_lt {a b : Int} (ha : 0 ≤ a ∧ a < 256) (hb : 0 ≤ b ∧ b < 256) : UInt8.ofNat a.toNat < UInt8.ofNat b.toNat ↔ a < b := by
  rw [UInt8.lt_iff_toNat_lt, UInt8.toNat_ofNat', UInt8.toNat_ofNat']
  omega

theorem compareBytes_eq : ∀ (a b : List Int), (∀ x ∈ a, 0 ≤ x ∧ x < 256) → (∀ x ∈ b, 0 ≤ x ∧ x < 256) → a.length = b.length → Lib.compareBytes (Lib.bytesOf a) (Lib.bytesOf b) = cmpI a b
  | [], [], _, _, _ => rfl
  | [], _ :: _, _, _, h => by simp at h
  | _ :: _, [], _, _, h => by simp at h
  | a :: xs, b :: ys, ha, hb, h => by
    have ih := compareBytes_eq xs ys (fun x hx => ha x (by simp [hx])) (fun x hx => hb x (by simp [hx])) (by simpa using h)
    have h1 := byte_lt (ha a (by simp)) (hb b (by simp))
    have h2 := byte_lt (hb b (by simp)) (ha a (by simp))
    simp only [Lib.bytesOf, List.map_cons, Lib.compareBytes, cmpI] at ih ⊢
    simp only [h1, h2, ih]

theorem run_bcompare {a b : List Int} {x y : Addr} {n c d : Nat} {w : World} (ha : Fit .u8 a) (hb : Fit .u8 b) (la : a.length = n) (lb : b.length = n)
    (hx : ∀ j u, (ints .u8 a)[j]? = some u → w.cell? (x.add j) = some u) (hy : ∀ j u, (ints .u8 b)[j]? = some u → w.cell? (y.add j) = some u) :
    (callFunc 39 #[.slice (some x) n c, .slice (some y) n d]).run Try.prog w = .ok (.value (.int .i64 (cmpI a b))) w := by
  rw [run_callFunc_extern Try.func39 (by kernel_rfl) (by kernel_rfl) (by kernel_rfl) (e := Extern.BytealgCompare.compare) (by kernel_rfl)]
  have l1 := Lib.run_loadBytesX (P := Try.prog) w a x .empty (fun j v hj => hx j _ (by rw [ints, List.getElem?_map, hj]; rfl))
  have l2 := Lib.run_loadBytesX (P := Try.prog) w b y .empty (fun j v hj => hy j _ (by rw [ints, List.getElem?_map, hj]; rfl))
  rw [la] at l1
  rw [lb] at l2
  change Result.andThen (Sem.run Try.prog (do pure (goInt (Extern.BytealgCompare.cmp (← Extern.Bytes.bytesOf (.slice (some x) n c)) (← Extern.Bytes.bytesOf (.slice (some y) n d))))) w) _ = _
  simp only [Extern.Bytes.bytesOf, Sem.run_bind, l1, l2, Sem.run_pure, Result.andThen]
  rw [Lib.cmp_eq]
  have e1 : ∀ l : List Int, (ByteArray.empty.data ++ (Lib.bytesOf l).toArray).toList = Lib.bytesOf l := fun l => by simp
  rw [e1, e1, compareBytes_eq a b (fit_u8 ha) (fit_u8 hb) (by omega)]
  rfl

theorem bytes_compare {a b : List Int} {x y : Addr} {n c d : Nat} {w : World} (ha : Fit .u8 a) (hb : Fit .u8 b) (la : a.length = n) (lb : b.length = n)
    (hx : ∀ j u, (ints .u8 a)[j]? = some u → w.cell? (x.add j) = some u) (hy : ∀ j u, (ints .u8 b)[j]? = some u → w.cell? (y.add j) = some u) :
    Calls Try.prog 32 #[.slice (some x) n c, .slice (some y) n d] w fun e w' => e = .returned (.int .i64 (cmpI a b)) ∧ w = w' := by
  have hr := run_bcompare (c := c) (d := d) ha hb la lb hx hy
  clear hx hy la lb
  go_enter Try.func32, Try.ntmps32
  go_wp2
  go_ret
  exact ⟨rfl, rfl⟩

theorem compare_any {a b : List Int} (ha : Fit .u8 a) (hb : Fit .u8 b) (la : a.length = 32) (lb : b.length = 32) (w : World) :
    Calls Try.prog 9 #[.agg (ints .u8 a).toArray, .agg (ints .u8 b).toArray] w fun e w' => e = .returned (.int .i64 (cmpI a b)) ∧ Below w.heap.size w w' := by
  have hx : ∀ n : Nat, ∀ j u, (ints .u8 a)[j]? = some u → (((w.alloc (.cells (ints .u8 a).toArray 23)).alloc (.cells (ints .u8 b).toArray 23)).drewN n).cell? ((⟨w.heap.size, 0, none⟩ : Addr).add j) = some u := by
    intro n j u hu
    exact (World.cell?_alloc_lt _ _ _ (by rw [add_block]; simp)).trans (new_cells w _ _ j u hu)
  have hy : ∀ n : Nat, ∀ j u, (ints .u8 b)[j]? = some u → (((w.alloc (.cells (ints .u8 a).toArray 23)).alloc (.cells (ints .u8 b).toArray 23)).drewN n).cell? ((⟨w.heap.size + 1, 0, none⟩ : Addr).add j) = some u := by
    intro n j u hu
    have := new_cells (w.alloc (.cells (ints .u8 a).toArray 23)) (ints .u8 b) 23 j u hu
    simpa using this
  have HC := Lib.hid (fun n => bytes_compare (c := 32) (d := 32) ha hb la lb (hx n) (hy n))
  clear hx hy la lb
  go_enter Try.func9, Try.ntmps9
  go_wp2
  go_quiet ((go_at_call 32; exact quietL (HC.out _)))
  go_wp2
  go_ret
  exact ⟨rfl, below_dN (((Below.refl _ _).alloc (Nat.le_refl _) _).alloc (by simp) _) _⟩

theorem getD_get (l : List Int) (k : Nat) (h : k < l.length) : l.getD k 0 = l[k] := by simp [List.getD_eq_getElem?_getD, List.getElem?_eq_getElem h]

/-- two lists that agree up to k, and what comes then -/
theorem cmpI_lt : ∀ (k : Nat) (a b : List Int), k < a.length → a.length = b.length → a.take k = b.take k → a.getD k 0 < b.getD k 0 → cmpI a b = -1
  | 0, [], _, h, _, _, _ => by simp at h
  | 0, a :: xs, b :: ys, _, _, _, h => by simp at h; simp [cmpI, h]
  | 0, _ :: _, [], _, h, _, _ => by simp at h
  | k + 1, [], _, h, _, _, _ => by simp at h
  | k + 1, _ :: _, [], _, h, _, _ => by simp at h
  | k + 1, a :: xs, b :: ys, h1, h2, h3, h4 => by
    simp only [List.take_succ_cons, List.cons.injEq] at h3
    obtain ⟨rfl, h3⟩ := h3
    have := cmpI_lt k xs ys (by simpa using h1) (by simpa using h2) h3 (by simpa using h4)
    simp [cmpI, this]
theorem cmpI_gt : ∀ (k : Nat) (a b : List Int), k < a.length → a.length = b.length → a.take k = b.take k → b.getD k 0 < a.getD k 0 → cmpI a b = 1
  | 0, [], _, h, _, _, _ => by simp at h
  | 0, a :: xs, b :: ys, _, _, _, h => by simp at h; simp [cmpI, h]; omega
  | 0, _ :: _, [], _, h, _, _ => by simp at h
  | k + 1, [], _, h, _, _, _ => by simp at h
  | k + 1, _ :: _, [], _, h, _, _ => by simp at h
  | k + 1, a :: xs, b :: ys, h1, h2, h3, h4 => by
    simp only [List.take_succ_cons, List.cons.injEq] at h3
    obtain ⟨rfl, h3⟩ := h3
    have := cmpI_gt k xs ys (by simpa using h1) (by simpa using h2) h3 (by simpa using h4)
    simp [cmpI, this]
theorem cmpI_self : ∀ (a : List Int), cmpI a a = 0
  | [] => rfl
  | a :: xs => by simp [cmpI, cmpI_self xs]
theorem cmpI_zero : ∀ (a b : List Int), a.length = b.length → (cmpI a b = 0 ↔ a = b)
  | [], [], _ => by simp [cmpI]
  | [], _ :: _, h => by simp at h
  | _ :: _, [], h => by simp at h
  | a :: xs, b :: ys, h => by
    have ih := cmpI_zero xs ys (by simpa using h)
    unfold cmpI
    by_cases h1 : a < b
    · simp [h1]; intro e; omega
    · by_cases h2 : b < a
      · simp [h1, h2]; intro e; omega
      · have : a = b := by omega
        subst this
        simp [h1, ih]
theorem cmpI_neg : ∀ (a b : List Int), a.length = b.length → cmpI b a = - cmpI a b
  | [], [], _ => by simp [cmpI]
  | [], _ :: _, h => by simp at h
  | _ :: _, [], h => by simp at h
  | a :: xs, b :: ys, h => by
    have ih := cmpI_neg xs ys (by simpa using h)
    unfold cmpI
    by_cases h1 : a < b
    · have : ¬ b < a := by omega
      simp [h1, this]
    · by_cases h2 : b < a
      · simp [h1, h2]
      · simp [h1, h2, ih]
theorem cmpI_cases (a b : List Int) : cmpI a b = -1 ∨ cmpI a b = 0 ∨ cmpI a b = 1 := by
  fun_induction cmpI a b <;> simp_all
theorem cmpI_trans : ∀ (a b c : List Int), a.length = b.length → b.length = c.length → cmpI a b ≤ 0 → cmpI b c ≤ 0 → cmpI a c ≤ 0
  | [], [], [], _, _, _, _ => by simp [cmpI]
  | [], [], _ :: _, _, h, _, _ => by simp at h
  | [], _ :: _, _, h, _, _, _ => by simp at h
  | _ :: _, [], _, h, _, _, _ => by simp at h
  | _ :: _, _ :: _, [], _, h, _, _ => by simp at h
  | a :: xs, b :: ys, c :: zs, h1, h2, h3, h4 => by
    have ih := cmpI_trans xs ys zs (by simpa using h1) (by simpa using h2)
    unfold cmpI at h3 h4 ⊢
    by_cases p1 : a < b
    · by_cases p2 : b < c
      · simp [show a < c by omega]
      · by_cases p3 : c < b
        · simp [p2, p3] at h4
        · have : b = c := by omega
          subst this
          simp [p1]
    · by_cases p1' : b < a
      · simp [p1, p1'] at h3
      · have : a = b := by omega
        subst this
        simp only [p1, if_false] at h3
        by_cases p2 : a < c
        · simp [p2]
        · by_cases p3 : c < a
          · simp [p2, p3] at h4
          · simp only [p2, p3, if_false] at h4 ⊢
            exact ih h3 h4

theorem ref_compareRoots {a b : List Int} (ha : Fit .u8 a) (hb : Fit .u8 b) (la : a.length = 32) (lb : b.length = 32) (w : World) :
    Calls Try.prog 10 #[.agg (ints .u8 a).toArray, .agg (ints .u8 b).toArray] w fun e w' => e = .returned (.int .i64 (cmpI a b)) ∧ Below w.heap.size w w' := by
  obtain ⟨W, hW⟩ : ∃ W, W = (w.alloc (.cells (ints .u8 a).toArray 23)).alloc (.cells (ints .u8 b).toArray 23) := ⟨_, rfl⟩
  have hx : ∀ n k : Nat, ∀ hk : k < a.length, (W.drewN n).cell? ⟨w.heap.size, k, none⟩ = some (.int .u8 a[k]) := by
    intro n k hk
    subst hW
    have h1 := new_cells w (ints .u8 a) 23 k (.int .u8 a[k]) (by rw [ints, List.getElem?_map, List.getElem?_eq_getElem hk]; rfl)
    have hadd : (⟨w.heap.size, 0, none⟩ : Addr).add k = ⟨w.heap.size, k, none⟩ := by unfold Addr.add; split <;> simp_all
    rw [hadd] at h1
    exact (World.cell?_alloc_lt _ _ _ (by simp)).trans h1
  have hy : ∀ n k : Nat, ∀ hk : k < b.length, (W.drewN n).cell? ⟨w.heap.size + 1, k, none⟩ = some (.int .u8 b[k]) := by
    intro n k hk
    subst hW
    have h1 := new_cells (w.alloc (.cells (ints .u8 a).toArray 23)) (ints .u8 b) 23 k (.int .u8 b[k]) (by rw [ints, List.getElem?_map, List.getElem?_eq_getElem hk]; rfl)
    have hadd : (⟨w.heap.size + 1, 0, none⟩ : Addr).add k = ⟨w.heap.size + 1, k, none⟩ := by unfold Addr.add; split <;> simp_all
    simp only [World.size_alloc, hadd] at h1
    exact h1
  have HX := Lib.hid hx
  have HY := Lib.hid hy
  have HW := Lib.hid hW
  have hbel : Hid (∀ n, Below w.heap.size w (W.drewN n)) := fun n => below_dN (by subst hW; exact ((Below.refl _ _).alloc (Nat.le_refl _) _).alloc (by simp) _) n
  clear hx hy
  go_enter Try.func10, Try.ntmps10
  go_wp2
  go_loopw [5] (fun i wr => ∃ k m : Nat, k ≤ 32 ∧ i = .int .i64 k ∧ wr = W.drewN m ∧ a.take k = b.take k) (fun i _ => 32 - (intOf i).toNat)
  case atStart => exact ⟨0, 0, by omega, rfl, by rw [HW.out]; rfl, rfl⟩
  case round =>
    obtain ⟨k, m, hk, rfl, rfl, hkk⟩ := hrel
    have HK := Lib.hid hkk
    clear hkk
    by_cases hlt : k < 32
    · have h1 : ∀ n, (W.drewN n).cell? ⟨w.heap.size, k, none⟩ = some (.int .u8 (a.getD k 0)) := fun n => by rw [getD_get a k (by omega)]; exact HX.out n k (by omega)
      have h2 : ∀ n, (W.drewN n).cell? ⟨w.heap.size + 1, k, none⟩ = some (.int .u8 (b.getD k 0)) := fun n => by rw [getD_get b k (by omega)]; exact HY.out n k (by omega)
      have g1 : Hid (a.getD k 0 < b.getD k 0 → cmpI a b = -1) := fun h => cmpI_lt k a b (by omega) (by omega) HK.out h
      have g2 : Hid (b.getD k 0 < a.getD k 0 → cmpI a b = 1) := fun h => cmpI_gt k a b (by omega) (by omega) HK.out h
      have g3 : Hid (a.getD k 0 = b.getD k 0 → a.take (k + 1) = b.take (k + 1)) := fun h => by
        rw [List.take_succ_eq_append_getElem (by omega), List.take_succ_eq_append_getElem (by omega), HK.out, ← getD_get a k (by omega), ← getD_get b k (by omega), h]
      clear hW la lb
      generalize a.getD k 0 = x at *
      generalize b.getD k 0 = y at *
      by_cases c1 : x < y
      · go_wp2
        go_quiet (fail)
        go_wp2
        go_ret
        exact ⟨by rw [g1.out c1]; rfl, by repeat (first | exact hbel.out _ | apply below_dN)⟩
      · by_cases c2 : y < x
        · go_wp2
          go_quiet (fail)
          go_wp2
          go_quiet (fail)
          go_wp2
          go_ret
          exact ⟨by rw [g2.out c2]; rfl, by repeat (first | exact hbel.out _ | apply below_dN)⟩
        · have c3 := g3.out (by omega)
          have H3 := Lib.hid c3
          clear c3
          go_wp2
          go_quiet (fail)
          go_wp2
          go_quiet (fail)
          go_wp2
          go_roundw
          case rel => exact ⟨k + 1, _, by omega, by go_num, by first | rfl | (simp only [World.drewN_drewN]; rfl), H3.out⟩
          case measure => simp [intOf]; omega
    · have hkk : k = 32 := by omega
      subst hkk
      have e : a = b := by have := HK.out; rwa [List.take_of_length_le (by omega), List.take_of_length_le (by omega)] at this
      have h0 := Lib.hid ((cmpI_zero a b (by omega)).2 e)
      clear e hW la lb
      go_wp2
      go_ret
      exact ⟨by rw [h0.out]; rfl, hbel.out _⟩

/-- zero, as a root -/
def zroot : List Int := List.replicate 32 0
theorem eqRoot : EqT Try.prog 2 23 (List.replicate 32 [Value.int .u8 0]).flatten :=
  EqT.array (EqT.int Try.underlying5 (by kernel_rfl)) Try.underlying23 (by kernel_rfl) (info_of_underlying Try.underlying5)
theorem fits_root {l : List Int} (h : l.length = 32) : Fits (List.replicate 32 [Value.int .u8 0]).flatten (ints .u8 l) := Fits.ints h
theorem root_same {a b : List Int} (la : a.length = 32) (lb : b.length = 32) (w : World) :
    (Op.equalIn 10000 23 (.agg (ints .u8 a).toArray) (.agg (ints .u8 b).toArray)).run Try.prog w = .ok (decide (a = b)) w :=
  eqRoot.same (by omega) (agg_of_array Try.underlying23) (size_of_underlying Try.underlying23) (fits_root la) (fits_root lb) (by simp [ints, la]) (by simp [ints, lb]) (by simp [ints_inj]) w
theorem zroot_lit : #[Value.int .u8 0, Value.int .u8 0, Value.int .u8 0, Value.int .u8 0, Value.int .u8 0, Value.int .u8 0, Value.int .u8 0, Value.int .u8 0, Value.int .u8 0, Value.int .u8 0, Value.int .u8 0, Value.int .u8 0, Value.int .u8 0, Value.int .u8 0, Value.int .u8 0, Value.int .u8 0, Value.int .u8 0, Value.int .u8 0, Value.int .u8 0, Value.int .u8 0, Value.int .u8 0, Value.int .u8 0, Value.int .u8 0, Value.int .u8 0, Value.int .u8 0, Value.int .u8 0, Value.int .u8 0, Value.int .u8 0, Value.int .u8 0, Value.int .u8 0, Value.int .u8 0, Value.int .u8 0] = (ints .u8 zroot).toArray := rfl
theorem isZero_any {a : List Int} (la : a.length = 32) (w : World) :
    Calls Try.prog 11 #[.agg (ints .u8 a).toArray] w fun e w' => e = .returned (.bool (decide (a = zroot))) ∧ Below w.heap.size w w' := by
  have he := fun w => root_same la (b := zroot) (by rfl) w
  have hz := zroot_lit
  have hsz : (Try.prog.info? 23).map (·.size) = some (ints .u8 a).toArray.size := by rw [List.size_toArray, ints, List.length_map, la]; kernel_rfl
  have HS := Lib.hid hsz
  have HA := Lib.hid la
  clear hsz la
  go_enter Try.func11, Try.ntmps11
  go_wp2_with (refine wpList_load_row rfl 23 _ rfl _ rfl 23 _ (0, 0) _ (heap_alloc_new _ _) Try.underlying23 rfl HS.out ?_)
  go_ret
  exact ⟨rfl, (Below.refl _ _).alloc (Nat.le_refl _) _⟩
end Go.Proofs.Ythfiiikanpagiaa
