/- Contracts of the functions of roots and of their references. -/
import Derived.Test.YtekikfdlnkcenaaRows
import Derived.Test.YtekikfdlnkcenaaCore
import Derived.Test.YtekikfdlnkcenaaRootEq
import Derived.WalkLawsBesides
import Derived.Outline
import Derived.Handy
import Derived.Lib.BytesEntry
import Derived.Lib.Bytealg
import Derived.Laws.Externs
import Derived.Deep.QuietTactic
import Derived.BigQuiet
import Derived.Lib.SlBytesConst
import Derived.Laws.BytesArg
import Derived.StillTailTactics
import Derived.RegionTactic
import Derived.Deep.RegionLaw
import Derived.Deep.AppendLies
import Derived.Deep.RegionHeld3
import Derived.Lib.ConvBytes
namespace Go.Proofs.Ytekikfdlnkcenaa.Rr
open Go.RowKit
/-- bytewise order of two lists of one length -/
def cmpI : List Int → List Int → Int
  | a :: xs, b :: ys => if a < b then -1 else if b < a then 1 else cmpI xs ys
  | _, _ => 0

theorem fit_u8 {l : List Int} (h : Fit .u8 l) : ∀ x ∈ l, 0 ≤ x ∧ x < 256 := fun x hx => by
  have := bounds_u8 (h x hx); omega

theorem byte_lt {a b : Int} (ha : 0 ≤ a ∧ a < 256) (hb : 0 ≤ b ∧ b < 256) : UInt8.ofNat a.toNat < UInt8.ofNat b.toNat ↔ a < b := by
  rw [UInt8.lt_iff_toNat_lt, UInt8.toNat_ofNat', UInt8.toNat_ofNat']
  omega

theorem compareBytes_eq : ∀ (a b : List Int), (∀ x ∈ a, 0 ≤ x ∧ x < 256) → (∀ x ∈ b, 0 ≤ x ∧ x < 256) → a.length = b.length → Lib.compareBytes (Lib.bytesOf a) (Lib.bytesOf b) = cmpI a b
  | [], [], _, _, _ => rfl
  | [], _ :: _, _, _, h => by simp at h
  | _ :: _, [], _, _, h => by simp at h
  | a :: xs, b :: ys, ha, hb, h => by
    have ih := compareBytes_eq xs ys (fun x hx => ha x (by simp [hx])) (fun x hx => hb x (by simp [hx])) (by simpa using h)
    have h1 := byte_lt (ha a (by simp)) (hb b (by simp))
    have h2 := byte_lt (hb b (by simp)) (ha a (by simp))
    simp only [Lib.bytesOf, List.map_cons, Lib.compareBytes, cmpI] at ih ⊢
    simp only [h1, h2, ih]

theorem run_bcompare {a b : List Int} {x y : Addr} {n c d : Nat} {w : World} (ha : Fit .u8 a) (hb : Fit .u8 b) (la : a.length = n) (lb : b.length = n)
    (hx : ∀ j u, (ints .u8 a)[j]? = some u → w.cell? (x.add j) = some u) (hy : ∀ j u, (ints .u8 b)[j]? = some u → w.cell? (y.add j) = some u) :
    (callFunc 87 #[.slice (some x) n c, .slice (some y) n d]).run Try.prog w = .ok (.value (.int .i64 (cmpI a b))) w := by
  rw [run_callFunc_extern Try.func87 (by kernel_rfl) (by kernel_rfl) (by kernel_rfl) (e := Extern.BytealgCompare.compare) (by kernel_rfl)]
  have l1 := Lib.run_loadBytesX (P := Try.prog) w a x .empty (fun j v hj => hx j _ (by rw [ints, List.getElem?_map, hj]; rfl))
  have l2 := Lib.run_loadBytesX (P := Try.prog) w b y .empty (fun j v hj => hy j _ (by rw [ints, List.getElem?_map, hj]; rfl))
  rw [la] at l1
  rw [lb] at l2
  change Result.andThen (Sem.run Try.prog (do pure (goInt (Extern.BytealgCompare.cmp (← Extern.Bytes.bytesOf (.slice (some x) n c)) (← Extern.Bytes.bytesOf (.slice (some y) n d))))) w) _ = _
  simp only [Extern.Bytes.bytesOf, Sem.run_bind, l1, l2, Sem.run_pure, Result.andThen]
  rw [Lib.cmp_eq]
  have e1 : ∀ l : List Int, (ByteArray.empty.data ++ (Lib.bytesOf l).toArray).toList = Lib.bytesOf l := fun l => by simp
  rw [e1, e1, compareBytes_eq a b (fit_u8 ha) (fit_u8 hb) (by omega)]
  rfl

theorem bytes_compare {a b : List Int} {x y : Addr} {n c d : Nat} {w : World} (ha : Fit .u8 a) (hb : Fit .u8 b) (la : a.length = n) (lb : b.length = n)
    (hx : ∀ j u, (ints .u8 a)[j]? = some u → w.cell? (x.add j) = some u) (hy : ∀ j u, (ints .u8 b)[j]? = some u → w.cell? (y.add j) = some u) :
    Calls Try.prog 52 #[.slice (some x) n c, .slice (some y) n d] w fun e w' => e = .returned (.int .i64 (cmpI a b)) ∧ w = w' := by
  have hr := run_bcompare (c := c) (d := d) ha hb la lb hx hy
  clear hx hy la lb
  go_enter Try.func52, Try.ntmps52
  go_wp2
  go_ret
  exact ⟨rfl, rfl⟩

theorem compare_any {a b : List Int} (ha : Fit .u8 a) (hb : Fit .u8 b) (la : a.length = 32) (lb : b.length = 32) (w : World) :
    Calls Try.prog 18 #[.agg (ints .u8 a).toArray, .agg (ints .u8 b).toArray] w fun e w' => e = .returned (.int .i64 (cmpI a b)) ∧ Below w.heap.size w w' := by
  have hx : ∀ n : Nat, ∀ j u, (ints .u8 a)[j]? = some u → (((w.alloc (.cells (ints .u8 a).toArray 33)).alloc (.cells (ints .u8 b).toArray 33)).drewN n).cell? ((⟨w.heap.size, 0, none⟩ : Addr).add j) = some u := by
    intro n j u hu
    exact (World.cell?_alloc_lt _ _ _ (by rw [add_block]; simp)).trans (new_cells w _ _ j u hu)
  have hy : ∀ n : Nat, ∀ j u, (ints .u8 b)[j]? = some u → (((w.alloc (.cells (ints .u8 a).toArray 33)).alloc (.cells (ints .u8 b).toArray 33)).drewN n).cell? ((⟨w.heap.size + 1, 0, none⟩ : Addr).add j) = some u := by
    intro n j u hu
    have := new_cells (w.alloc (.cells (ints .u8 a).toArray 33)) (ints .u8 b) 33 j u hu
    simpa using this
  have HC := Lib.hid (fun n => bytes_compare (c := 32) (d := 32) ha hb la lb (hx n) (hy n))
  clear hx hy la lb
  go_enter Try.func18, Try.ntmps18
  go_wp2
  go_quiet ((go_at_call 52; exact quietL (HC.out _)))
  go_wp2
  go_ret
  exact ⟨rfl, below_dN (((Below.refl _ _).alloc (Nat.le_refl _) _).alloc (by simp) _) _⟩

theorem getD_get (l : List Int) (k : Nat) (h : k < l.length) : l.getD k 0 = l[k] := by simp [List.getD_eq_getElem?_getD, List.getElem?_eq_getElem h]

/-- two lists that agree up to k, and what comes then -/
theorem cmpI_lt : ∀ (k : Nat) (a b : List Int), k < a.length → a.length = b.length → a.take k = b.take k → a.getD k 0 < b.getD k 0 → cmpI a b = -1
  | 0, [], _, h, _, _, _ => by simp at h
  | 0, a :: xs, b :: ys, _, _, _, h => by simp at h; simp [cmpI, h]
  | 0, _ :: _, [], _, h, _, _ => by simp at h
  | k + 1, [], _, h, _, _, _ => by simp at h
  | k + 1, _ :: _, [], _, h, _, _ => by simp at h
  | k + 1, a :: xs, b :: ys, h1, h2, h3, h4 => by
    simp only [List.take_succ_cons, List.cons.injEq] at h3
    obtain ⟨rfl, h3⟩ := h3
    have := cmpI_lt k xs ys (by simpa using h1) (by simpa using h2) h3 (by simpa using h4)
    simp [cmpI, this]
theorem cmpI_gt : ∀ (k : Nat) (a b : List Int), k < a.length → a.length = b.length → a.take k = b.take k → b.getD k 0 < a.getD k 0 → cmpI a b = 1
  | 0, [], _, h, _, _, _ => by simp at h
  | 0, a :: xs, b :: ys, _, _, _, h => by simp at h; simp [cmpI, h]; omega
  | 0, _ :: _, [], _, h, _, _ => by simp at h
  | k + 1, [], _, h, _, _, _ => by simp at h
  | k + 1, _ :: _, [], _, h, _, _ => by simp at h
  | k + 1, a :: xs, b :: ys, h1, h2, h3, h4 => by
    simp only [List.take_succ_cons, List.cons.injEq] at h3
    obtain ⟨rfl, h3⟩ := h3
    have := cmpI_gt k xs ys (by simpa using h1) (by simpa using h2) h3 (by simpa using h4)
    simp [cmpI, this]
theorem cmpI_self : ∀ (a : List Int), cmpI a a = 0
  | [] => rfl
  | a :: xs => by simp [cmpI, cmpI_self xs]
theorem cmpI_zero : ∀ (a b : List Int), a.length = b.length → (cmpI a b = 0 ↔ a = b)
  | [], [], _ => by simp [cmpI]
  | [], _ :: _, h => by simp at h
  | _ :: _, [], h => by simp at h
  | a :: xs, b :: ys, h => by
    have ih := cmpI_zero xs ys (by simpa using h)
    unfold cmpI
    by_cases h1 : a < b
    · simp [h1]; intro e; omega
    · by_cases h2 : b < a
      · simp [h1, h2]; intro e; omega
      · have : a = b := by omega
        subst this
        simp [h1, ih]
theorem cmpI_neg : ∀ (a b : List Int), a.length = b.length → cmpI b a = - cmpI a b
  | [], [], _ => by simp [cmpI]
  | [], _ :: _, h => by simp at h
  | _ :: _, [], h => by simp at h
  | a :: xs, b :: ys, h => by
    have ih := cmpI_neg xs ys (by simpa using h)
    unfold cmpI
    by_cases h1 : a < b
    · have : ¬ b < a := by omega
      simp [h1, this]
    · by_cases h2 : b < a
      · simp [h1, h2]
      · simp [h1, h2, ih]
theorem cmpI_cases (a b : List Int) : cmpI a b = -1 ∨ cmpI a b = 0 ∨ cmpI a b = 1 := by
  fun_induction cmpI a b <;> simp_all
theorem cmpI_trans : ∀ (a b c : List Int), a.length = b.length → b.length = c.length → cmpI a b ≤ 0 → cmpI b c ≤ 0 → cmpI a c ≤ 0
  | [], [], [], _, _, _, _ => by simp [cmpI]
  | [], [], _ :: _, _, h, _, _ => by simp at h
  | [], _ :: _, _, h, _, _, _ => by simp at h
  | _ :: _, [], _, h, _, _, _ => by simp at h
  | _ :: _, _ :: _, [], _, h, _, _ => by simp at h
  | a :: xs, b :: ys, c :: zs, h1, h2, h3, h4 => by
    have ih := cmpI_trans xs ys zs (by simpa using h1) (by simpa using h2)
    unfold cmpI at h3 h4 ⊢
    by_cases p1 : a < b
    · by_cases p2 : b < c
      · simp [show a < c by omega]
      · by_cases p3 : c < b
        · simp [p2, p3] at h4
        · have : b = c := by omega
          subst this
          simp [p1]
    · by_cases p1' : b < a
      · simp [p1, p1'] at h3
      · have : a = b := by omega
        subst this
        simp only [p1, if_false] at h3
        by_cases p2 : a < c
        · simp [p2]
        · by_cases p3 : c < a
          · simp [p2, p3] at h4
          · simp only [p2, p3, if_false] at h4 ⊢
            exact ih h3 h4

theorem ref_compareRoots {a b : List Int} (ha : Fit .u8 a) (hb : Fit .u8 b) (la : a.length = 32) (lb : b.length = 32) (w : World) :
    Calls Try.prog 54 #[.agg (ints .u8 a).toArray, .agg (ints .u8 b).toArray] w fun e w' => e = .returned (.int .i64 (cmpI a b)) ∧ Below w.heap.size w w' := by
  obtain ⟨W, hW⟩ : ∃ W, W = (w.alloc (.cells (ints .u8 a).toArray 33)).alloc (.cells (ints .u8 b).toArray 33) := ⟨_, rfl⟩
  have hx : ∀ n k : Nat, ∀ hk : k < a.length, (W.drewN n).cell? ⟨w.heap.size, k, none⟩ = some (.int .u8 a[k]) := by
    intro n k hk
    subst hW
    have h1 := new_cells w (ints .u8 a) 33 k (.int .u8 a[k]) (by rw [ints, List.getElem?_map, List.getElem?_eq_getElem hk]; rfl)
    have hadd : (⟨w.heap.size, 0, none⟩ : Addr).add k = ⟨w.heap.size, k, none⟩ := by unfold Addr.add; split <;> simp_all
    rw [hadd] at h1
    exact (World.cell?_alloc_lt _ _ _ (by simp)).trans h1
  have hy : ∀ n k : Nat, ∀ hk : k < b.length, (W.drewN n).cell? ⟨w.heap.size + 1, k, none⟩ = some (.int .u8 b[k]) := by
    intro n k hk
    subst hW
    have h1 := new_cells (w.alloc (.cells (ints .u8 a).toArray 33)) (ints .u8 b) 33 k (.int .u8 b[k]) (by rw [ints, List.getElem?_map, List.getElem?_eq_getElem hk]; rfl)
    have hadd : (⟨w.heap.size + 1, 0, none⟩ : Addr).add k = ⟨w.heap.size + 1, k, none⟩ := by unfold Addr.add; split <;> simp_all
    simp only [World.size_alloc, hadd] at h1
    exact h1
  have HX := Lib.hid hx
  have HY := Lib.hid hy
  have HW := Lib.hid hW
  have hbel : Hid (∀ n, Below w.heap.size w (W.drewN n)) := fun n => below_dN (by subst hW; exact ((Below.refl _ _).alloc (Nat.le_refl _) _).alloc (by simp) _) n
  clear hx hy
  go_enter Try.func54, Try.ntmps54
  go_wp2
  go_loopw [5] (fun i wr => ∃ k m : Nat, k ≤ 32 ∧ i = .int .i64 k ∧ wr = W.drewN m ∧ a.take k = b.take k) (fun i _ => 32 - (intOf i).toNat)
  case atStart => exact ⟨0, 0, by omega, rfl, by rw [HW.out]; rfl, rfl⟩
  case round =>
    obtain ⟨k, m, hk, rfl, rfl, hkk⟩ := hrel
    have HK := Lib.hid hkk
    clear hkk
    by_cases hlt : k < 32
    · have h1 : ∀ n, (W.drewN n).cell? ⟨w.heap.size, k, none⟩ = some (.int .u8 (a.getD k 0)) := fun n => by rw [getD_get a k (by omega)]; exact HX.out n k (by omega)
      have h2 : ∀ n, (W.drewN n).cell? ⟨w.heap.size + 1, k, none⟩ = some (.int .u8 (b.getD k 0)) := fun n => by rw [getD_get b k (by omega)]; exact HY.out n k (by omega)
      have g1 : Hid (a.getD k 0 < b.getD k 0 → cmpI a b = -1) := fun h => cmpI_lt k a b (by omega) (by omega) HK.out h
      have g2 : Hid (b.getD k 0 < a.getD k 0 → cmpI a b = 1) := fun h => cmpI_gt k a b (by omega) (by omega) HK.out h
      have g3 : Hid (a.getD k 0 = b.getD k 0 → a.take (k + 1) = b.take (k + 1)) := fun h => by
        rw [List.take_succ_eq_append_getElem (by omega), List.take_succ_eq_append_getElem (by omega), HK.out, ← getD_get a k (by omega), ← getD_get b k (by omega), h]
      clear hW la lb
      generalize a.getD k 0 = x at *
      generalize b.getD k 0 = y at *
      by_cases c1 : x < y
      · go_wp2
        go_quiet (fail)
        go_wp2
        go_ret
        exact ⟨by rw [g1.out c1]; rfl, by repeat (first | exact hbel.out _ | apply below_dN)⟩
      · by_cases c2 : y < x
        · go_wp2
          go_quiet (fail)
          go_wp2
          go_quiet (fail)
          go_wp2
          go_ret
          exact ⟨by rw [g2.out c2]; rfl, by repeat (first | exact hbel.out _ | apply below_dN)⟩
        · have c3 := g3.out (by omega)
          have H3 := Lib.hid c3
          clear c3
          go_wp2
          go_quiet (fail)
          go_wp2
          go_quiet (fail)
          go_wp2
          go_roundw
          case rel => exact ⟨k + 1, _, by omega, by go_num, by first | rfl | (simp only [World.drewN_drewN]; rfl), H3.out⟩
          case measure => simp [intOf]; omega
    · have hkk : k = 32 := by omega
      subst hkk
      have e : a = b := by have := HK.out; rwa [List.take_of_length_le (by omega), List.take_of_length_le (by omega)] at this
      have h0 := Lib.hid ((cmpI_zero a b (by omega)).2 e)
      clear e hW la lb
      go_wp2
      go_ret
      exact ⟨by rw [h0.out]; rfl, hbel.out _⟩

theorem isZero_any {a : List Int} (la : a.length = 32) (w : World) :
    Calls Try.prog 48 #[.agg (ints .u8 a).toArray] w fun e w' => e = .returned (.bool (decide (a = zroot))) ∧ Below w.heap.size w w' := by
  have he := fun w => root_same la (b := zroot) (by rfl) w
  have hz := zroot_lit
  have hsz : (Try.prog.info? 33).map (·.size) = some (ints .u8 a).toArray.size := by rw [List.size_toArray, ints, List.length_map, la]; kernel_rfl
  have HS := Lib.hid hsz
  have HA := Lib.hid la
  clear hsz la
  go_enter Try.func48, Try.ntmps48
  go_wp2_with (refine wpList_load_row rfl 33 _ rfl _ rfl 33 _ (0, 0) _ (heap_alloc_new _ _) Try.underlying33 rfl HS.out ?_)
  go_ret
  exact ⟨rfl, (Below.refl _ _).alloc (Nat.le_refl _) _⟩
set_option maxRecDepth 20000
theorem info_u8 : (Try.prog.info? 5).map (fun i => (i.zero, i.size, i.bytes)) = some (some (.int .u8 0), 1, 1) := by kernel_rfl

/-- a hexadecimal digit -/
def hexC (x : Int) : Int := if x < 10 then 48 + x else 87 + x
/-- the text of a root, as numbers -/
def fmtL (l : List Int) : List Int := 48 :: 120 :: l.flatMap fun x => [hexC (x / 16), hexC (x % 16)]

theorem hexIdx0 (w : World) : (Instr.index 9 (.string { data := #[48, 49, 50, 51, 52, 53, 54, 55, 56, 57, 97, 98, 99, 100, 101, 102] }) (.int .u8 0)).run Try.prog w = .ok (.int .u8 48) w := by kernel_rfl
theorem hexIdx1 (w : World) : (Instr.index 9 (.string { data := #[48, 49, 50, 51, 52, 53, 54, 55, 56, 57, 97, 98, 99, 100, 101, 102] }) (.int .u8 1)).run Try.prog w = .ok (.int .u8 49) w := by kernel_rfl
theorem hexIdx2 (w : World) : (Instr.index 9 (.string { data := #[48, 49, 50, 51, 52, 53, 54, 55, 56, 57, 97, 98, 99, 100, 101, 102] }) (.int .u8 2)).run Try.prog w = .ok (.int .u8 50) w := by kernel_rfl
theorem hexIdx3 (w : World) : (Instr.index 9 (.string { data := #[48, 49, 50, 51, 52, 53, 54, 55, 56, 57, 97, 98, 99, 100, 101, 102] }) (.int .u8 3)).run Try.prog w = .ok (.int .u8 51) w := by kernel_rfl
theorem hexIdx4 (w : World) : (Instr.index 9 (.string { data := #[48, 49, 50, 51, 52, 53, 54, 55, 56, 57, 97, 98, 99, 100, 101, 102] }) (.int .u8 4)).run Try.prog w = .ok (.int .u8 52) w := by kernel_rfl
theorem hexIdx5 (w : World) : (Instr.index 9 (.string { data := #[48, 49, 50, 51, 52, 53, 54, 55, 56, 57, 97, 98, 99, 100, 101, 102] }) (.int .u8 5)).run Try.prog w = .ok (.int .u8 53) w := by kernel_rfl
theorem hexIdx6 (w : World) : (Instr.index 9 (.string { data := #[48, 49, 50, 51, 52, 53, 54, 55, 56, 57, 97, 98, 99, 100, 101, 102] }) (.int .u8 6)).run Try.prog w = .ok (.int .u8 54) w := by kernel_rfl
theorem hexIdx7 (w : World) : (Instr.index 9 (.string { data := #[48, 49, 50, 51, 52, 53, 54, 55, 56, 57, 97, 98, 99, 100, 101, 102] }) (.int .u8 7)).run Try.prog w = .ok (.int .u8 55) w := by kernel_rfl
theorem hexIdx8 (w : World) : (Instr.index 9 (.string { data := #[48, 49, 50, 51, 52, 53, 54, 55, 56, 57, 97, 98, 99, 100, 101, 102] }) (.int .u8 8)).run Try.prog w = .ok (.int .u8 56) w := by kernel_rfl
theorem hexIdx9 (w : World) : (Instr.index 9 (.string { data := #[48, 49, 50, 51, 52, 53, 54, 55, 56, 57, 97, 98, 99, 100, 101, 102] }) (.int .u8 9)).run Try.prog w = .ok (.int .u8 57) w := by kernel_rfl
theorem hexIdx10 (w : World) : (Instr.index 9 (.string { data := #[48, 49, 50, 51, 52, 53, 54, 55, 56, 57, 97, 98, 99, 100, 101, 102] }) (.int .u8 10)).run Try.prog w = .ok (.int .u8 97) w := by kernel_rfl
theorem hexIdx11 (w : World) : (Instr.index 9 (.string { data := #[48, 49, 50, 51, 52, 53, 54, 55, 56, 57, 97, 98, 99, 100, 101, 102] }) (.int .u8 11)).run Try.prog w = .ok (.int .u8 98) w := by kernel_rfl
theorem hexIdx12 (w : World) : (Instr.index 9 (.string { data := #[48, 49, 50, 51, 52, 53, 54, 55, 56, 57, 97, 98, 99, 100, 101, 102] }) (.int .u8 12)).run Try.prog w = .ok (.int .u8 99) w := by kernel_rfl
theorem hexIdx13 (w : World) : (Instr.index 9 (.string { data := #[48, 49, 50, 51, 52, 53, 54, 55, 56, 57, 97, 98, 99, 100, 101, 102] }) (.int .u8 13)).run Try.prog w = .ok (.int .u8 100) w := by kernel_rfl
theorem hexIdx14 (w : World) : (Instr.index 9 (.string { data := #[48, 49, 50, 51, 52, 53, 54, 55, 56, 57, 97, 98, 99, 100, 101, 102] }) (.int .u8 14)).run Try.prog w = .ok (.int .u8 101) w := by kernel_rfl
theorem hexIdx15 (w : World) : (Instr.index 9 (.string { data := #[48, 49, 50, 51, 52, 53, 54, 55, 56, 57, 97, 98, 99, 100, 101, 102] }) (.int .u8 15)).run Try.prog w = .ok (.int .u8 102) w := by kernel_rfl
theorem hexIdx (q : Int) (h0 : 0 ≤ q) (h1 : q < 16) (w : World) :
    (Instr.index 9 (.string { data := #[48, 49, 50, 51, 52, 53, 54, 55, 56, 57, 97, 98, 99, 100, 101, 102] }) (.int .u8 q)).run Try.prog w = .ok (.int .u8 (hexC q)) w := by
  have : q = 0 ∨ q = 1 ∨ q = 2 ∨ q = 3 ∨ q = 4 ∨ q = 5 ∨ q = 6 ∨ q = 7 ∨ q = 8 ∨ q = 9 ∨ q = 10 ∨ q = 11 ∨ q = 12 ∨ q = 13 ∨ q = 14 ∨ q = 15 := by omega
  rcases this with rfl | rfl | rfl | rfl | rfl | rfl | rfl | rfl | rfl | rfl | rfl | rfl | rfl | rfl | rfl | rfl
  · exact hexIdx0 w
  · exact hexIdx1 w
  · exact hexIdx2 w
  · exact hexIdx3 w
  · exact hexIdx4 w
  · exact hexIdx5 w
  · exact hexIdx6 w
  · exact hexIdx7 w
  · exact hexIdx8 w
  · exact hexIdx9 w
  · exact hexIdx10 w
  · exact hexIdx11 w
  · exact hexIdx12 w
  · exact hexIdx13 w
  · exact hexIdx14 w
  · exact hexIdx15 w

theorem format_any {a : List Int} (ha : Fit .u8 a) (la : a.length = 32) (w : World) :
    Calls Try.prog 46 #[.agg (ints .u8 a).toArray] w fun e w' => e = .returned (.string (strOfNums (fmtL a))) ∧ Below w.heap.size w w' := by
  obtain ⟨i0, hi0, hz0, hz1, hz2⟩ := info_parts info_u8
  have kc : (convert 104 104 (.slice (some ⟨w.heap.size + 1, 0, none⟩) 2 2)).run Try.prog ((w.alloc (.cells (ints .u8 a).toArray 33)).alloc (.cells #[.int .u8 48, .int .u8 120] 5)) =
      .ok (.slice (some ⟨w.heap.size + 1, 0, none⟩) 2 2) ((w.alloc (.cells (ints .u8 a).toArray 33)).alloc (.cells #[.int .u8 48, .int .u8 120] 5 (2, 3))) := by
    have := Lib.run_convert_bytes_const (P := Try.prog) (w.alloc (.cells (ints .u8 a).toArray 33)) 104 5 #[.int .u8 48, .int .u8 120] 2 2 Try.underlying104 Try.underlying5
    simpa using this
  have HB := Lib.hid ((Has.new w (ints .u8 a) 33).alloc (.cells #[.int .u8 48, .int .u8 120] 5 (2, 3)))
  have HS : Hid (Try.prog.cellsOf 33 = (ints .u8 a).length) := by rw [ints, List.length_map, la]; exact (by kernel_rfl : Try.prog.cellsOf 33 = 32)
  have HA := Lib.hid la
  clear la
  go_enter Try.func46, Try.ntmps46
  go_wp2_with (refine wpList_loadB rfl 33 _ rfl _ _ rfl HB.out Try.underlying33 rfl HS.out ?_)
  go_loopw [3, 9] (fun v i wr => ∃ k : Nat, k ≤ 32 ∧ i = .int .i64 k ∧ Apd wr w.heap.size 5 1 v (2 + 2 * k) (ints .u8 (fmtL (a.take k))) ∧ Below w.heap.size w wr) (fun _ i _ => 32 - (intOf i).toNat)
  case atStart =>
    refine ⟨0, by omega, rfl, .inr ⟨w.heap.size + 1, 0, rfl, by simp, by simp [ints, fmtL], fun j u hu => ?_⟩, ((Below.refl _ _).alloc (Nat.le_refl _) _).alloc (by simp) _⟩
    rw [Nat.zero_add, cell_of_row _ _ _ #[.int .u8 48, .int .u8 120] 5 (2, 3) (by have := heap_alloc_new (w.alloc (.cells (ints .u8 a).toArray 33)) (.cells #[.int .u8 48, .int .u8 120] 5 (2, 3)); simpa using this)]
    simpa [ints, fmtL] using hu
  case round =>
    obtain ⟨k, hk, rfl, happ, hbel⟩ := hrel
    by_cases hlt : k < 32
    · have hx := fit_u8 ha (a.getD k 0) (by rw [getD_get a k (by rw [HA.out]; exact hlt)]; exact List.getElem_mem _)
      have hidx : ∀ w : World, (Instr.index 33 (.agg (ints .u8 a).toArray) (.int .i64 (k : Int))).run Try.prog w = .ok (.int .u8 (a.getD k 0)) w := run_index_ints Try.underlying33 Try.underlying5 (by kernel_rfl) HA.out k hlt
      have h1 := hexIdx (a.getD k 0 / 16) (by omega) (by omega)
      have h2 := hexIdx (a.getD k 0 % 16) (by omega) (by omega)
      have hlen : 2 + 2 * k + 2 ≤ 100 := by omega
      have hbase := hbel.size
      have hstep : Hid (ints .u8 (fmtL (a.take (k + 1))) = ints .u8 (fmtL (a.take k)) ++ [.int .u8 (hexC (a.getD k 0 / 16)), .int .u8 (hexC (a.getD k 0 % 16))]) := by
        show _ = _
        rw [List.take_succ_eq_append_getElem (by rw [HA.out]; exact hlt), ← getD_get a k (by rw [HA.out]; exact hlt)]
        simp [ints, fmtL, List.flatMap_append]
      generalize a.getD k 0 = x at *
      have hand : bits .and .u8 x 15 = x % 16 := by
        rw [u8_and x 15 hx.1 hx.2 (by omega) (by omega)]
        have : x.toNat &&& (15 : Int).toNat = x.toNat % 16 := Nat.and_two_pow_sub_one_eq_mod x.toNat 4
        rw [this]; omega
      have hs1 := Lib.hid hx
      go_wp2
      go_region_held3 (fun _ => True) (trivial)
        ((refine step_push (by rfl) _ _ 104 (by rfl) i0 _ 1 Try.underlying104 hi0 hz0 hz1 hz2 rfl (by omega) (by rfl) ((happ.alloc _).drew) ⟨wr.heap.size, 0, none⟩ 2 2 [.int .u8 (hexC (x / 16)), .int .u8 (hexC (x % 16))] (by rfl) (by omega) (by rfl) (fun j u hu => new_cells wr _ 5 j u hu) (by simp [Value.oneCell']) (by unfold maxLen; omega) (by omega) (by simp; omega) ?_; intro v' w' hown' hg' hbel' hat'))
      all_goals
        go_wp2
        go_roundw
        case rel => exact ⟨k + 1, by omega, by go_num, by rw [hstep.out, show 2 + 2 * (k + 1) = 2 + 2 * k + 2 by omega]; exact .inl hown', (hbel.trans (((Below.refl _ _).alloc hbase _).drew)).trans hbel'⟩
        case measure => simp [intOf]; omega
    · have hkk : k = 32 := by omega
      subst hkk
      have hfull : a.take 32 = a := List.take_of_length_le (by rw [HA.out]; exact Nat.le_refl _)
      rw [hfull] at happ
      obtain ⟨g, o, c, hv, hc⟩ := happ.slice (by omega)
      have hfl : (fmtL a).length = 66 := by
        have : (ints .u8 (fmtL a)).length = (2 + 2 * 32) * 1 := by
          rcases happ with h | ⟨_, _, _, _, h, _⟩
          · exact h.1
          · exact h
        simpa [ints] using this
      have hconv := run_convert_bytes_arg (P := Try.prog) wr 104 5 Try.underlying104 Try.underlying5 g o 66 c (fmtL a) hfl (fun i hi => hc i _ (by rw [ints, List.getElem?_map, List.getElem?_eq_getElem (by omega)]; simp [List.getD_eq_getElem?_getD, List.getElem?_eq_getElem (show i < (fmtL a).length by omega)])) 9 Try.underlying9
      clear hc happ hfull hfl
      go_wp2
      go_ret
      exact ⟨rfl, hbel⟩
set_option maxRecDepth 20000

/-- the value of a hexadecimal digit, -1 for another byte -/
def hexD (c : Int) : Int := if 48 ≤ c ∧ c ≤ 57 then c - 48 else if 97 ≤ c ∧ c ≤ 102 then c - 87 else -1
/-- the bytes of a string, as numbers -/
def numsOf (s : ByteArray) : List Int := s.data.toList.map fun b => (b.toNat : Int)
/-- the digits behind the prefix -/
def digs (s : ByteArray) : List Int := (numsOf s).drop 2
/-- the first k digits as half bytes of a root -/
def packL (d : List Int) (k : Nat) : List Int := (List.range 32).map fun j => if 2 * j + 1 < k then hexD (d.getD (2 * j) 0) * 16 + hexD (d.getD (2 * j + 1) 0) else if 2 * j < k then hexD (d.getD (2 * j) 0) else 0
def parseOk (s : ByteArray) : Prop := s.size = 66 ∧ ((s.extract 0 2).toList == [48, 120]) = true ∧ ∀ c ∈ digs s, 0 ≤ hexD c
open Classical in
noncomputable def parseV (s : ByteArray) : List Int := if parseOk s then packL (digs s) 64 else zroot
open Classical in
noncomputable def parseE (s : ByteArray) : Int := if parseOk s then 0 else 1

theorem hexD_le (c : Int) : hexD c ≤ 15 := by unfold hexD; split <;> (try split) <;> omega
theorem hexD_ge (c : Int) : -1 ≤ hexD c := by unfold hexD; split <;> (try split) <;> omega

def hexNums : List Int := [48, 49, 50, 51, 52, 53, 54, 55, 56, 57, 97, 98, 99, 100, 101, 102]
theorem hexD_index (c : Int) (h0 : 0 ≤ c) (h1 : c < 256) : Lib.indexByte (Lib.bytesOf hexNums) c.toNat.toUInt8 = hexD c := by
  obtain ⟨n, rfl⟩ := Int.eq_ofNat_of_zero_le h0
  have h : ∀ n : Fin 256, Lib.indexByte (Lib.bytesOf hexNums) ((n.val : Int).toNat.toUInt8) = hexD (n.val : Int) := by decide +kernel
  exact h ⟨n, by omega⟩

theorem indexByte_hex {g : Nat} {w : World} (hc : ∀ j u, (ints .u8 hexNums)[j]? = some u → w.cell? ⟨g, j, none⟩ = some u) (c : Int) (h0 : 0 ≤ c) (h1 : c < 256) :
    Calls Try.prog 83 #[.slice (some ⟨g, 0, none⟩) 16 16, .int .u8 c] w fun e w' => e = .returned (.int .i64 (hexD c)) ∧ w = w' := by
  have hr : (callFunc 110 #[.slice (some ⟨g, 0, none⟩) 16 16, .int .u8 c]).run Try.prog w = .ok (.value (.int .i64 (hexD c))) w := by
    rw [run_callFunc_extern Try.func110 (by kernel_rfl) (by kernel_rfl) (by kernel_rfl) (e := Extern.BytealgIndexByte.indexByte) (by kernel_rfl)]
    rw [Lib.run_indexByteSlice (P := Try.prog) w g 0 16 16 hexNums rfl (fun i hi => by
      rw [Nat.zero_add]
      exact hc i _ (by rw [ints, List.getElem?_map, List.getElem?_eq_getElem (show i < hexNums.length from hi)]; simp [List.getD_eq_getElem?_getD, List.getElem?_eq_getElem (show i < hexNums.length from hi)])) c, hexD_index c h0 h1]
    rfl
  clear hc
  go_enter Try.func83, Try.ntmps83
  go_wp2
  go_ret
  exact ⟨rfl, rfl⟩

theorem one_ints (k : IntKind) (l : List Int) : ∀ u ∈ ints k l, u.oneCell' = true := fun u hu => by
  obtain ⟨x, _, rfl⟩ := List.mem_map.1 hu; rfl

/-- no text of a root: the length -/
theorem parse_size {s : ByteArray} (hs : s.size ≤ 9223372036854775807) (h : s.size ≠ 66) (w : World) :
    Calls Try.prog 47 #[.string s] w fun e w' => e = .returned (.tuple #[.agg (ints .u8 zroot).toArray, .int .i64 1]) ∧ Below w.heap.size w w' := by
  have hz := zroot_lit
  have hne : ((s.size : Int) != 66) = true := by simp; omega
  have HR := Lib.hid ((Has.new w (ints .u8 zroot) 33).alloc (.cells (ints .u8 zroot).toArray 33))
  have hb0 : Hid (Below w.heap.size w ((w.alloc (.cells (ints .u8 zroot).toArray 33)).alloc (.cells (ints .u8 zroot).toArray 33))) := ((Below.refl _ _).alloc (Nat.le_refl _) _).alloc (by simp) _
  go_enter Try.func47, Try.ntmps47
  go_wp2_with ((with_reducible refine wpList_storeB rfl 33 _ _ rfl _ (ints .u8 zroot) _ ?_ ?_ HR.out ?_ Try.underlying33 ?_ (one_ints _ _) ?_); rfl; rfl; rfl; kernel_rfl; intro w1 hw1 hg1 hz1)
  exact bodyPost_ret (results_cell_tmp (by rfl) _ (by rfl) hw1 Try.underlying33 rfl (by kernel_rfl)) rfl ⟨rfl, hb0.out.grown hg1 (by simp; omega) (fun k hk => by cases hk; exact Nat.le_refl _)⟩

/-- no text of a root: the prefix -/
theorem parse_prefix {s : ByteArray} (h : s.size = 66) (hp : (!(s.extract 0 2).toList == [48, 120]) = true) (w : World) :
    Calls Try.prog 47 #[.string s] w fun e w' => e = .returned (.tuple #[.agg (ints .u8 zroot).toArray, .int .i64 1]) ∧ Below w.heap.size w w' := by
  have hz := zroot_lit
  have hne : ((s.size : Int) != 66) = false := by simp; omega
  have h1 : 2 ≤ s.size := by omega
  clear h
  have HR := Lib.hid ((Has.new w (ints .u8 zroot) 33).alloc (.cells (ints .u8 zroot).toArray 33))
  have hb0 : Hid (Below w.heap.size w ((w.alloc (.cells (ints .u8 zroot).toArray 33)).alloc (.cells (ints .u8 zroot).toArray 33))) := ((Below.refl _ _).alloc (Nat.le_refl _) _).alloc (by simp) _
  go_enter Try.func47, Try.ntmps47
  go_wp2_with ((with_reducible refine wpList_storeB rfl 33 _ _ rfl _ (ints .u8 zroot) _ ?_ ?_ HR.out ?_ Try.underlying33 ?_ (one_ints _ _) ?_); rfl; rfl; rfl; kernel_rfl; intro w1 hw1 hg1 hz1)
  exact bodyPost_ret (results_cell_tmp (by rfl) _ (by rfl) hw1 Try.underlying33 rfl (by kernel_rfl)) rfl ⟨rfl, hb0.out.grown hg1 (by simp; omega) (fun k hk => by cases hk; exact Nat.le_refl _)⟩

theorem digs_length {s : ByteArray} (h : s.size = 66) : (digs s).length = 64 := by
  have : s.data.toList.length = 66 := by rw [Array.length_toList]; exact h
  simp [digs, numsOf, this]
theorem digs_byte {s : ByteArray} {c : Int} (h : c ∈ digs s) : 0 ≤ c ∧ c < 256 := by
  have h := List.mem_of_mem_drop h
  obtain ⟨b, _, rfl⟩ := List.mem_map.1 h
  have := b.toNat_lt
  omega

/-- the conversion of the digits to bytes: new memory -/
theorem conv_digs {s : ByteArray} (h : s.size = 66) (W : World) : ∃ (W1 : World) (c1 : Nat), (convert 9 104 (.string (s.extract 2 s.size))).run Try.prog W = .ok (.slice (some ⟨W.heap.size, 0, none⟩) 64 c1) W1 ∧
    Below W.heap.size W W1 ∧ W1.heap.size = W.heap.size + 1 ∧ ∀ j u, (ints .u8 (digs s))[j]? = some u → W1.cell? ⟨W.heap.size, j, none⟩ = some u := by
  have hr := Lib.run_convert_string_bytes (P := Try.prog) W 9 104 5 (s.extract 2 s.size) Try.underlying9 Try.underlying104 Try.underlying5
  have hl : (s.extract 2 s.size).size = 64 := by simp [h]
  rw [hl] at hr
  refine ⟨_, _, hr, ⟨rfl, rfl, rfl, by rw [Lib.bytesWorld_size]; omega, fun k hk => Lib.bytesWorld_at_old _ _ _ _ hk⟩, Lib.bytesWorld_size _ _ _, fun j u hu => ?_⟩
  have hj : j < 64 := by
    rcases Nat.lt_or_ge j 64 with h' | h'
    · exact h'
    · rw [List.getElem?_eq_none (by simp [ints, digs_length h]; omega)] at hu; simp at hu
  rw [Lib.bytesWorld_cell _ _ _ j (by rw [hl]; exact hj)]
  have hd : (s.extract 2 s.size).data.toList = s.data.toList.drop 2 := by
    have : s.data.toList.length = 66 := by rw [Array.length_toList]; exact h
    simp [ByteArray.data_extract, List.extract_eq_take_drop, h]
    rw [List.take_of_length_le (by simp [this])]
  have h2 : 2 + j < s.data.size := by have : s.data.size = 66 := h; omega
  rw [hd, ← hu]
  simp [ints, digs, numsOf, List.getD_eq_getElem?_getD, Array.getElem?_eq_getElem h2]

theorem packL_zero (d : List Int) : packL d 0 = zroot := by
  apply List.ext_getElem
  · simp [packL, zroot]
  · intro j h1 h2
    have : ∀ (n : Nat) (h : j < (List.replicate n (0 : Int)).length), (List.replicate n (0 : Int))[j] = 0 := fun n h => List.getElem_replicate ..
    rw [show zroot[j] = 0 from this 32 (by simpa [packL] using h1)]
    simp [packL]
theorem packL_length (d : List Int) (k : Nat) : (packL d k).length = 32 := by simp [packL]
theorem packL_get (d : List Int) (k j : Nat) (hj : j < 32) : (packL d k).getD j 0 = if 2 * j + 1 < k then hexD (d.getD (2 * j) 0) * 16 + hexD (d.getD (2 * j + 1) 0) else if 2 * j < k then hexD (d.getD (2 * j) 0) else 0 := by
  simp [packL, List.getD_eq_getElem?_getD, hj]
/-- one more digit -/
theorem packL_step (d : List Int) (k : Nat) (hk : k < 64) : packL d (k + 1) = (packL d k).set (k / 2) (if k % 2 = 0 then hexD (d.getD k 0) else (packL d k).getD (k / 2) 0 * 16 + hexD (d.getD k 0)) := by
  apply List.ext_getElem
  · simp [packL]
  · intro j h1 h2
    have hj : j < 32 := by simpa [packL] using h1
    rw [List.getElem_set]
    have e1 : (packL d (k + 1))[j]'h1 = (packL d (k + 1)).getD j 0 := (getD_get _ _ h1).symm
    have e2 : (packL d k)[j]'(by rw [packL_length]; exact hj) = (packL d k).getD j 0 := (getD_get _ _ (by rw [packL_length]; exact hj)).symm
    rw [e1, e2, packL_get d (k + 1) j hj, packL_get d k j hj]
    by_cases hkj : k / 2 = j
    · subst hkj
      rw [if_pos rfl]
      by_cases hp : k % 2 = 0
      · rw [if_pos hp, if_neg (by omega), if_pos (by omega), show 2 * (k / 2) = k by omega]
      · rw [if_neg hp, if_pos (by omega), packL_get d k (k / 2) (by omega), if_neg (by omega), if_pos (by omega), show 2 * (k / 2) + 1 = k by omega]
    · rw [if_neg hkj]
      by_cases c1 : 2 * j + 1 < k
      · rw [if_pos (by omega), if_pos c1]
      · by_cases c2 : 2 * j < k
        · omega
        · rw [if_neg (by omega), if_neg (by omega), if_neg c1, if_neg c2]
theorem packL_old (d : List Int) (k : Nat) (hk : k < 64) (hall : ∀ j, j < k → 0 ≤ hexD (d.getD j 0)) :
    (k % 2 = 0 → (packL d k).getD (k / 2) 0 = 0) ∧ 0 ≤ (packL d k).getD (k / 2) 0 ∧ (packL d k).getD (k / 2) 0 ≤ 15 := by
  rw [packL_get d k (k / 2) (by omega), if_neg (by omega)]
  by_cases c : 2 * (k / 2) < k
  · rw [if_pos c]
    have := hexD_le (d.getD (2 * (k / 2)) 0)
    have := hall _ c
    exact ⟨fun h => by omega, this, by omega⟩
  · rw [if_neg c]
    exact ⟨fun _ => rfl, by omega, by omega⟩

theorem or_join (old x : Int) (h0 : 0 ≤ old) (h1 : old ≤ 15) (h2 : 0 ≤ x) (h3 : x ≤ 15) : bits .or .u8 (old * 16) x = old * 16 + x := by
  rw [u8_or _ _ (by omega) (by omega) (by omega) (by omega)]
  have := nat_join 4 (old * 16).toNat x.toNat (by omega) (by omega)
  rw [this]; omega
theorem ints_set (k : IntKind) (l : List Int) (i : Nat) (x : Int) : (ints k l).set i (.int k x) = ints k (l.set i x) := by simp [ints, List.map_set]

/-- what Parse answers at a text of the right form with the digits d -/
def ParsePost (d : List Int) (w : World) (e : Ending) (w' : World) : Prop :=
  (if ∀ c ∈ d, 0 ≤ hexD c then e = .returned (.tuple #[.agg (ints .u8 (packL d 64)).toArray, .int .i64 0]) else e = .returned (.tuple #[.agg (ints .u8 zroot).toArray, .int .i64 1])) ∧ Below w.heap.size w w'

set_option maxHeartbeats 400000 in
theorem parse_run {s : ByteArray} (h : s.size = 66) (hp : (!(s.extract 0 2).toList == [48, 120]) = false) (w : World) :
    Calls Try.prog 47 #[.string s] w (ParsePost (digs s) w) := by
  have hz := zroot_lit
  have hne : ((s.size : Int) != 66) = false := by simp; omega
  have h1 : 2 ≤ s.size := by omega
  have hdl := Lib.hid (digs_length h)
  have hdb : Hid (∀ c ∈ digs s, 0 ≤ c ∧ c < 256) := fun c hc => digs_byte hc
  obtain ⟨W1, c1, hconv, hbW, hsW, hcW⟩ := conv_digs h ((w.alloc (.cells (ints .u8 zroot).toArray 33)).alloc (.cells (ints .u8 zroot).toArray 33))
  simp only [World.size_alloc] at hconv hbW hsW hcW
  have HR0 := Lib.hid (((Has.new w (ints .u8 zroot) 33).alloc (.cells (ints .u8 zroot).toArray 33)).below hbW (by omega))
  have HR1 := Lib.hid ((show Has _ (w.heap.size + 1) (ints .u8 zroot) from (by have := Has.new (w.alloc (.cells (ints .u8 zroot).toArray 33)) (ints .u8 zroot) 33; simpa using this)).below hbW (by omega))
  have hb0 : Hid (Below w.heap.size w W1) := (((Below.refl _ _).alloc (Nat.le_refl _) _).alloc (by simp) _).trans (hbW.mono (by omega))
  have HC := Lib.hid hcW
  have HSZ := Lib.hid hsW
  clear h hbW hcW hsW
  generalize hd : digs s = d at *
  clear hd
  go_enter Try.func47, Try.ntmps47
  go_wp2
  go_loopw [21] (fun i wr => ∃ k : Nat, k ≤ 64 ∧ i = .int .i64 k ∧ (∀ j, j < k → 0 ≤ hexD (d.getD j 0)) ∧ Has wr (w.heap.size + 1) (ints .u8 (packL d k)) ∧ Has wr w.heap.size (ints .u8 zroot) ∧
    (∀ j u, (ints .u8 d)[j]? = some u → wr.cell? ⟨w.heap.size + 2, j, none⟩ = some u) ∧ Below w.heap.size w wr ∧ w.heap.size + 3 ≤ wr.heap.size) (fun i _ => 64 - (intOf i).toNat)
  case atStart => exact ⟨0, by omega, rfl, fun j hj => by omega, by rw [packL_zero]; exact HR1.out, HR0.out, HC.out, hb0.out, by rw [HSZ.out]; exact Nat.le_refl _⟩
  case round =>
    obtain ⟨k, hk, rfl, hall, hr1, hr0, hcs, hbel, hsz⟩ := hrel
    by_cases hlt : k < 64
    · have hkd : k < d.length := by rw [hdl.out]; exact hlt
      have hcb := hdb.out (d.getD k 0) (by rw [getD_get d k hkd]; exact List.getElem_mem _)
      have hck := hcs k (.int .u8 (d.getD k 0)) (by rw [ints, List.getElem?_map, List.getElem?_eq_getElem hkd, getD_get d k hkd]; rfl)
      have hst := Lib.hid (packL_step d k hlt)
      have hold := packL_old d k hlt hall
      have kc : (convert 104 104 (.slice (some ⟨wr.heap.size, 0, none⟩) 16 16)).run Try.prog (wr.alloc (.cells #[.int .u8 48, .int .u8 49, .int .u8 50, .int .u8 51, .int .u8 52, .int .u8 53, .int .u8 54, .int .u8 55, .int .u8 56, .int .u8 57, .int .u8 97, .int .u8 98, .int .u8 99, .int .u8 100, .int .u8 101, .int .u8 102] 5)) =
          .ok (.slice (some ⟨wr.heap.size, 0, none⟩) 16 16) (wr.alloc (.cells (ints .u8 hexNums).toArray 5 (16, 17))) :=
        Lib.run_convert_bytes_const (P := Try.prog) wr 104 5 (ints .u8 hexNums).toArray 16 16 Try.underlying104 Try.underlying5
      have HIB := Lib.hid (indexByte_hex (g := wr.heap.size) (w := wr.alloc (.cells (ints .u8 hexNums).toArray 5 (16, 17))) (fun j u hu => by
        rw [cell_of_row _ _ _ (ints .u8 hexNums).toArray 5 (16, 17) (heap_alloc_new wr _)]; simpa using hu) (d.getD k 0) hcb.1 hcb.2)
      have hle := hexD_le (d.getD k 0)
      have hl1 : (wr.alloc (.cells (ints .u8 hexNums).toArray 5 (16, 17))).cell? ⟨w.heap.size + 1, k / 2, none⟩ = some (.int .u8 ((packL d k).getD (k / 2) 0)) := by
        rw [(hr1.alloc _).cell (k / 2), ints, List.getElem?_map, List.getElem?_eq_getElem (by rw [packL_length]; omega), getD_get _ _ (by rw [packL_length]; omega)]; rfl
      have hf1 : (wr.alloc (.cells (ints .u8 hexNums).toArray 5 (16, 17))).frozen? ⟨w.heap.size + 1, k / 2, none⟩ = false := (hr1.alloc _).frozen _
      have HALL := Lib.hid hall
      have HR1' := Lib.hid hr1
      have HR0' := Lib.hid hr0
      have HCS := Lib.hid hcs
      have HBEL := Lib.hid hbel
      have HOLD := Lib.hid hold
      have ho1 := hold.2.1
      have ho2 := hold.2.2
      clear hall hr1 hr0 hcs hbel hold
      have hmem : Hid (d.getD k 0 ∈ d) := by rw [getD_get d k hkd]; exact List.getElem_mem _
      generalize hcd' : d.getD k 0 = c at *
      have hcd := Lib.hid hcd'
      clear hcd'
      generalize (packL d k).getD (k / 2) 0 = old at *
      by_cases hneg : hexD c < 0
      · have HR0'' := Lib.hid (HR0'.out.alloc (.cells (ints .u8 hexNums).toArray 5 (16, 17)))
        have hbel' : Hid (Below w.heap.size w (wr.alloc (.cells (ints .u8 hexNums).toArray 5 (16, 17)))) := HBEL.out.alloc (by omega) _
        go_wp2_with (first | (go_at_call 83; refine HIB.out.mono ?_; rintro e w' ⟨rfl, rfl⟩) | ((with_reducible refine wpList_storeB rfl 33 _ _ rfl _ (ints .u8 zroot) _ ?_ ?_ HR0''.out ?_ Try.underlying33 ?_ (one_ints _ _) ?_); rfl; rfl; rfl; kernel_rfl; intro w2 hw2 hg2 _; have HW2 := Lib.hid hw2; have HG2 := Lib.hid hg2; clear hw2 hg2))
        refine bodyPost_ret (results_cell_tmp (by rfl) _ (by rfl) HW2.out Try.underlying33 rfl (by kernel_rfl)) rfl ⟨?_, hbel'.out.grown HG2.out (by simp; omega) (fun k hk => by cases hk; exact Nat.le_refl _)⟩
        rw [if_neg (fun hh => by have := hh c hmem.out; omega)]
        rfl
      · have HOR := Lib.hid (or_join old (hexD c) ho1 ho2 (by omega) hle)
        go_wp2_with (go_at_call 83; refine HIB.out.mono ?_; rintro e w' ⟨rfl, rfl⟩)
        go_roundw
        case rel =>
          refine ⟨k + 1, by omega, by go_num, fun j hj => ?_, ?_, ?_, fun j u hu => ?_, ?_, ?_⟩
          · rcases Nat.lt_or_ge j k with h | h
            · exact HALL.out j h
            · obtain rfl : j = k := by omega
              rw [hcd.out]; omega
          · have h2 := (HR1'.out.alloc (.cells (ints .u8 hexNums).toArray 5 (16, 17))).set (k / 2) (.int .u8 (bits .or .u8 (old * 16) (hexD c)))
            rw [ints_set, HOR.out] at h2
            rw [hst.out, HOR.out]
            by_cases hp : k % 2 = 0
            · rw [if_pos hp]
              have h0 := HOLD.out.1 hp
              subst h0
              simpa using h2
            · rw [if_neg hp]
              exact h2
          · exact (HR0'.out.alloc _).far (by simp) _
          · rw [World.cell?_setCell_other _ _ _ _ (by simp), World.cell?_alloc_lt _ _ _ (by simp; omega)]
            exact HCS.out j u hu
          · exact (HBEL.out.alloc (by omega) _).setCell (by simp) _
          · simp [World.setCell]; omega
        case measure => simp [intOf]; omega
    · obtain rfl : k = 64 := by omega
      have HR1' := Lib.hid hr1
      have HR0' := Lib.hid hr0
      have HBEL := Lib.hid hbel
      have HALL := Lib.hid hall
      clear hr1 hr0 hbel hall hcs
      go_wp2_with (first | ((with_reducible refine wpList_storeB rfl 33 _ _ rfl _ (ints .u8 (packL d 64)) _ ?_ ?_ HR0'.out ?_ Try.underlying33 ?_ (one_ints _ _) ?_); rfl; rfl; simp [ints, zroot, packL]; simp [ints, packL]; kernel_rfl; intro w2 hw2 hg2 _; have HW2 := Lib.hid hw2; have HG2 := Lib.hid hg2; clear hw2 hg2) | ((with_reducible refine wpList_loadB rfl 33 _ rfl _ _ ?_ HR1'.out Try.underlying33 ?_ ?_ ?_); rfl; rfl; simp [ints, packL]; kernel_rfl))
      refine bodyPost_ret (results_cell_tmp (by rfl) _ (by rfl) HW2.out Try.underlying33 rfl (by simp [ints, packL]; kernel_rfl)) rfl ⟨?_, HBEL.out.grown HG2.out (by omega) (fun k hk => by cases hk; exact Nat.le_refl _)⟩
      rw [if_pos (fun c hc => ?_)]
      · rfl
      · obtain ⟨j, hj, rfl⟩ := List.getElem_of_mem hc
        have := HALL.out j (by rw [← hdl.out]; exact hj)
        rwa [getD_get d j hj] at this
set_option maxRecDepth 20000

theorem run_index_str {P : Program} {t : TypeId} (ht : P.underlying t = some .string) (s : ByteArray) (i : Nat) (hi : i < s.size) (w : World) :
    (Instr.index t (.string s) (.int .i64 (i : Int))).run P w = .ok (.int .u8 ((s[i].toNat : Nat) : Int)) w := by
  have h0 : (0 : Int) ≤ (i : Int) := by omega
  simp only [Instr.index, asIntOf, Sem.run_bind, Sem.run_pure, Result.andThen_ok, run_underlying ht]
  rw [if_pos h0, Int.toNat_natCast, getElem?_pos s i hi]
  rfl

def digV (c : Int) : Int := if hexD c < 0 then 16 else hexD c
theorem hexC_hexD (q : Int) (h0 : 0 ≤ q) (h1 : q < 16) : hexD (hexC q) = q := by unfold hexC hexD; split <;> (try split) <;> omega
theorem hexD_hexC (c q : Int) (h : hexD c = q) (h0 : 0 ≤ q) : hexC q = c := by unfold hexD at h; unfold hexC; split at h <;> (try split at h) <;> (try split) <;> omega

theorem digs_at {s : ByteArray} (h : s.size = 66) (j : Nat) (hj : j < 64) : ((s[2 + j]'(by omega)).toNat : Int) = (digs s).getD j 0 := by
  have h2 : 2 + j < s.data.size := by have : s.data.size = 66 := h; omega
  simp [digs, numsOf, List.getD_eq_getElem?_getD, Array.getElem?_eq_getElem h2]
  rfl

theorem packL_even (d : List Int) (k : Nat) (hk : k < 32) : packL d (2 * (k + 1)) = (packL d (2 * k)).set k (hexD (d.getD (2 * k) 0) * 16 + hexD (d.getD (2 * k + 1) 0)) := by
  have e1 := packL_step d (2 * k + 1) (by omega)
  have e2 := packL_step d (2 * k) (by omega)
  rw [if_neg (by omega), show (2 * k + 1) / 2 = k by omega] at e1
  rw [if_pos (by omega), show 2 * k / 2 = k by omega] at e2
  rw [show 2 * (k + 1) = 2 * k + 1 + 1 by omega, e1, e2]
  have : ((packL d (2 * k)).set k (hexD (d.getD (2 * k) 0))).getD k 0 = hexD (d.getD (2 * k) 0) := by
    rw [getD_get _ _ (by simp [packL_length]; omega)]; simp
  rw [this, List.set_set]

set_option maxRecDepth 20000

theorem parse_join {f : FuncId} {s : ByteArray} {w : World} (hs : s.size ≤ 9223372036854775807)
    (h1 : s.size ≠ 66 → Calls Try.prog f #[.string s] w fun e w' => e = .returned (.tuple #[.agg (ints .u8 zroot).toArray, .int .i64 1]) ∧ Below w.heap.size w w')
    (h2 : s.size = 66 → (!(s.extract 0 2).toList == [48, 120]) = true → Calls Try.prog f #[.string s] w fun e w' => e = .returned (.tuple #[.agg (ints .u8 zroot).toArray, .int .i64 1]) ∧ Below w.heap.size w w')
    (h3 : s.size = 66 → (!(s.extract 0 2).toList == [48, 120]) = false → Calls Try.prog f #[.string s] w (ParsePost (digs s) w)) :
    Calls Try.prog f #[.string s] w fun e w' => e = .returned (.tuple #[.agg (ints .u8 (parseV s)).toArray, .int .i64 (parseE s)]) ∧ Below w.heap.size w w' := by
  by_cases c1 : s.size = 66
  · cases c2 : (!(s.extract 0 2).toList == [48, 120]) with
    | true =>
      have : ¬ parseOk s := fun h => by have := h.2.1; rw [this] at c2; simp at c2
      unfold parseV parseE
      rw [if_neg this, if_neg this]
      exact h2 c1 c2
    | false =>
      have hb : ((s.extract 0 2).toList == [48, 120]) = true := by simpa using c2
      refine (h3 c1 c2).mono fun e w' h => ?_
      unfold ParsePost at h
      refine ⟨?_, h.2⟩
      by_cases c3 : ∀ c ∈ digs s, 0 ≤ hexD c
      · have hk : parseOk s := ⟨c1, hb, c3⟩
        unfold parseV parseE
        rw [if_pos hk, if_pos hk]
        have := h.1
        rwa [if_pos c3] at this
      · have hk : ¬ parseOk s := fun h => c3 h.2.2
        unfold parseV parseE
        rw [if_neg hk, if_neg hk]
        have := h.1
        rwa [if_neg c3] at this
  · have : ¬ parseOk s := fun h => c1 h.1
    unfold parseV parseE
    rw [if_neg this, if_neg this]
    exact h1 c1

theorem parse_any {s : ByteArray} (hs : s.size ≤ 9223372036854775807) (w : World) :
    Calls Try.prog 47 #[.string s] w fun e w' => e = .returned (.tuple #[.agg (ints .u8 (parseV s)).toArray, .int .i64 (parseE s)]) ∧ Below w.heap.size w w' :=
  parse_join hs (fun h => parse_size hs h w) (fun h hp => parse_prefix h hp w) (fun h hp => parse_run h hp w)
theorem parseV_length (s : ByteArray) : (parseV s).length = 32 := by
  unfold parseV
  split
  · exact packL_length _ _
  · rfl
theorem fmtL_length (a : List Int) : (fmtL a).length = 2 + 2 * a.length := by
  unfold fmtL
  have : ∀ l : List Int, (l.flatMap fun x => [hexC (x / 16), hexC (x % 16)]).length = 2 * l.length := by
    intro l
    induction l with
    | nil => rfl
    | cons x l ih => rw [List.flatMap_cons, List.length_append, ih]; simp; omega
  simp [this]; omega
theorem fmtL_byte {a : List Int} (ha : Fit .u8 a) : ∀ c ∈ fmtL a, 0 ≤ c ∧ c < 256 := by
  intro c hc
  unfold fmtL at hc
  rcases List.mem_cons.1 hc with rfl | hc
  · omega
  rcases List.mem_cons.1 hc with rfl | hc
  · omega
  obtain ⟨x, hx, hc⟩ := List.mem_flatMap.1 hc
  have := fit_u8 ha x hx
  simp at hc
  rcases hc with rfl | rfl <;> unfold hexC <;> split <;> omega
theorem nums_str {l : List Int} (h : ∀ c ∈ l, 0 ≤ c ∧ c < 256) : numsOf (strOfNums l) = l := by
  unfold numsOf
  rw [strOfNums_data, List.map_map]
  conv => rhs; rw [← List.map_id l]
  apply List.map_congr_left
  intro c hc
  have := h c hc
  simp
  omega
/-- the digits of a written root -/
theorem digs_fmt {a : List Int} (ha : Fit .u8 a) : digs (strOfNums (fmtL a)) = a.flatMap fun x => [hexC (x / 16), hexC (x % 16)] := by
  unfold digs
  rw [nums_str (fmtL_byte ha)]
  rfl
theorem flat_get : ∀ (a : List Int) (j : Nat), j < a.length → (a.flatMap fun x => [hexC (x / 16), hexC (x % 16)]).getD (2 * j) 0 = hexC (a.getD j 0 / 16) ∧ (a.flatMap fun x => [hexC (x / 16), hexC (x % 16)]).getD (2 * j + 1) 0 = hexC (a.getD j 0 % 16)
  | [], j, h => by simp at h
  | x :: l, 0, _ => by simp
  | x :: l, j + 1, h => by
    have := flat_get l j (by simpa using h)
    rw [List.flatMap_cons, show 2 * (j + 1) = 2 * j + 2 by omega]
    simpa using this
theorem fmt_ok {a : List Int} (ha : Fit .u8 a) (la : a.length = 32) : parseOk (strOfNums (fmtL a)) := by
  refine ⟨by rw [strOfNums_size, fmtL_length, la], ?_, fun c hc => ?_⟩
  · have hd : (strOfNums (fmtL a)).data = (#[48, 120] ++ ((a.flatMap fun x => [hexC (x / 16), hexC (x % 16)]).map fun n => UInt8.ofNat n.toNat).toArray) := by
      apply Array.ext'
      rw [strOfNums_data]
      simp [fmtL]
    rw [ByteArray.toList_eq, ByteArray.data_extract, hd]
    simp
  · rw [digs_fmt ha] at hc
    obtain ⟨x, hx, hc⟩ := List.mem_flatMap.1 hc
    have := fit_u8 ha x hx
    simp at hc
    rcases hc with rfl | rfl
    · rw [hexC_hexD _ (by omega) (by omega)]; omega
    · rw [hexC_hexD _ (by omega) (by omega)]; omega
theorem parseV_fmt {a : List Int} (ha : Fit .u8 a) (la : a.length = 32) : parseV (strOfNums (fmtL a)) = a := by
  unfold parseV
  rw [if_pos (fmt_ok ha la), digs_fmt ha]
  apply List.ext_getElem
  · rw [packL_length, la]
  · intro j h1 h2
    have hj : j < 32 := by simpa [packL] using h1
    rw [← getD_get _ _ h1, packL_get _ _ _ hj, if_pos (by omega), (flat_get a j h2).1, (flat_get a j h2).2, ← getD_get _ _ h2]
    have := fit_u8 ha (a.getD j 0) (by rw [getD_get _ _ h2]; exact List.getElem_mem _)
    rw [hexC_hexD _ (by omega) (by omega), hexC_hexD _ (by omega) (by omega)]
    omega
theorem parseE_fmt {a : List Int} (ha : Fit .u8 a) (la : a.length = 32) : parseE (strOfNums (fmtL a)) = 0 := by
  unfold parseE
  rw [if_pos (fmt_ok ha la)]
set_option maxRecDepth 20000

/-- the root that begins with the byte 1 -/
def oneR : List Int := 1 :: List.replicate 31 0
theorem oneR_lit : #[Value.int .u8 1, Value.int .u8 0, Value.int .u8 0, Value.int .u8 0, Value.int .u8 0, Value.int .u8 0, Value.int .u8 0, Value.int .u8 0, Value.int .u8 0, Value.int .u8 0, Value.int .u8 0, Value.int .u8 0, Value.int .u8 0, Value.int .u8 0, Value.int .u8 0, Value.int .u8 0, Value.int .u8 0, Value.int .u8 0, Value.int .u8 0, Value.int .u8 0, Value.int .u8 0, Value.int .u8 0, Value.int .u8 0, Value.int .u8 0, Value.int .u8 0, Value.int .u8 0, Value.int .u8 0, Value.int .u8 0, Value.int .u8 0, Value.int .u8 0, Value.int .u8 0, Value.int .u8 0] = (ints .u8 oneR).toArray := rfl
theorem oneR_fit : Fit .u8 oneR := by unfold Fit oneR; decide

theorem oneR_cmp : cmpI oneR zroot = 1 := by decide
theorem oneR_text : ((strOfNums (fmtL oneR)).extract 0 6).toList = [48, 120, 48, 49, 48, 48] := by decide +kernel

theorem roots_awake (w : World) : Calls Try.prog 16 #[] w fun e w' => e = .returned (.bool true) ∧ Below w.heap.size w w' := by
  have hz := zroot_lit
  have ho : (ints .u8 zroot).set 0 (.int .u8 1) = ints .u8 oneR := rfl
  have HZ := Lib.hid (Has.new w (ints .u8 zroot) 33)
  have HF := Lib.hid (format_any oneR_fit (by rfl))
  have hsz : (strOfNums (fmtL oneR)).size = 66 := by rw [strOfNums_size, fmtL_length]; rfl
  have HP := Lib.hid (fun w => parse_any (s := strOfNums (fmtL oneR)) (by rw [hsz]; omega) w)
  have hpv := parseV_fmt oneR_fit (by rfl)
  have hpe := parseE_fmt oneR_fit (by rfl)
  rw [hpv, hpe] at HP
  clear hpv hpe
  have htx : (((strOfNums (fmtL oneR)).extract 0 6).toList == [48, 120, 48, 49, 48, 48]) = true := by rw [oneR_text]; rfl
  have HC := Lib.hid (compare_any (a := oneR) (b := zroot) oneR_fit zroot_fit (by rfl) (by rfl))
  rw [oneR_cmp] at HC
  have HI := Lib.hid (isZero_any (a := zroot) (by rfl))
  have HJ := Lib.hid (isZero_any (a := oneR) (by rfl))
  rw [decide_eq_true rfl] at HI
  rw [decide_eq_false (by decide)] at HJ
  have hq : ∀ w : World, (Op.equalIn 10000 33 (.agg (ints .u8 oneR).toArray) (.agg (ints .u8 oneR).toArray)).run Try.prog w = .ok true w := fun w => by
    have := root_same (a := oneR) (b := oneR) (by rfl) (by rfl) w
    rwa [decide_eq_true rfl] at this
  generalize strOfNums (fmtL oneR) = S at *
  go_enter Try.func16, Try.ntmps16
  go_wp2_with (first | ((with_reducible refine wpList_loadG 33 _ rfl _ _ ?_ ?_ HW1.out Try.underlying33 ?_ ?_ ?_); rfl; rfl; rfl; kernel_rfl) | ((with_reducible refine wpList_storeB rfl 33 _ _ rfl _ (ints .u8 oneR) _ ?_ ?_ HZ.out ?_ Try.underlying33 ?_ (one_ints _ _) ?_); rfl; rfl; rfl; kernel_rfl; intro w1 hw1 hg1 hz1; have HW1 := Lib.hid hw1; have HG1 := Lib.hid hg1; clear hw1 hg1))
  have hb1 : Hid (Below w.heap.size w w1 ∧ w.heap.size < w1.heap.size) := ⟨((Below.refl _ _).alloc (Nat.le_refl _) _).grown HG1.out (by simp) (fun k hk => by cases hk; exact Nat.le_refl _), by rw [hz1]; simp⟩
  have h1s := hb1.out.2
  clear hz1
  refine (HF.out _).mono ?_; rintro e w2 ⟨rfl, hb2⟩
  have HW2 := Lib.hid (HW1.out.below hb2 h1s)
  have hb2' := Lib.hid (hb1.out.1.trans (hb2.mono hb1.out.1.size))
  have h2s : w.heap.size < w2.heap.size := Nat.lt_of_lt_of_le h1s hb2.size
  clear hb2
  go_wp2_with fail
  refine (HP.out _).mono ?_; rintro e w3 ⟨rfl, hb3⟩
  have HW3 := Lib.hid (HW2.out.below hb3 h2s)
  have hb3' := Lib.hid (hb2'.out.trans (hb3.mono hb2'.out.size))
  have h3s : w.heap.size < w3.heap.size := Nat.lt_of_lt_of_le h2s hb3.size
  clear hb3
  have HX3 := Lib.hid (Has.new w3 (ints .u8 zroot) 33)
  have HW3' := Lib.hid (HW3.out.alloc (.cells (ints .u8 zroot).toArray 33))
  go_wp2_with (first | ((with_reducible refine wpList_loadG 33 _ rfl _ _ ?_ ?_ HX4.out Try.underlying33 ?_ ?_ ?_); rfl; rfl; rfl; kernel_rfl) | ((with_reducible refine wpList_loadG 33 _ rfl _ _ ?_ ?_ HW4.out Try.underlying33 ?_ ?_ ?_); rfl; rfl; rfl; kernel_rfl) | ((with_reducible refine wpList_storeB rfl 33 _ _ rfl _ (ints .u8 oneR) _ ?_ ?_ HX3.out ?_ Try.underlying33 ?_ (one_ints _ _) ?_); rfl; rfl; rfl; kernel_rfl; intro w4 hw4 hg4 hz4; have HX4 := Lib.hid hw4; have HW4 := Lib.hid (HW3'.out.grown hg4 (fun he => by injection he; omega)); have HB4 := Lib.hid ((hb3'.out.alloc hb3'.out.size _).grown hg4 (by simp; omega) (fun k hk => by cases hk; omega)); have h4s : w.heap.size < w4.heap.size := (by rw [hz4]; simp; omega); clear hw4 hg4 hz4))
  refine (HC.out _).mono ?_; rintro e w5 ⟨rfl, hb5⟩
  have HW5 := Lib.hid (HW4.out.below hb5 h4s)
  have hb5' := Lib.hid (HB4.out.trans (hb5.mono HB4.out.size))
  have h5s : w.heap.size < w5.heap.size := Nat.lt_of_lt_of_le h4s hb5.size
  clear hb5
  go_wp2_with fail
  refine (HI.out _).mono ?_; rintro e w6 ⟨rfl, hb6⟩
  have HW6 := Lib.hid (HW5.out.below hb6 h5s)
  have hb6' := Lib.hid (hb5'.out.trans (hb6.mono hb5'.out.size))
  have h6s : w.heap.size < w6.heap.size := Nat.lt_of_lt_of_le h5s hb6.size
  clear hb6
  go_wp2_with ((with_reducible refine wpList_loadG 33 _ rfl _ _ ?_ ?_ HW6.out Try.underlying33 ?_ ?_ ?_); rfl; rfl; rfl; kernel_rfl)
  refine (HJ.out _).mono ?_; rintro e w7 ⟨rfl, hb7⟩
  have hb7' := Lib.hid (hb6'.out.trans (hb7.mono hb6'.out.size))
  clear hb7
  go_wp2_with fail
  go_ret
  exact ⟨rfl, hb7'.out⟩
end Go.Proofs.Ytekikfdlnkcenaa.Rr
