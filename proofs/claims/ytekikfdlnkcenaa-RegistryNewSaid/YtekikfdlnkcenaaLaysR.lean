/- Calls that only lay blocks and draw; roots compared. -/
import Derived.Test.YtekikfdlnkcenaaRows
import Derived.Test.YtekikfdlnkcenaaCore
import Derived.Test.YtekikfdlnkcenaaRootEq
import Derived.WalkLawsBesides
import Derived.Outline
import Derived.Handy
import Derived.Lib.BytesEntry
import Derived.Lib.Bytealg
import Derived.Laws.Externs
import Derived.Deep.QuietTactic
import Derived.BigQuiet
import Derived.Sort.Grow
namespace Go.Proofs.Ytekikfdlnkcenaa
open Go.RowKit Go.Sort
/-- only blocks have been laid, only the tape has been read -/
def Lays (w w' : World) : Prop := ∃ q os, w' = grow (w.drewN q) os
theorem Lays.refl (w : World) : Lays w w := ⟨0, #[], by simp [grow, World.drewN]⟩
theorem Lays.trans {a b c : World} (h : Lays a b) (k : Lays b c) : Lays a c := by
  obtain ⟨q, os, rfl⟩ := h
  obtain ⟨p, os', rfl⟩ := k
  exact ⟨q + p, os ++ os', by simp [grow, World.drewN, Nat.add_assoc, Array.append_assoc]⟩
theorem Lays.alloc {a b : World} (h : Lays a b) (o : Obj) : Lays a (b.alloc o) := h.trans ⟨0, #[o], by rw [alloc_eq_grow]; rfl⟩
theorem Lays.drewN {a b : World} (h : Lays a b) (n : Nat) : Lays a (b.drewN n) := h.trans ⟨n, #[], by simp [grow, World.drewN]⟩
theorem Lays.drew {a b : World} (h : Lays a b) : Lays a b.drew := h.drewN 1
theorem Lays.below {a b : World} (h : Lays a b) : Below a.heap.size a b := by
  obtain ⟨q, os, rfl⟩ := h
  exact ⟨rfl, rfl, rfl, by simp [World.drewN], fun k hk => heap_grow_old _ _ hk⟩

/-- bytewise order of two lists of one length -/
def cmpI : List Int → List Int → Int
  | a :: xs, b :: ys => if a < b then -1 else if b < a then 1 else cmpI xs ys
  | _, _ => 0

theorem fit_u8 {l : List Int} (h : Fit .u8 l) : ∀ x ∈ l, 0 ≤ x ∧ x < 256 := fun x hx => by
  have := bounds_u8 (h x hx); omega

theorem byte_lt {a b : Int} (ha : 0 ≤ a ∧ a < 256) (hb : 0 ≤ b ∧ b < 256) : UInt8.ofNat a.toNat < UInt8.ofNat b.toNat ↔ a < b := by
  rw [UInt8.lt_iff_toNat_lt, UInt8.toNat_ofNat', UInt8.toNat_ofNat']
  omega

theorem compareBytes_eq : ∀ (a b : List Int), (∀ x ∈ a, 0 ≤ x ∧ x < 256) → (∀ x ∈ b, 0 ≤ x ∧ x < 256) → a.length = b.length → Lib.compareBytes (Lib.bytesOf a) (Lib.bytesOf b) = cmpI a b
  | [], [], _, _, _ => rfl
  | [], _ :: _, _, _, h => by simp at h
  | _ :: _, [], _, _, h => by simp at h
  | a :: xs, b :: ys, ha, hb, h => by
    have ih := compareBytes_eq xs ys (fun x hx => ha x (by simp [hx])) (fun x hx => hb x (by simp [hx])) (by simpa using h)
    have h1 := byte_lt (ha a (by simp)) (hb b (by simp))
    have h2 := byte_lt (hb b (by simp)) (ha a (by simp))
    simp only [Lib.bytesOf, List.map_cons, Lib.compareBytes, cmpI] at ih ⊢
    simp only [h1, h2, ih]

theorem run_bcompare {a b : List Int} {x y : Addr} {n c d : Nat} {w : World} (ha : Fit .u8 a) (hb : Fit .u8 b) (la : a.length = n) (lb : b.length = n)
    (hx : ∀ j u, (ints .u8 a)[j]? = some u → w.cell? (x.add j) = some u) (hy : ∀ j u, (ints .u8 b)[j]? = some u → w.cell? (y.add j) = some u) :
    (callFunc 87 #[.slice (some x) n c, .slice (some y) n d]).run Try.prog w = .ok (.value (.int .i64 (cmpI a b))) w := by
  rw [run_callFunc_extern Try.func87 (by kernel_rfl) (by kernel_rfl) (by kernel_rfl) (e := Extern.BytealgCompare.compare) (by kernel_rfl)]
  have l1 := Lib.run_loadBytesX (P := Try.prog) w a x .empty (fun j v hj => hx j _ (by rw [ints, List.getElem?_map, hj]; rfl))
  have l2 := Lib.run_loadBytesX (P := Try.prog) w b y .empty (fun j v hj => hy j _ (by rw [ints, List.getElem?_map, hj]; rfl))
  rw [la] at l1
  rw [lb] at l2
  change Result.andThen (Sem.run Try.prog (do pure (goInt (Extern.BytealgCompare.cmp (← Extern.Bytes.bytesOf (.slice (some x) n c)) (← Extern.Bytes.bytesOf (.slice (some y) n d))))) w) _ = _
  simp only [Extern.Bytes.bytesOf, Sem.run_bind, l1, l2, Sem.run_pure, Result.andThen]
  rw [Lib.cmp_eq]
  have e1 : ∀ l : List Int, (ByteArray.empty.data ++ (Lib.bytesOf l).toArray).toList = Lib.bytesOf l := fun l => by simp
  rw [e1, e1, compareBytes_eq a b (fit_u8 ha) (fit_u8 hb) (by omega)]
  rfl

theorem bytes_compare {a b : List Int} {x y : Addr} {n c d : Nat} {w : World} (ha : Fit .u8 a) (hb : Fit .u8 b) (la : a.length = n) (lb : b.length = n)
    (hx : ∀ j u, (ints .u8 a)[j]? = some u → w.cell? (x.add j) = some u) (hy : ∀ j u, (ints .u8 b)[j]? = some u → w.cell? (y.add j) = some u) :
    Calls Try.prog 52 #[.slice (some x) n c, .slice (some y) n d] w fun e w' => e = .returned (.int .i64 (cmpI a b)) ∧ w = w' := by
  have hr := run_bcompare (c := c) (d := d) ha hb la lb hx hy
  clear hx hy la lb
  go_enter Try.func52, Try.ntmps52
  go_wp2
  go_ret
  exact ⟨rfl, rfl⟩

theorem compare_lays {a b : List Int} (ha : Fit .u8 a) (hb : Fit .u8 b) (la : a.length = 32) (lb : b.length = 32) (w : World) :
    Calls Try.prog 18 #[.agg (ints .u8 a).toArray, .agg (ints .u8 b).toArray] w fun e w' => e = .returned (.int .i64 (cmpI a b)) ∧ Lays w w' := by
  have hx : ∀ n : Nat, ∀ j u, (ints .u8 a)[j]? = some u → (((w.alloc (.cells (ints .u8 a).toArray 33)).alloc (.cells (ints .u8 b).toArray 33)).drewN n).cell? ((⟨w.heap.size, 0, none⟩ : Addr).add j) = some u := by
    intro n j u hu
    exact (World.cell?_alloc_lt _ _ _ (by rw [add_block]; simp)).trans (new_cells w _ _ j u hu)
  have hy : ∀ n : Nat, ∀ j u, (ints .u8 b)[j]? = some u → (((w.alloc (.cells (ints .u8 a).toArray 33)).alloc (.cells (ints .u8 b).toArray 33)).drewN n).cell? ((⟨w.heap.size + 1, 0, none⟩ : Addr).add j) = some u := by
    intro n j u hu
    have := new_cells (w.alloc (.cells (ints .u8 a).toArray 33)) (ints .u8 b) 33 j u hu
    simpa using this
  have HC := Lib.hid (fun n => bytes_compare (c := 32) (d := 32) ha hb la lb (hx n) (hy n))
  clear hx hy la lb
  go_enter Try.func18, Try.ntmps18
  go_wp2
  go_quiet ((go_at_call 52; exact quietL (HC.out _)))
  go_wp2
  go_ret
  exact ⟨rfl, (((Lays.refl _).alloc _).alloc _).drewN _⟩

end Go.Proofs.Ytekikfdlnkcenaa
