/- blocktree.Find and roots.IsZero, walked. -/
import Derived.Test.YtonkgjengplppaaInsertW
namespace Go.Proofs.Ytonkgjengplppaa
open Go.RowKit
theorem box_root {w : World} {n : Nd} (h : BkOk n.b) : (w.alloc (.cells (nc n).toArray 51)).rangeAt w.heap.size 67 (ints .u8 n.b.root) := by
  have hh := (Has.new w (nc n) 51).rangeAll
  have := range_part 67 hh fun j u hu => nc_bc h (bc_root h j u hu)
  simpa using this
theorem isZero_any {a : List Int} (la : a.length = 32) (w : World) :
    Calls Try.prog 59 #[.agg (ints .u8 a).toArray] w fun e w' => e = .returned (.bool (decide (a = zroot))) ∧ Below w.heap.size w w' := by
  have he := fun w => root_same la (b := zroot) (by rfl) w
  have hz := zroot_lit
  have hsz : (Try.prog.info? 41).map (·.size) = some (ints .u8 a).toArray.size := by rw [List.size_toArray, ints, List.length_map, la]; kernel_rfl
  have HS := Lib.hid hsz
  have HA := Lib.hid la
  clear hsz la
  go_enter Try.func59, Try.ntmps59
  go_wp2_with (refine wpList_load_row rfl 41 _ rfl _ rfl 41 _ (0, 0) _ (heap_alloc_new _ _) Try.underlying41 rfl HS.out ?_)
  go_ret
  exact ⟨rfl, (Below.refl _ _).alloc (Nat.le_refl _) _⟩
/-- the closure of Find -/
theorem isRoot_any (n : Nd) (hn : BkOk n.b) (r : List Int) (hr : r.length = 32) (br : Nat) (w : World) (h : Has w br (ints .u8 r)) :
    Calls Try.prog 68 #[.agg (nc n).toArray, .pointer (some ⟨br, 0, none⟩)] w fun e w' => e = .returned (.bool (decide (n.b.root = r))) ∧ Below w.heap.size w w' := by
  have HR := bx hr
  have HN := bx hn.root
  have RG := bx (box_root (w := w) hn)
  have HB := bx (h.alloc (.cells (nc n).toArray 51))
  have BB := bx (ext_alloc w (.cells (nc n).toArray 51))
  have hq := root_same HN.out HR.out
  generalize n.b.root = rn at *
  generalize nc n = cs at *
  clear h hn hr
  go_enter Try.func68, Try.ntmps68
  go_wp2_with (first | ((with_reducible refine wpList_loadR 41 _ rfl ?_ w.heap.size 67 (ints .u8 rn) RG.out ?_ Try.underlying41 ?_ ?_ ?_); rfl; rfl; rfl; exact cells_root HN.out) | ((with_reducible refine wpList_loadG 41 _ rfl _ (ints .u8 r) ?_ ?_ HB.out Try.underlying41 rfl ?_ ?_); rfl; rfl; exact cells_root HR.out))
  go_ret
  exact ⟨rfl, BB.out⟩
/-- where a root is found -/
def FK (ns : List Nd) (r : List Int) (k : Int) : Prop := (k = -1 ∧ ∀ x ∈ ns, x.b.root ≠ r) ∨ ∃ (i : Nat) (hi : i < ns.length), k = i ∧ ns[i].b.root = r ∧ ∀ j (hj : j < i), (ns[j]'(Nat.lt_trans hj hi)).b.root ≠ r
theorem FK.one {ns : List Nd} {r : List Int} {k k' : Int} (h : FK ns r k) (h' : FK ns r k') : k = k' := by
  rcases h with ⟨rfl, h1⟩ | ⟨i, hi, rfl, h1, h2⟩
  · rcases h' with ⟨rfl, _⟩ | ⟨i', hi', rfl, h1', _⟩
    · rfl
    · exact absurd h1' (h1 _ (List.getElem_mem hi'))
  · rcases h' with ⟨rfl, h1'⟩ | ⟨i', hi', rfl, h1', h2'⟩
    · exact absurd h1 (h1' _ (List.getElem_mem hi))
    · rcases Nat.lt_trichotomy i i' with h | h | h
      · exact absurd h1 (h2' i h)
      · rw [h]
      · exact absurd h1' (h2 i' h)
theorem FP.iff {ns : List Nd} {r : List Int} {w w' : World} {e : Ending} : FP ns r w e w' ↔ (∃ k, e = .returned (.int .i64 k) ∧ FK ns r k) ∧ Below w.heap.size w w' := Iff.rfl
set_option maxRecDepth 20000 in
set_option maxHeartbeats 1000000 in
theorem indexFunc_any (A : Option Addr) (n c : Nat) (ns : List Nd) (r : List Int) (hr : r.length = 32) (br : Nat) (w : World) (h : NRow w A n ns) (hb : Has w br (ints .u8 r)) (hn : n ≤ 4096) :
    Calls Try.prog 67 #[.slice A n c, .func (Fn.func 68) #[] #[.pointer (some ⟨br, 0, none⟩)]] w (FP ns r w) := by
  have HROW := bx h
  have HLEN := bx h.1
  have HB := bx hb
  have HR := bx hr
  clear h hb hr
  go_enter Try.func67, Try.ntmps67
  go_wp2_with fail
  go_loopw [8] (fun i wr => ∃ k : Nat, k ≤ n ∧ i = .int .i64 k ∧ (∀ j (hj : j < ns.length), j < k → ns[j].b.root ≠ r) ∧ Below w.heap.size w wr) (fun i _ => n - (intOf i).toNat)
  case atStart => exact ⟨0, Nat.zero_le _, rfl, fun j _ hj => absurd hj (Nat.not_lt_zero _), Below.refl _ _⟩
  case round =>
    obtain ⟨k, hk, rfl, hno, hbel⟩ := hrel
    have HNO := bx hno
    have BY := bx hbel
    clear hno hbel
    by_cases hkn : k < n
    · have hkl : k < ns.length := by rw [HLEN.out]; exact hkn
      obtain ⟨g1, p1, rfl, hg1⟩ := (HROW.out.below BY.out).2.2 (by omega)
      have NK := bx (HROW.out.2.1)
      have CN := bx hg1
      have HI := bx (isRoot_any ns[k] (NK.out _ (List.getElem_mem hkl)) r HR.out br)
      have HBR := bx (HB.out.below BY.out HB.out.lt)
      have HLK := bx hkl
      have hki : (k : Int) < (n : Int) := by omega
      have hk0 : 0 ≤ (k : Int) := by omega
      clear hg1
      go_wp2_with ((with_reducible refine wpList_loadP (f := nc) (k := 240) 51 _ rfl ?_ g1 ns k ?_ p1 CN.out NK.out.len hkl Try.underlying51 ?_ ?_ ?_); rfl; rfl; rfl; kernel_rfl)
      refine (HI.out _ HBR.out).mono ?_; rintro e w2 ⟨rfl, hb⟩
      have B2 := bx (BY.out.trans (hb.mono BY.out.size))
      clear hb
      by_cases he : ns[k].b.root = r
      · have HFD : Bx (FK ns r k) := ⟨.inr ⟨k, hkl, rfl, he, fun j hj => HNO.out j (Nat.lt_trans hj hkl) hj⟩⟩
        rw [decide_eq_true he]
        clear he
        go_wp2_with fail
        go_ret
        exact ⟨⟨k, rfl, HFD.out⟩, B2.out⟩
      · have HNX : Bx (∀ j (hj : j < ns.length), j < k + 1 → ns[j].b.root ≠ r) := ⟨fun j hj hjk => by
          rcases Nat.lt_or_eq_of_le (Nat.le_of_lt_succ hjk) with h | h
          · exact HNO.out j hj h
          · subst h; exact he⟩
        rw [decide_eq_false he]
        clear he
        go_wp2_with fail
        go_roundw
        case rel => exact ⟨k + 1, by omega, by go_num, HNX.out, B2.out⟩
        case measure => simp [intOf]; omega
    · obtain rfl : k = n := by omega
      go_wp2_with fail
      go_ret
      exact ⟨⟨-1, rfl, .inl ⟨rfl, fun x hx => by
        obtain ⟨j, hj, rfl⟩ := List.getElem_of_mem hx
        exact HNO.out j hj (by rw [← HLEN.out]; exact hj)⟩⟩, BY.out⟩
set_option maxRecDepth 20000 in
set_option maxHeartbeats 1000000 in
theorem btFind_any (A : Option Addr) (n c : Nat) (ns : List Nd) (r : List Int) (hr : r.length = 32) (w : World) (h : NRow w A n ns) (hn : n ≤ 4096) :
    Calls Try.prog 60 #[.agg #[.slice A n c], .agg (ints .u8 r).toArray] w (FP ns r w) := by
  have hmf : ∀ (fn : Fn) (first cap : Array Value) (w : World), (Instr.makeFunc fn first cap).run Try.prog w = .ok (.func fn first cap) w := fun _ _ _ _ => rfl
  have EX := bx (((Below.refl w.heap.size w).alloc (Nat.le_refl _) (.cells #[.slice A n c] 25)).alloc (by simp) (.cells (ints .u8 r).toArray 41))
  have X1 : Bx (Has ((w.alloc (.cells #[.slice A n c] 25)).alloc (.cells (ints .u8 r).toArray 41)) (w.heap.size + 1) (ints .u8 r)) := ⟨by have := Has.new (w.alloc (.cells #[.slice A n c] 25)) (ints .u8 r) 41; simpa using this⟩
  have HI := bx (indexFunc_any A n c ns r hr (w.heap.size + 1) _ (h.below EX.out) X1.out hn)
  clear h hr
  go_enter Try.func60, Try.ntmps60
  go_wp2_with fail
  refine HI.out.mono ?_; rintro e w1 ⟨⟨k, rfl, hk⟩, hb⟩
  have FKK := bx hk
  have B1 := bx (EX.out.trans (hb.mono EX.out.size))
  clear hb hk
  go_wp2_with fail
  go_ret
  exact ⟨⟨k, rfl, FKK.out⟩, B1.out⟩
end Go.Proofs.Ytonkgjengplppaa
