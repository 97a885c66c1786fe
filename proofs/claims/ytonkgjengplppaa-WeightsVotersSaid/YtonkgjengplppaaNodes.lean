/- Blocks and nodes of a tree in memory. -/
import Derived.Test.YtonkgjengplppaaRootEq
import Derived.Test.YtonkgjengplppaaMidP
import Derived.Great.Walk
namespace Go.Proofs.Ytonkgjengplppaa
open Go.RowKit

/-- a block: what lies ahead of its slot, its slot, its root, its parent, the rest -/
structure Bk where
  pre : List Value
  slot : Int
  root : List Int
  parent : List Int
  rest : List Value
def bc (b : Bk) : List Value := b.pre ++ (.int .u64 b.slot :: (ints .u8 b.root ++ (ints .u8 b.parent ++ b.rest)))
structure BkOk (b : Bk) : Prop where
  pre : b.pre.length = 66
  root : b.root.length = 32
  parent : b.parent.length = 32
  rest : b.rest.length = 107
  one1 : ∀ u ∈ b.pre, u.oneCell' = true
  one2 : ∀ u ∈ b.rest, u.oneCell' = true
theorem BkOk.len {b : Bk} (h : BkOk b) : (bc b).length = 238 := by simp [bc, ints, h.pre, h.root, h.parent, h.rest]
theorem BkOk.one {b : Bk} (h : BkOk b) : ∀ u ∈ bc b, u.oneCell' = true := fun u hu => by
  simp only [bc, List.mem_append, List.mem_cons] at hu
  rcases hu with hu | rfl | hu | hu | hu
  · exact h.one1 u hu
  · rfl
  · obtain ⟨x, _, rfl⟩ := List.mem_map.1 hu; rfl
  · obtain ⟨x, _, rfl⟩ := List.mem_map.1 hu; rfl
  · exact h.one2 u hu
/-- a node: its block, the index of its parent, its status -/
structure Nd where
  b : Bk
  up : Int
  st : Int
def nc (n : Nd) : List Value := bc n.b ++ [.int .i64 n.up, .int .i64 n.st]
def NOk (ns : List Nd) : Prop := ∀ x ∈ ns, BkOk x.b
theorem nc_len {n : Nd} (h : BkOk n.b) : (nc n).length = 240 := by simp [nc, h.len]
theorem NOk.len {ns : List Nd} (h : NOk ns) : ∀ x ∈ ns, (nc x).length = 240 := fun x hx => nc_len (h x hx)
theorem nc_one {n : Nd} (h : BkOk n.b) : ∀ u ∈ nc n, u.oneCell' = true := fun u hu => by
  rcases List.mem_append.1 hu with hu | hu
  · exact h.one u hu
  · simp only [List.mem_cons, List.mem_nil_iff, or_false] at hu
    rcases hu with rfl | rfl <;> rfl
/-- a slice of nodes at the head of a block -/
def NRow (w : World) (A : Option Addr) (n : Nat) (ns : List Nd) : Prop := ns.length = n ∧ NOk ns ∧ (0 < n → ∃ g post, A = some ⟨g, 0, none⟩ ∧ Has w g (ns.flatMap nc ++ post))
theorem NRow.below {w w' : World} {A : Option Addr} {n : Nat} {ns : List Nd} (h : NRow w A n ns) (hb : Below w.heap.size w w') : NRow w' A n ns :=
  ⟨h.1, h.2.1, fun hn => by
    obtain ⟨g, post, h1, h2⟩ := h.2.2 hn
    exact ⟨g, post, h1, h2.below hb h2.lt⟩⟩
theorem NRow.grown {w w' : World} {A : Option Addr} {n : Nat} {ns : List Nd} {row : Option Nat} (h : NRow w A n ns) (hg : w.grownBy w' row) (hne : ∀ ad, A = some ad → some ad.block ≠ row) : NRow w' A n ns :=
  ⟨h.1, h.2.1, fun hn => by
    obtain ⟨g, post, h1, h2⟩ := h.2.2 hn
    exact ⟨g, post, h1, h2.grown hg (hne _ h1)⟩⟩
/-- a part of a range -/
theorem range_part {w : World} {g o : Nat} {cs ds : List Value} (k : Nat) (h : w.rangeAt g o cs) (hp : ∀ j u, ds[j]? = some u → cs[k + j]? = some u) : w.rangeAt g (o + k) ds := fun j u hu => by
  rw [Nat.add_assoc]
  exact h _ _ (hp j u hu)
theorem Has.rangeAll {w : World} {g : Nat} {cs : List Value} (h : Has w g cs) : w.rangeAt g 0 cs := fun j u hu => by rw [h.cell, Nat.zero_add]; exact hu
theorem bc_slot {b : Bk} (h : BkOk b) : (bc b)[66]? = some (.int .u64 b.slot) := by
  unfold bc
  rw [List.getElem?_append_right (by rw [h.pre]; omega), h.pre]; rfl
theorem bc_root {b : Bk} (h : BkOk b) : ∀ j u, (ints .u8 b.root)[j]? = some u → (bc b)[67 + j]? = some u := fun j u hu => by
  have hj : j < (ints .u8 b.root).length := (List.getElem?_eq_some_iff.1 hu).1
  unfold bc
  rw [List.getElem?_append_right (by rw [h.pre]; omega), h.pre, show 67 + j - 66 = j + 1 by omega, List.getElem?_cons_succ, List.getElem?_append_left hj]
  exact hu
theorem bc_parent {b : Bk} (h : BkOk b) : ∀ j u, (ints .u8 b.parent)[j]? = some u → (bc b)[99 + j]? = some u := fun j u hu => by
  have hj : j < (ints .u8 b.parent).length := (List.getElem?_eq_some_iff.1 hu).1
  have hr : (ints .u8 b.root).length = 32 := by simp [ints, h.root]
  unfold bc
  rw [List.getElem?_append_right (by rw [h.pre]; omega), h.pre, show 99 + j - 66 = (32 + j) + 1 by omega, List.getElem?_cons_succ, List.getElem?_append_right (by omega), hr, Nat.add_sub_cancel_left, List.getElem?_append_left hj]
  exact hu
theorem nc_bc {n : Nd} (h : BkOk n.b) {k : Nat} {u : Value} (hk : (bc n.b)[k]? = some u) : (nc n)[k]? = some u := by
  unfold nc
  rw [List.getElem?_append_left (List.getElem?_eq_some_iff.1 hk).1]
  exact hk
theorem nc_up {n : Nd} (h : BkOk n.b) : (nc n)[238]? = some (.int .i64 n.up) := by
  unfold nc
  rw [List.getElem?_append_right (by rw [h.len]; omega), h.len]; rfl
theorem nc_st {n : Nd} (h : BkOk n.b) : (nc n)[239]? = some (.int .i64 n.st) := by
  unfold nc
  rw [List.getElem?_append_right (by rw [h.len]; omega), h.len]; rfl
/-- the root of node i, where it lies -/
theorem Has.nodeRoot {w : World} {g : Nat} {ns : List Nd} {post : List Value} (h : Has w g (ns.flatMap nc ++ post)) (hk : NOk ns) (i : Nat) (hi : i < ns.length) : w.rangeAt g (i * 240 + 67) (ints .u8 ns[i].b.root) :=
  range_part 67 (h.rangeP hk.len i hi) fun j u hu => nc_bc (hk _ (List.getElem_mem hi)) (bc_root (hk _ (List.getElem_mem hi)) j u hu)
theorem Has.nodeCell {w : World} {g : Nat} {ns : List Nd} {post : List Value} (h : Has w g (ns.flatMap nc ++ post)) (hk : NOk ns) (i : Nat) (hi : i < ns.length) (k : Nat) (u : Value) (hu : (nc ns[i])[k]? = some u) : w.cell? ⟨g, i * 240 + k, none⟩ = some u :=
  h.rangeP hk.len i hi k u hu
theorem wpList_loadR {P : Program} {ops : Array Oper} {rest : List Oper} {op : Oper} {a : Act} {w : World} {Q : Exit → Act → World → Prop} (ty : TypeId) (x : Operand) (ho : op.op = .load ty x)
    (hgd : Region.wanted op (yielded ops a.tmps) = true) (g o : Nat) (cs : List Value) (hr : w.rangeAt g o cs) (hx : a.eval x = .pointer (some ⟨g, o, none⟩)) {d : TypeDesc} (hu : P.underlying ty = some d) (hd : d.isRow = true) (hc : P.cellsOf ty = cs.length)
    (h : wpList P ops Q rest (a.put op.dst (.agg cs.toArray)) w) : wpList P ops Q (op :: rest) a w :=
  wpList_go hgd fun K hK => wp_load_mid ty x ho g o hx cs d hr hu hd (info_size hu hc) (hK _ _ h)
theorem quiet_loadRng {P : Program} {C : World → Prop} {op : Oper} {a : Act} {K : Act → Prop} (ty : TypeId) (x : Operand) (ho : op.op = .load ty x)
    (g o : Nat) (cs : List Value) (hx : a.eval x = .pointer (some ⟨g, o, none⟩)) (hr : ∀ w, C w → w.rangeAt g o cs)
    {d : TypeDesc} (hu : P.underlying ty = some d) (hd : d.isRow = true) (hc : P.cellsOf ty = cs.length)
    (h : K (a.put op.dst (.agg cs.toArray))) : op.quiet P a C K := by
  refine ⟨_, fun w hw => ?_, h⟩
  unfold Oper.quietAt execOp
  have := run_loadVar_mid (P := P) w g o ty cs d (hr w hw) hu hd (info_size hu hc)
  simp only [ho, hx, Instr.loadAt, Instr.sureAddr, Sem.run_bind, Sem.run_pure, Result.andThen_ok, this]
  exact ⟨rfl, rfl⟩
theorem quiet_cell {P : Program} {C : World → Prop} {o : Oper} {a : Act} {K : Act → Prop} (ty : TypeId) (x : Operand) (ho : o.op = .load ty x) (p : Addr) (v : Value)
    (hx : a.eval x = .pointer (some p)) (hr : ∀ w, C w → (Instr.loadAt ty (.pointer (some p))).run P w = .ok v w) (hk : K (a.put o.dst v)) : o.quiet P a C K := by
  refine ⟨_, fun w hw => ?_, hk⟩
  unfold Oper.quietAt execOp
  simp only [ho, hx, hr w hw, Sem.run_bind, Sem.run_pure, Result.andThen_ok]
  exact ⟨rfl, rfl⟩
theorem run_nodes1 {w : World} {p : Addr} {v : Value} (hc : w.cell? p = some v) : (Instr.loadAt 23 (.pointer (some p))).run Try.prog w = .ok v w := by
  simp [Instr.loadAt, Instr.sureAddr, loadVar, isAgg, run_underlying Try.underlying23, run_load, hc]
theorem run_int1 {w : World} {p : Addr} {v : Value} (hc : w.cell? p = some v) : (Instr.loadAt 3 (.pointer (some p))).run Try.prog w = .ok v w := by
  simp [Instr.loadAt, Instr.sureAddr, loadVar, isAgg, run_underlying Try.underlying3, run_load, hc]
theorem run_u641 {w : World} {p : Addr} {v : Value} (hc : w.cell? p = some v) : (Instr.loadAt 35 (.pointer (some p))).run Try.prog w = .ok v w := by
  simp [Instr.loadAt, Instr.sureAddr, loadVar, isAgg, run_underlying Try.underlying35, run_load, hc]
theorem cells_root {l : List Int} (h : l.length = 32) : Try.prog.cellsOf 41 = (ints .u8 l).length := by rw [ints, List.length_map, h]; kernel_rfl
/-- what Find answers -/
def FP (ns : List Nd) (r : List Int) (w : World) (e : Ending) (w' : World) : Prop :=
  (∃ k : Int, e = .returned (.int .i64 k) ∧ ((k = -1 ∧ ∀ x ∈ ns, x.b.root ≠ r) ∨ ∃ (i : Nat) (hi : i < ns.length), k = i ∧ ns[i].b.root = r ∧ ∀ j (hj : j < i), (ns[j]'(Nat.lt_trans hj hi)).b.root ≠ r)) ∧ Below w.heap.size w w'
set_option maxRecDepth 20000 in
set_option maxHeartbeats 1000000 in
theorem find_any (A : Option Addr) (n c : Nat) (ns : List Nd) (r : List Int) (hr : r.length = 32) (w : World) (h : NRow w A n ns) (hn : n ≤ 4096) :
    Calls Try.prog 25 #[.agg #[.slice A n c], .agg (ints .u8 r).toArray] w (FP ns r w) := by
  have HR := bx hr
  have HROW := bx h
  have HLEN := bx h.1
  have X0 : Bx (Has ((w.alloc (.cells #[.slice A n c] 25)).alloc (.cells (ints .u8 r).toArray 41)) w.heap.size [.slice A n c]) := ⟨(Has.new w [.slice A n c] 25).alloc _⟩
  have X1 : Bx (Has ((w.alloc (.cells #[.slice A n c] 25)).alloc (.cells (ints .u8 r).toArray 41)) (w.heap.size + 1) (ints .u8 r)) := ⟨by have := Has.new (w.alloc (.cells #[.slice A n c] 25)) (ints .u8 r) 41; simpa using this⟩
  have B0 : Bx (Below w.heap.size w ((w.alloc (.cells #[.slice A n c] 25)).alloc (.cells (ints .u8 r).toArray 41))) := ⟨((Below.refl w.heap.size w).alloc (Nat.le_refl _) _).alloc (by simp) _⟩
  clear h hr
  go_enter Try.func25, Try.ntmps25
  go_wp2_with fail
  go_loopw [5] (fun i wr => ∃ k : Nat, k ≤ n ∧ i = .int .i64 k ∧ (∀ j (hj : j < ns.length), j < k → ns[j].b.root ≠ r) ∧ Has wr w.heap.size [.slice A n c] ∧ Has wr (w.heap.size + 1) (ints .u8 r) ∧ Below w.heap.size w wr) (fun i _ => n - (intOf i).toNat)
  case atStart => exact ⟨0, Nat.zero_le _, rfl, fun j _ hj => absurd hj (Nat.not_lt_zero _), X0.out, X1.out, B0.out⟩
  case round =>
    obtain ⟨k, hk, rfl, hno, hx0, hx1, hbel⟩ := hrel
    have HNO := bx hno
    have Y0 := bx hx0
    have Y1 := bx hx1
    have BY := bx hbel
    clear hno hx0 hx1 hbel X0 X1 B0
    have CN := bx (fun (w1 : World) (h1 : Cls wr.heap.size wr w1) => run_nodes1 ((Y0.out.below h1.out Y0.out.lt).cell 0))
    have hc : wr.cell? ⟨w.heap.size, 0, none⟩ = some (.slice A n c) := Y0.out.cell 0
    by_cases hkn : k < n
    · have hkl : k < ns.length := by rw [HLEN.out]; exact hkn
      obtain ⟨g1, p1, rfl, hg1⟩ := (HROW.out.below BY.out).2.2 (by omega)
      have CR := bx (fun (w1 : World) (h1 : Cls wr.heap.size wr w1) => (hg1.below h1.out hg1.lt).nodeRoot HROW.out.2.1 k hkl)
      have C1 := bx (fun (w1 : World) (h1 : Cls wr.heap.size wr w1) => Y1.out.below h1.out Y1.out.lt)
      have HRK := bx ((HROW.out.2.1 _ (List.getElem_mem hkl)).root)
      have hq := root_same HRK.out HR.out
      have HFD : Bx (ns[k].b.root = r → ∀ w', Below w.heap.size w w' → FP ns r w (.returned (.int .i64 k)) w') := ⟨fun e w' h =>
        ⟨⟨k, rfl, .inr ⟨k, hkl, rfl, e, fun j hj => HNO.out j (Nat.lt_trans hj hkl) hj⟩⟩, h⟩⟩
      have HNX : Bx (ns[k].b.root ≠ r → ∀ j (hj : j < ns.length), j < k + 1 → ns[j].b.root ≠ r) := ⟨fun e j hj hjk => by
        rcases Nat.lt_or_eq_of_le (Nat.le_of_lt_succ hjk) with h | h
        · exact HNO.out j hj h
        · subst h; exact e⟩
      have hki : (k : Int) < (n : Int) := by omega
      have hk0 : 0 ≤ (k : Int) := by omega
      clear hg1
      generalize ns[k].b.root = rk at *
      by_cases he : rk = r
      · rw [decide_eq_true he] at hq
        have HE := bx he
        clear he
        go_wp2_with fail
        refine region_cls wr.heap.size (by kernel_rfl) (by kernel_rfl) ?_
        repeat (first | go_big_quiet_skip | (go_big_quiet_want; first | (first | ((with_reducible refine quiet_cell 23 _ rfl _ _ ?_ CN.out ?_); rfl; go_big_quiet_on; (simp only [Act.put, List.setIfInBounds_toArray, List.set_cons_succ, List.set_cons_zero])) | ((with_reducible refine quiet_loadRng 41 _ rfl g1 (k * 240 + 67) (ints .u8 rk) ?_ CR.out Try.underlying41 ?_ ?_ ?_); rfl; rfl; exact cells_root HRK.out; go_big_quiet_on; (simp only [Act.put, List.setIfInBounds_toArray, List.set_cons_succ, List.set_cons_zero])) | ((with_reducible refine quiet_loadC 41 _ rfl _ (ints .u8 r) ?_ C1.out Try.underlying41 rfl ?_ ?_); rfl; exact cells_root HR.out; go_big_quiet_on; (simp only [Act.put, List.setIfInBounds_toArray, List.set_cons_succ, List.set_cons_zero]))) | (go_big_quiet_op; first | go_big_quiet_on | ((with_reducible refine ⟨_, fun _ _ => rfl, ?_⟩); go_big_quiet_on))))
        refine wpQuiet_nil ?_
        intro w4 hw4
        have B4 := bx (BY.out.trans (hw4.out.mono BY.out.size))
        clear hw4
        go_wp2_with fail
        go_ret
        exact HFD.out HE.out _ B4.out
      · rw [decide_eq_false he] at hq
        have HE := bx he
        clear he
        go_wp2_with fail
        refine region_cls wr.heap.size (by kernel_rfl) (by kernel_rfl) ?_
        repeat (first | go_big_quiet_skip | (go_big_quiet_want; first | (first | ((with_reducible refine quiet_cell 23 _ rfl _ _ ?_ CN.out ?_); rfl; go_big_quiet_on; (simp only [Act.put, List.setIfInBounds_toArray, List.set_cons_succ, List.set_cons_zero])) | ((with_reducible refine quiet_loadRng 41 _ rfl g1 (k * 240 + 67) (ints .u8 rk) ?_ CR.out Try.underlying41 ?_ ?_ ?_); rfl; rfl; exact cells_root HRK.out; go_big_quiet_on; (simp only [Act.put, List.setIfInBounds_toArray, List.set_cons_succ, List.set_cons_zero])) | ((with_reducible refine quiet_loadC 41 _ rfl _ (ints .u8 r) ?_ C1.out Try.underlying41 rfl ?_ ?_); rfl; exact cells_root HR.out; go_big_quiet_on; (simp only [Act.put, List.setIfInBounds_toArray, List.set_cons_succ, List.set_cons_zero]))) | (go_big_quiet_op; first | go_big_quiet_on | ((with_reducible refine ⟨_, fun _ _ => rfl, ?_⟩); go_big_quiet_on))))
        refine wpQuiet_nil ?_
        intro w4 hw4
        have B4 := bx (BY.out.trans (hw4.out.mono BY.out.size))
        have Y4 := bx (Y0.out.below hw4.out Y0.out.lt)
        have Y5 := bx (Y1.out.below hw4.out Y1.out.lt)
        clear hw4
        go_wp2_with fail
        go_roundw
        case rel => exact ⟨k + 1, by omega, by go_num, HNX.out HE.out, Y4.out, Y5.out, B4.out⟩
        case measure => simp [intOf]; omega
    · obtain rfl : k = n := by omega
      go_wp2_with fail
      go_ret
      exact ⟨⟨-1, rfl, .inl ⟨rfl, fun x hx => by
        obtain ⟨j, hj, rfl⟩ := List.getElem_of_mem hx
        exact HNO.out j hj (by rw [← HLEN.out]; exact hj)⟩⟩, BY.out⟩
end Go.Proofs.Ytonkgjengplppaa
