/- Blocks and nodes: struct literals, new variables. -/
import Derived.Test.YtonkgjengplppaaNodes
import Derived.Laws.Tables
namespace Go.Proofs.Ytonkgjengplppaa
open Go.RowKit

theorem root32 {l : List Int} (h : l.length = 32) : ∃ x0 x1 x2 x3 x4 x5 x6 x7 x8 x9 x10 x11 x12 x13 x14 x15 x16 x17 x18 x19 x20 x21 x22 x23 x24 x25 x26 x27 x28 x29 x30 x31 : Int, l = [x0, x1, x2, x3, x4, x5, x6, x7, x8, x9, x10, x11, x12, x13, x14, x15, x16, x17, x18, x19, x20, x21, x22, x23, x24, x25, x26, x27, x28, x29, x30, x31] := by
  match l, h with
  | [x0, x1, x2, x3, x4, x5, x6, x7, x8, x9, x10, x11, x12, x13, x14, x15, x16, x17, x18, x19, x20, x21, x22, x23, x24, x25, x26, x27, x28, x29, x30, x31], _ => exact ⟨x0, x1, x2, x3, x4, x5, x6, x7, x8, x9, x10, x11, x12, x13, x14, x15, x16, x17, x18, x19, x20, x21, x22, x23, x24, x25, x26, x27, x28, x29, x30, x31, rfl⟩
/-- a checkpoint, zero -/
def zck : List Value := .int .u64 0 :: ints .u8 zroot
def zpre : List Value := zck ++ zck
def zrest (payload : List Int) : List Value := ints .u8 payload ++ (List.replicate 8 (.int .u64 0) ++ (zck ++ (zck ++ [.bool false])))
/-- a block of which slot, root, parent and payload are set -/
def mkB (slot : Int) (root parent payload : List Int) : Bk := ⟨zpre, slot, root, parent, zrest payload⟩
def zBlk : Bk := mkB 0 zroot zroot zroot
def zNode : Nd := ⟨zBlk, 0, 0⟩
theorem mkB_ok {s : Int} {r p y : List Int} (hr : r.length = 32) (hp : p.length = 32) (hy : y.length = 32) : BkOk (mkB s r p y) where
  pre := rfl
  root := hr
  parent := hp
  rest := by simp [mkB, zrest, ints, hy, zck, zroot]
  one1 := fun u hu => by
    have : (zpre.all fun u => u.oneCell') = true := by kernel_rfl
    exact List.all_eq_true.1 this u hu
  one2 := fun u hu => by
    rcases List.mem_append.1 hu with hu | hu
    · obtain ⟨x, _, rfl⟩ := List.mem_map.1 hu; rfl
    · have : ((List.replicate 8 (Value.int .u64 0) ++ (zck ++ (zck ++ [Value.bool false]))).all fun u => u.oneCell') = true := by kernel_rfl
      exact List.all_eq_true.1 this u hu
theorem built_all (x0 x1 x2 x3 x4 x5 x6 x7 x8 x9 x10 x11 x12 x13 x14 x15 x16 x17 x18 x19 x20 x21 x22 x23 x24 x25 x26 x27 x28 x29 x30 x31 y0 y1 y2 y3 y4 y5 y6 y7 y8 y9 y10 y11 y12 y13 y14 y15 y16 y17 y18 y19 y20 y21 y22 y23 y24 y25 y26 y27 y28 y29 y30 y31 z0 z1 z2 z3 z4 z5 z6 z7 z8 z9 z10 z11 z12 z13 z14 z15 z16 z17 z18 z19 z20 z21 z22 z23 z24 z25 z26 z27 z28 z29 z30 z31 s : Int) : Try.prog.built 49 [(2, .agg (ints .u8 [x0, x1, x2, x3, x4, x5, x6, x7, x8, x9, x10, x11, x12, x13, x14, x15, x16, x17, x18, x19, x20, x21, x22, x23, x24, x25, x26, x27, x28, x29, x30, x31]).toArray), (3, .agg (ints .u8 [y0, y1, y2, y3, y4, y5, y6, y7, y8, y9, y10, y11, y12, y13, y14, y15, y16, y17, y18, y19, y20, y21, y22, y23, y24, y25, y26, y27, y28, y29, y30, y31]).toArray), (1, .int .u64 s), (4, .agg (ints .u8 [z0, z1, z2, z3, z4, z5, z6, z7, z8, z9, z10, z11, z12, z13, z14, z15, z16, z17, z18, z19, z20, z21, z22, z23, z24, z25, z26, z27, z28, z29, z30, z31]).toArray)] = some (bc (mkB s [x0, x1, x2, x3, x4, x5, x6, x7, x8, x9, x10, x11, x12, x13, x14, x15, x16, x17, x18, x19, x20, x21, x22, x23, x24, x25, x26, x27, x28, x29, x30, x31] [y0, y1, y2, y3, y4, y5, y6, y7, y8, y9, y10, y11, y12, y13, y14, y15, y16, y17, y18, y19, y20, y21, y22, y23, y24, y25, y26, y27, y28, y29, y30, y31] [z0, z1, z2, z3, z4, z5, z6, z7, z8, z9, z10, z11, z12, z13, z14, z15, z16, z17, z18, z19, z20, z21, z22, z23, z24, z25, z26, z27, z28, z29, z30, z31])).toArray := by kernel_rfl
theorem built_first (x0 x1 x2 x3 x4 x5 x6 x7 x8 x9 x10 x11 x12 x13 x14 x15 x16 x17 x18 x19 x20 x21 x22 x23 x24 x25 x26 x27 x28 x29 x30 x31 z0 z1 z2 z3 z4 z5 z6 z7 z8 z9 z10 z11 z12 z13 z14 z15 z16 z17 z18 z19 z20 z21 z22 z23 z24 z25 z26 z27 z28 z29 z30 z31 : Int) : Try.prog.built 49 [(2, .agg (ints .u8 [x0, x1, x2, x3, x4, x5, x6, x7, x8, x9, x10, x11, x12, x13, x14, x15, x16, x17, x18, x19, x20, x21, x22, x23, x24, x25, x26, x27, x28, x29, x30, x31]).toArray), (4, .agg (ints .u8 [z0, z1, z2, z3, z4, z5, z6, z7, z8, z9, z10, z11, z12, z13, z14, z15, z16, z17, z18, z19, z20, z21, z22, z23, z24, z25, z26, z27, z28, z29, z30, z31]).toArray)] = some (bc (mkB 0 [x0, x1, x2, x3, x4, x5, x6, x7, x8, x9, x10, x11, x12, x13, x14, x15, x16, x17, x18, x19, x20, x21, x22, x23, x24, x25, x26, x27, x28, x29, x30, x31] zroot [z0, z1, z2, z3, z4, z5, z6, z7, z8, z9, z10, z11, z12, z13, z14, z15, z16, z17, z18, z19, z20, z21, z22, z23, z24, z25, z26, z27, z28, z29, z30, z31])).toArray := by kernel_rfl
theorem built_blk {r p y : List Int} (hr : r.length = 32) (hp : p.length = 32) (hy : y.length = 32) (s : Int) : Try.prog.built 49 [(2, .agg (ints .u8 r).toArray), (3, .agg (ints .u8 p).toArray), (1, .int .u64 s), (4, .agg (ints .u8 y).toArray)] = some (bc (mkB s r p y)).toArray := by
  obtain ⟨x0, x1, x2, x3, x4, x5, x6, x7, x8, x9, x10, x11, x12, x13, x14, x15, x16, x17, x18, x19, x20, x21, x22, x23, x24, x25, x26, x27, x28, x29, x30, x31, rfl⟩ := root32 hr
  obtain ⟨y0, y1, y2, y3, y4, y5, y6, y7, y8, y9, y10, y11, y12, y13, y14, y15, y16, y17, y18, y19, y20, y21, y22, y23, y24, y25, y26, y27, y28, y29, y30, y31, rfl⟩ := root32 hp
  obtain ⟨z0, z1, z2, z3, z4, z5, z6, z7, z8, z9, z10, z11, z12, z13, z14, z15, z16, z17, z18, z19, z20, z21, z22, z23, z24, z25, z26, z27, z28, z29, z30, z31, rfl⟩ := root32 hy
  exact built_all x0 x1 x2 x3 x4 x5 x6 x7 x8 x9 x10 x11 x12 x13 x14 x15 x16 x17 x18 x19 x20 x21 x22 x23 x24 x25 x26 x27 x28 x29 x30 x31 y0 y1 y2 y3 y4 y5 y6 y7 y8 y9 y10 y11 y12 y13 y14 y15 y16 y17 y18 y19 y20 y21 y22 y23 y24 y25 y26 y27 y28 y29 y30 y31 z0 z1 z2 z3 z4 z5 z6 z7 z8 z9 z10 z11 z12 z13 z14 z15 z16 z17 z18 z19 z20 z21 z22 z23 z24 z25 z26 z27 z28 z29 z30 z31 s
theorem built_blk0 {r y : List Int} (hr : r.length = 32) (hy : y.length = 32) : Try.prog.built 49 [(2, .agg (ints .u8 r).toArray), (4, .agg (ints .u8 y).toArray)] = some (bc (mkB 0 r zroot y)).toArray := by
  obtain ⟨x0, x1, x2, x3, x4, x5, x6, x7, x8, x9, x10, x11, x12, x13, x14, x15, x16, x17, x18, x19, x20, x21, x22, x23, x24, x25, x26, x27, x28, x29, x30, x31, rfl⟩ := root32 hr
  obtain ⟨z0, z1, z2, z3, z4, z5, z6, z7, z8, z9, z10, z11, z12, z13, z14, z15, z16, z17, z18, z19, z20, z21, z22, z23, z24, z25, z26, z27, z28, z29, z30, z31, rfl⟩ := root32 hy
  exact built_first x0 x1 x2 x3 x4 x5 x6 x7 x8 x9 x10 x11 x12 x13 x14 x15 x16 x17 x18 x19 x20 x21 x22 x23 x24 x25 x26 x27 x28 x29 x30 x31 z0 z1 z2 z3 z4 z5 z6 z7 z8 z9 z10 z11 z12 z13 z14 z15 z16 z17 z18 z19 z20 z21 z22 z23 z24 z25 z26 z27 z28 z29 z30 z31
theorem zero_blk (w : World) : (zeroValue 49).run Try.prog w = .ok (.agg (bc zBlk).toArray) w := by kernel_rfl
theorem zero_node (w : World) : (zeroValue 51).run Try.prog w = .ok (.agg (nc zNode).toArray) w := by kernel_rfl
theorem fill_part (place : Nat → Option (Nat × Nat)) (pre mid post l : List Value) (i : Nat) (v : Value) (rest : List (Nat × Value)) (hp : place i = some (pre.length, l.length)) (hv : v.cells = l.toArray) (hm : mid.length = l.length) :
    Instr.fill place (pre ++ mid ++ post).toArray ((i, v) :: rest) = Instr.fill place (pre ++ l ++ post).toArray rest := by
  have h1 : v.cells.zipIdx.foldl (fun cs (x : Value × Nat) => cs.setIfInBounds (pre.length + x.2) x.1) (pre ++ mid ++ post).toArray = (pre ++ l ++ post).toArray := by
    have := fold_set pre.length l mid pre post 0 hm (by omega)
    rw [hv, ← Array.foldl_toList, Array.toList_zipIdx]
    exact this
  rw [Instr.fill]
  simp only [hp]
  rw [if_neg (by rw [hv]; simp; omega)]
  exact congrArg (fun c => Instr.fill place c rest) h1
theorem built_node_fill (ps : List (Nat × Value)) : Try.prog.built 51 ps = Instr.fill (fun i => (#[(0, 238), (238, 1), (239, 1)] : Array (Nat × Nat))[i]?) (nc zNode).toArray ps := by kernel_rfl
theorem built_node {b : Bk} (h : BkOk b) (u s : Int) : Try.prog.built 51 [(0, .agg (bc b).toArray), (1, .int .i64 u), (2, .int .i64 s)] = some (nc ⟨b, u, s⟩).toArray := by
  rw [built_node_fill]
  have e0 : nc zNode = [] ++ bc zBlk ++ [.int .i64 0, .int .i64 0] := rfl
  rw [e0, fill_part _ [] (bc zBlk) _ (bc b) 0 _ _ (by rw [h.len]; rfl) rfl (by rw [h.len]; rfl)]
  have e1 : [] ++ bc b ++ [Value.int .i64 0, .int .i64 0] = bc b ++ [.int .i64 0] ++ [.int .i64 0] := by simp
  rw [e1, fill_part _ (bc b) [.int .i64 0] _ [.int .i64 u] 1 _ _ (by rw [h.len]; rfl) rfl rfl]
  have e2 : bc b ++ [Value.int .i64 u] ++ [.int .i64 0] = (bc b ++ [.int .i64 u]) ++ [.int .i64 0] ++ [] := by simp
  rw [e2, fill_part _ (bc b ++ [Value.int .i64 u]) [Value.int .i64 0] _ [Value.int .i64 s] 2 _ _ (by simp [h.len]) rfl rfl]
  simp [Instr.fill, nc]
theorem wpList_buildTo {P : Program} {ops : Array Oper} {rest : List Oper} {o : Oper} {a : Act} {w : World} {Q : Exit → Act → World → Prop} (hg : o.guard = none) (t : TypeId) (parts : Array (Nat × Operand)) (ho : o.op = .build t parts)
    (ps : List (Nat × Value)) (cells : List Value) (hps : parts.toList.map (fun x => (x.1, a.eval x.2)) = ps) (hf : P.built t ps = some cells.toArray) (h : wpList P ops Q rest (a.put o.dst (.agg cells.toArray)) w) : wpList P ops Q (o :: rest) a w :=
  wpList_plain hg fun K hK => by
    have e : (parts.map fun (i, x) => (i, a.eval x)) = ps.toArray := Array.ext' (by rw [Array.toList_map]; exact hps)
    have := run_build (P := P) w t ps.toArray cells.toArray hf
    unfold Oper.wp execOp
    simp only [ho, e, this, Sem.run_bind, Result.andThen_ok]
    exact hK _ _ h
theorem quiet_build {P : Program} {C : World → Prop} {o : Oper} {a : Act} {K : Act → Prop} (t : TypeId) (parts : Array (Nat × Operand)) (ho : o.op = .build t parts)
    (ps : List (Nat × Value)) (cells : List Value) (hps : parts.toList.map (fun x => (x.1, a.eval x.2)) = ps) (hf : P.built t ps = some cells.toArray) (h : K (a.put o.dst (.agg cells.toArray))) : o.quiet P a C K := by
  refine ⟨_, fun w _ => ?_, h⟩
  have e : (parts.map fun (i, x) => (i, a.eval x)) = ps.toArray := Array.ext' (by rw [Array.toList_map]; exact hps)
  have := run_build (P := P) w t ps.toArray cells.toArray hf
  unfold Oper.quietAt execOp
  simp only [ho, e, this, Sem.run_bind, Result.andThen_ok]
  exact ⟨rfl, rfl⟩
theorem run_allocZ {P : Program} {ty : TypeId} {cs : List Value} (hz : ∀ w, (zeroValue ty).run P w = .ok (.agg cs.toArray) w) {o : Oper} {a : Act} {w : World} (ho : o.op = .alloc ty) :
    (execOp a.eval o).run P w = .ok (.value (.pointer (some ⟨w.heap.size, 0, none⟩))) (w.alloc (.cells cs.toArray ty)) := by
  unfold execOp
  simp only [ho]
  simp [Instr.alloc, Sem.run_bind, hz, newVar, Value.cells, newRow]
end Go.Proofs.Ytonkgjengplppaa
