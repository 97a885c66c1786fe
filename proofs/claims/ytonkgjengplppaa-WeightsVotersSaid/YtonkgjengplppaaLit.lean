/- Struct literals of blocks and nodes, any fields set; literal slices of nodes. -/
import Derived.Test.YtonkgjengplppaaInsertW
namespace Go.Proofs.Ytonkgjengplppaa
open Go.RowKit
def plB (i : Nat) : Option (Nat × Nat) := (#[(0, 66), (66, 1), (67, 32), (99, 32), (131, 32), (163, 4), (167, 4), (171, 33), (204, 33), (237, 1)] : Array (Nat × Nat))[i]?
def plN (i : Nat) : Option (Nat × Nat) := (#[(0, 238), (238, 1), (239, 1)] : Array (Nat × Nat))[i]?
theorem built_blk_fill (ps : List (Nat × Value)) : Try.prog.built 49 ps = Instr.fill plB (bc zBlk).toArray ps := by kernel_rfl
theorem built_nd_fill (ps : List (Nat × Value)) : Try.prog.built 51 ps = Instr.fill plN (nc zNode).toArray ps := by kernel_rfl
section
variable {b : Bk} {ps : List (Nat × Value)}
theorem fillB_root (h : BkOk b) {r : List Int} (hr : r.length = 32) : Instr.fill plB (bc b).toArray ((2, .agg (ints .u8 r).toArray) :: ps) = Instr.fill plB (bc { b with root := r }).toArray ps := by
  have e : bc b = (b.pre ++ [.int .u64 b.slot]) ++ ints .u8 b.root ++ (ints .u8 b.parent ++ b.rest) := by simp [bc]
  rw [e, fill_part plB (b.pre ++ [Value.int .u64 b.slot]) (ints .u8 b.root) _ (ints .u8 r) 2 _ _ (by simp [ints, h.pre, hr, plB]) rfl (by simp [ints, h.root, hr])]
  simp [bc]
theorem fillB_parent (h : BkOk b) {r : List Int} (hr : r.length = 32) : Instr.fill plB (bc b).toArray ((3, .agg (ints .u8 r).toArray) :: ps) = Instr.fill plB (bc { b with parent := r }).toArray ps := by
  have e : bc b = (b.pre ++ .int .u64 b.slot :: ints .u8 b.root) ++ ints .u8 b.parent ++ b.rest := by simp [bc]
  rw [e, fill_part plB (b.pre ++ Value.int .u64 b.slot :: ints .u8 b.root) (ints .u8 b.parent) _ (ints .u8 r) 3 _ _ (by simp [ints, h.pre, h.root, hr, plB]) rfl (by simp [ints, h.parent, hr])]
  simp [bc]
theorem fillB_slot (h : BkOk b) {s : Int} : Instr.fill plB (bc b).toArray ((1, .int .u64 s) :: ps) = Instr.fill plB (bc { b with slot := s }).toArray ps := by
  have e : bc b = b.pre ++ [.int .u64 b.slot] ++ (ints .u8 b.root ++ (ints .u8 b.parent ++ b.rest)) := by simp [bc]
  rw [e, fill_part plB b.pre [.int .u64 b.slot] _ [.int .u64 s] 1 _ _ (by simp [h.pre, plB]) rfl rfl]
  simp [bc]
variable {n : Nd}
theorem fillN_blk (h : BkOk n.b) {c : Bk} (hc : BkOk c) : Instr.fill plN (nc n).toArray ((0, .agg (bc c).toArray) :: ps) = Instr.fill plN (nc { n with b := c }).toArray ps := by
  have e : nc n = [] ++ bc n.b ++ [.int .i64 n.up, .int .i64 n.st] := by simp [nc]
  rw [e, fill_part plN [] (bc n.b) _ (bc c) 0 _ _ (by simp [hc.len, plN]) rfl (by rw [h.len, hc.len])]
  simp [nc]
theorem fillN_up (h : BkOk n.b) {u : Int} : Instr.fill plN (nc n).toArray ((1, .int .i64 u) :: ps) = Instr.fill plN (nc { n with up := u }).toArray ps := by
  have e : nc n = bc n.b ++ [.int .i64 n.up] ++ [.int .i64 n.st] := by simp [nc]
  rw [e, fill_part plN (bc n.b) [.int .i64 n.up] _ [.int .i64 u] 1 _ _ (by simp [h.len, plN]) rfl rfl]
  simp [nc]
theorem fillN_st (h : BkOk n.b) {u : Int} : Instr.fill plN (nc n).toArray ((2, .int .i64 u) :: ps) = Instr.fill plN (nc { n with st := u }).toArray ps := by
  have e : nc n = (bc n.b ++ [.int .i64 n.up]) ++ [.int .i64 n.st] ++ [] := by simp [nc]
  rw [e, fill_part plN (bc n.b ++ [Value.int .i64 n.up]) [.int .i64 n.st] _ [.int .i64 u] 2 _ _ (by simp [h.len, plN]) rfl rfl]
  simp [nc]
end
theorem fill_nil (p : Nat → Option (Nat × Nat)) (a : Array Value) : Instr.fill p a [] = some a := rfl
theorem zBlk_ok : BkOk zBlk := mkB_ok rfl rfl rfl
/-- literals -/
theorem lit_r {r : List Int} (hr : r.length = 32) : Try.prog.built 49 [(2, .agg (ints .u8 r).toArray)] = some (bc (mkB 0 r zroot zroot)).toArray := by
  rw [built_blk_fill, fillB_root zBlk_ok hr]; rfl
theorem lit_rps {r p : List Int} (hr : r.length = 32) (hp : p.length = 32) (s : Int) : Try.prog.built 49 [(2, .agg (ints .u8 r).toArray), (3, .agg (ints .u8 p).toArray), (1, .int .u64 s)] = some (bc (mkB s r p zroot)).toArray := by
  have k1 : BkOk { zBlk with root := r } := mkB_ok hr rfl rfl
  have k2 : BkOk { ({ zBlk with root := r } : Bk) with parent := p } := mkB_ok hr hp rfl
  rw [built_blk_fill, fillB_root zBlk_ok hr, fillB_parent k1 hp, fillB_slot k2]; rfl
theorem lit_n0 {b : Bk} (hb : BkOk b) : Try.prog.built 51 [(0, .agg (bc b).toArray)] = some (nc ⟨b, 0, 0⟩).toArray := by
  rw [built_nd_fill, fillN_blk zBlk_ok hb]; rfl
theorem lit_nu {b : Bk} (hb : BkOk b) (u : Int) : Try.prog.built 51 [(0, .agg (bc b).toArray), (1, .int .i64 u)] = some (nc ⟨b, u, 0⟩).toArray := by
  rw [built_nd_fill, fillN_blk zBlk_ok hb]
  exact fillN_up (n := ⟨b, 0, 0⟩) hb
theorem lit_ns {b : Bk} (hb : BkOk b) (s : Int) : Try.prog.built 51 [(0, .agg (bc b).toArray), (2, .int .i64 s)] = some (nc ⟨b, 0, s⟩).toArray := by
  rw [built_nd_fill, fillN_blk zBlk_ok hb]
  exact fillN_st (n := ⟨b, 0, 0⟩) hb
theorem lit_nus {b : Bk} (hb : BkOk b) (u s : Int) : Try.prog.built 51 [(0, .agg (bc b).toArray), (1, .int .i64 u), (2, .int .i64 s)] = some (nc ⟨b, u, s⟩).toArray := built_node hb u s
theorem fillS {pre post l : List Value} {m : Nd} {n : Nd} {i : Nat} {ps : List (Nat × Value)} (hm : BkOk m.b) (hn : BkOk n.b) (hp : pre.length = i * 240) :
    Instr.fill (fun i => some (i * 240, 240)) (pre ++ nc m ++ post).toArray ((i, .agg (nc n).toArray) :: ps) = Instr.fill (fun i => some (i * 240, 240)) (pre ++ nc n ++ post).toArray ps :=
  fill_part _ pre (nc m) post (nc n) i _ _ (by simp [hp, nc_len hn]) rfl (by rw [nc_len hm, nc_len hn])
theorem info_node2 : (Try.prog.info? 51).map (fun i => (i.zero.map (·.cells.toList), i.size)) = some (some (nc zNode), 240) := by kernel_rfl
theorem bs_fillN (n : Nat) (h0 : 0 < n) (hn : n ≤ 1000) (ps : List (Nat × Value)) : Try.prog.builtSlice 51 n ps = Instr.fill (fun i => some (i * 240, 240)) ((List.replicate n zNode).flatMap nc).toArray ps := by
  have h := info_node2
  cases hi : Try.prog.info? 51 with
  | none => rw [hi] at h; simp at h
  | some i =>
    rw [hi] at h
    simp only [Option.map_some, Option.some.injEq, Prod.mk.injEq] at h
    obtain ⟨h1, h2⟩ := h
    cases hz : i.zero with
    | none => rw [hz] at h1; simp at h1
    | some z =>
      rw [hz] at h1
      simp only [Option.map_some, Option.some.injEq] at h1
      have hm := made_flat nc zNode z.cells h1 (k := 240) (nc_len zBlk_ok) (by omega) n
      unfold Program.builtSlice
      simp only [hi, hz, h2]
      rw [if_neg (by omega)]
      exact congrArg (fun c => Instr.fill (fun i => some (i * 240, 240)) c ps) hm
theorem bs_fill2 (ps : List (Nat × Value)) : Try.prog.builtSlice 51 2 ps = Instr.fill (fun i => some (i * 240, 240)) (nc zNode ++ nc zNode).toArray ps := by
  rw [bs_fillN 2 (by omega) (by omega)]
  simp only [List.replicate, List.flatMap_cons, List.flatMap_nil, List.append_nil]
theorem bs_fill3 (ps : List (Nat × Value)) : Try.prog.builtSlice 51 3 ps = Instr.fill (fun i => some (i * 240, 240)) (nc zNode ++ (nc zNode ++ nc zNode)).toArray ps := by
  rw [bs_fillN 3 (by omega) (by omega)]
  simp only [List.replicate, List.flatMap_cons, List.flatMap_nil, List.append_nil]
theorem built_slice2 {a b : Nd} (ha : BkOk a.b) (hb : BkOk b.b) : Try.prog.builtSlice 51 2 [(0, .agg (nc a).toArray), (1, .agg (nc b).toArray)] = some ([a, b].flatMap nc).toArray := by
  rw [bs_fill2]
  have h1 := fillS (pre := []) (post := nc zNode) (l := []) (i := 0) (ps := [(1, .agg (nc b).toArray)]) (m := zNode) (n := a) zBlk_ok ha rfl
  have h2 := fillS (pre := nc a) (post := []) (l := []) (i := 1) (ps := []) (m := zNode) (n := b) zBlk_ok hb (by rw [nc_len ha])
  rw [List.append_nil] at h2
  rw [List.nil_append, List.nil_append] at h1
  rw [h1, h2, fill_nil]
  simp only [List.flatMap_cons, List.flatMap_nil, List.append_nil]
theorem built_slice3 {a b c : Nd} (ha : BkOk a.b) (hb : BkOk b.b) (hc : BkOk c.b) : Try.prog.builtSlice 51 3 [(0, .agg (nc a).toArray), (1, .agg (nc b).toArray), (2, .agg (nc c).toArray)] = some ([a, b, c].flatMap nc).toArray := by
  rw [bs_fill3]
  have h1 := fillS (pre := []) (post := nc zNode ++ nc zNode) (l := []) (i := 0) (ps := [(1, .agg (nc b).toArray), (2, .agg (nc c).toArray)]) (m := zNode) (n := a) zBlk_ok ha rfl
  have h2 := fillS (pre := nc a) (post := nc zNode) (l := []) (i := 1) (ps := [(2, .agg (nc c).toArray)]) (m := zNode) (n := b) zBlk_ok hb (by rw [nc_len ha])
  have h3 := fillS (pre := nc a ++ nc b) (post := []) (l := []) (i := 2) (ps := []) (m := zNode) (n := c) zBlk_ok hc (by rw [List.length_append, nc_len ha, nc_len hb])
  rw [List.nil_append, List.nil_append] at h1
  rw [List.append_nil] at h3
  rw [h1, ← List.append_assoc, h2, h3, fill_nil]
  simp only [List.flatMap_cons, List.flatMap_nil, List.append_nil, List.append_assoc]
end Go.Proofs.Ytonkgjengplppaa
