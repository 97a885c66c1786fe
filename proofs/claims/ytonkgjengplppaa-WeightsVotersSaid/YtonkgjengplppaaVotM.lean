/- Votes of a tree, in memory. -/
import Derived.Test.YtonkgjengplppaaRefApM
import Derived.Test.YtonkgjengplppaaPush
import Derived.Test.YtonkgjengplppaaLit
import Derived.Test.YtonkgjengplppaaNum
namespace Go.Proofs.Ytonkgjengplppaa
open Go.RowKit
/-- a vote: is there one, its epoch, its root -/
abbrev Vt := Bool × Int × List Int
def vc (v : Vt) : List Value := .bool v.1 :: .int .u64 v.2.1 :: ints .u8 v.2.2
def zv : Vt := (false, 0, zroot)
def VOk (vs : List Vt) : Prop := ∀ v ∈ vs, v.2.2.length = 32 ∧ Bt v.2.2
theorem vc_len {v : Vt} (h : v.2.2.length = 32) : (vc v).length = 34 := by simp [vc, ints, h]
theorem VOk.len {vs : List Vt} (h : VOk vs) : ∀ v ∈ vs, (vc v).length = 34 := fun v hv => vc_len (h v hv).1
theorem vc_one (v : Vt) : ∀ u ∈ vc v, u.oneCell' = true := fun u hu => by
  simp only [vc, List.mem_cons] at hu
  rcases hu with rfl | rfl | hu
  · rfl
  · rfl
  · exact one_ints _ _ u hu
theorem info_vote : (Try.prog.info? 54).map (fun i => (i.zero, i.size, i.bytes)) = some (some (.agg (vc zv).toArray), 34, 48) := by kernel_rfl
theorem zero_vote (w : World) : (zeroValue 54).run Try.prog w = .ok (.agg (vc zv).toArray) w := by kernel_rfl
theorem cells_vote {v : Vt} (h : v.2.2.length = 32) : Try.prog.cellsOf 54 = (vc v).length := by rw [vc_len h]; kernel_rfl
theorem cells_vote' : Try.prog.cellsOf 54 = 34 := by kernel_rfl
theorem vlen0 {v : Vt} (h : v.2.2.length = 32) : (vc zv).length = (vc v).length := by rw [vc_len h]; rfl
theorem zv_lit : #[Value.bool false, Value.int .u64 0, Value.int .u8 0, Value.int .u8 0, Value.int .u8 0, Value.int .u8 0, Value.int .u8 0, Value.int .u8 0, Value.int .u8 0, Value.int .u8 0, Value.int .u8 0, Value.int .u8 0, Value.int .u8 0, Value.int .u8 0, Value.int .u8 0, Value.int .u8 0, Value.int .u8 0, Value.int .u8 0, Value.int .u8 0, Value.int .u8 0, Value.int .u8 0, Value.int .u8 0, Value.int .u8 0, Value.int .u8 0, Value.int .u8 0, Value.int .u8 0, Value.int .u8 0, Value.int .u8 0, Value.int .u8 0, Value.int .u8 0, Value.int .u8 0, Value.int .u8 0, Value.int .u8 0, Value.int .u8 0] = (vc zv).toArray := rfl
theorem cells_votes (a b : Value) : Try.prog.cellsOf 28 = [a, b].length := by kernel_rfl
def plV (i : Nat) : Option (Nat × Nat) := (#[(0, 1), (1, 1), (2, 32)] : Array (Nat × Nat))[i]?
theorem built_vote_fill (ps : List (Nat × Value)) : Try.prog.built 54 ps = Instr.fill plV (vc zv).toArray ps := by kernel_rfl
theorem built_vote0 : Try.prog.built 54 [] = some (vc zv).toArray := by rw [built_vote_fill]; rfl
theorem built_vote {r : List Int} (hr : r.length = 32) (e : Int) : Try.prog.built 54 [(0, .bool true), (1, .int .u64 e), (2, .agg (ints .u8 r).toArray)] = some (vc (true, e, r)).toArray := by
  rw [built_vote_fill]
  have e0 : vc zv = [] ++ [.bool false] ++ (.int .u64 0 :: ints .u8 zroot) := rfl
  rw [e0, fill_part plV [] [.bool false] _ [.bool true] 0 _ _ rfl rfl rfl]
  have e1 : [] ++ [Value.bool true] ++ (.int .u64 0 :: ints .u8 zroot) = [.bool true] ++ [.int .u64 0] ++ ints .u8 zroot := rfl
  rw [e1, fill_part plV [.bool true] [.int .u64 0] _ [.int .u64 e] 1 _ _ rfl rfl rfl]
  have e2 : [Value.bool true] ++ [.int .u64 e] ++ ints .u8 zroot = [.bool true, .int .u64 e] ++ ints .u8 zroot ++ [] := by simp
  rw [e2, fill_part plV [.bool true, .int .u64 e] (ints .u8 zroot) [] (ints .u8 r) 2 _ _ (by simp [plV, ints, hr]) rfl (by simp [ints, hr, zroot])]
  simp [Instr.fill, vc]
theorem bs_vote (ps : List (Nat × Value)) : Try.prog.builtSlice 54 1 ps = Instr.fill (fun i => some (i * 34, 34)) (vc zv).toArray ps := by kernel_rfl
theorem built_sliceV {v : Vt} (h : v.2.2.length = 32) : Try.prog.builtSlice 54 1 [(0, .agg (vc v).toArray)] = some (vc v).toArray := by
  rw [bs_vote]
  have e0 : vc zv = [] ++ vc zv ++ [] := by simp
  rw [e0, fill_part _ [] (vc zv) [] (vc v) 0 _ _ (by rw [vc_len h]; rfl) rfl (by rw [vc_len h]; rfl)]
  simp [Instr.fill]
theorem has_newAt {w : World} {g : Nat} (hg : w.heap.size = g) (cs : List Value) (t : TypeId) : Has (w.alloc (.cells cs.toArray t)) g cs := hg ▸ Has.new w cs t
/-- a slice is written into a cell -/
theorem wpList_storeS {P : Program} {ops : Array Oper} {rest : List Oper} {op : Oper} {a : Act} {w : World} {Q : Exit → Act → World → Prop} (hgd : op.guard = none) (ty : TypeId) (x y : Operand) (ho : op.op = .store ty x y)
    (g i : Nat) (A : Option Addr) (n c : Nat) (cs : List Value) (hx : a.eval x = .pointer (some ⟨g, i, none⟩)) (hy : a.eval y = .slice A n c) (hg : Has w g cs) (hi : i < cs.length) {d : TypeDesc} (hu : P.underlying ty = some d) (hc : P.cellsOf ty = 1)
    (h : ∀ w', Has w' g (cs.set i (.slice A n c)) → w.grownBy w' (some g) → wpList P ops Q rest (a.put op.dst undef) w') : wpList P ops Q (op :: rest) a w := by
  have ht : w.there g i (#[Value.slice A n c] : Array Value).size := fun j hj => by
    have hj0 : j = 0 := by simpa using hj
    subst hj0
    rw [Nat.add_zero, hg.cell i, hg.frozen i, List.getElem?_eq_getElem hi]
    exact ⟨rfl, rfl⟩
  have hr : (Instr.storeAt ty (.pointer (some ⟨g, i, none⟩)) (.slice A n c)).run P w = .ok () (w.setCells g i [.slice A n c]) :=
    run_storeAt_mid (P := P) w g i ty #[.slice A n c] ht (info_size hu hc) (all_oneCell_toArray (cs := [Value.slice A n c]) (fun u hu => by simp at hu; subst hu; rfl))
  refine wpList_plain hgd fun K hK => ?_
  unfold Oper.wp execOp
  simp only [ho, hx, hy, hr, Sem.run_bind, Sem.run_pure, Result.andThen_ok, Oper.upon]
  exact hK _ _ (h _ (hg.set i _) (grown_setCell w g i _))
/-- a root is written into a vote -/
theorem wpList_storeV {ops : Array Oper} {rest : List Oper} {op : Oper} {a : Act} {w : World} {Q : Exit → Act → World → Prop} (hgd : op.guard = none) (x y : Operand) (ho : op.op = .store 41 x y)
    (g : Nat) (v : Vt) (r : List Int) (hx : a.eval x = .pointer (some ⟨g, 2, none⟩)) (hy : a.eval y = .agg (ints .u8 r).toArray) (hg : Has w g (vc v)) (hv : v.2.2.length = 32) (hr : r.length = 32)
    (h : ∀ w', Has w' g (vc (v.1, v.2.1, r)) → w.grownBy w' (some g) → w'.heap.size = w.heap.size → wpList Try.prog ops Q rest (a.put op.dst undef) w') : wpList Try.prog ops Q (op :: rest) a w := by
  refine wpList_storeM hgd 41 x y ho g 2 [.bool v.1, .int .u64 v.2.1] (ints .u8 v.2.2) (ints .u8 r) [] rfl hx hy ?_ (by simp [ints, hv, hr]) Try.underlying41 (cells_root hr) (one_ints _ _) fun w' h1 h2 h3 => h w' ?_ h2 h3
  · have e : [Value.bool v.1, .int .u64 v.2.1] ++ ints .u8 v.2.2 ++ [] = vc v := by simp [vc]
    rw [e]; exact hg
  · have e : [Value.bool v.1, .int .u64 v.2.1] ++ ints .u8 r ++ [] = vc (v.1, v.2.1, r) := by simp [vc]
    rw [← e]; exact h1
/-- votes as a row; numbers of validators as a row -/
def VRow (w : World) (A : Option Addr) (n : Nat) (vs : List Vt) : Prop := vs.length = n ∧ VOk vs ∧ (0 < n → ∃ g post, A = some ⟨g, 0, none⟩ ∧ Has w g (vs.flatMap vc ++ post))
def GRow (w : World) (A : Option Addr) (n : Nat) (G : List Int) : Prop := G.length = n ∧ (0 < n → ∃ g post, A = some ⟨g, 0, none⟩ ∧ Has w g (ints .i64 G ++ post))
theorem VRow.below {w w' : World} {A : Option Addr} {n : Nat} {vs : List Vt} (h : VRow w A n vs) (hb : Below w.heap.size w w') : VRow w' A n vs :=
  ⟨h.1, h.2.1, fun hn => by obtain ⟨g, post, e, hg⟩ := h.2.2 hn; exact ⟨g, post, e, hg.below hb hg.lt⟩⟩
theorem GRow.below {w w' : World} {A : Option Addr} {n : Nat} {G : List Int} (h : GRow w A n G) (hb : Below w.heap.size w w') : GRow w' A n G :=
  ⟨h.1, fun hn => by obtain ⟨g, post, e, hg⟩ := h.2 hn; exact ⟨g, post, e, hg.below hb hg.lt⟩⟩
theorem GRow.row {w : World} {A : Option Addr} {n : Nat} {G : List Int} (h : GRow w A n G) : Row w w.heap.size 1 A n (ints .i64 G) := by
  refine ⟨by rw [ints_len, h.1, Nat.mul_one], fun j u hu => ?_⟩
  have hj : j < G.length := by have := (List.getElem?_eq_some_iff.1 hu).1; rwa [ints_len] at this
  obtain ⟨g, post, e, hg⟩ := h.2 (by rw [← h.1]; omega)
  refine ⟨_, e, hg.lt, ?_⟩
  rw [add_at, Nat.zero_add, hg.cell, List.getElem?_append_left (by rw [ints_len]; exact hj)]
  exact hu
theorem VRow.own {w : World} {base : Nat} {e : TypeId} {A : Option Addr} {n c : Nat} {vs : List Vt} (hl : vs.length = n) (hk : VOk vs) (h : w.ownsRow base e 34 (.slice A n c) n (vs.flatMap vc)) : VRow w A n vs :=
  ⟨hl, hk, fun hn => by
    obtain ⟨g, c', post, hv, _, hg⟩ := own_block h hn
    exact ⟨g, post, by injection hv, hg⟩⟩
theorem GRow.own {w : World} {base : Nat} {e : TypeId} {A : Option Addr} {n c : Nat} {G : List Int} (hl : G.length = n) (h : w.ownsRow base e 1 (.slice A n c) n (ints .i64 G)) : GRow w A n G :=
  ⟨hl, fun hn => by
    obtain ⟨g, c', post, hv, _, hg⟩ := own_block h hn
    exact ⟨g, post, by injection hv, hg⟩⟩
/-- the state of the loop that builds votes -/
structure VS (w : World) (A0 : Option Addr) (n0 c0 : Nat) (W : World) (k : Nat) (vs : List Vt) (sL : Value) (nE : Nat) (G : List Int) (sE : Value) : Prop where
  x3 : Has W w.heap.size [.slice A0 n0 c0]
  x6 : Has W (w.heap.size + 1) [.slice none 0 0, .slice none 0 0]
  x7 : Has W (w.heap.size + 1 + 1) [sL, sE]
  oL : W.ownsRow (w.heap.size + 1 + 1 + 1) 54 34 sL k (vs.flatMap vc)
  oE : W.ownsRow (w.heap.size + 1 + 1 + 1) 3 1 sE nE (ints .i64 G)
  d : Dis sL sE
  b : Below w.heap.size w W
section
variable {w W W' W'' : World} {A0 : Option Addr} {n0 c0 k nE : Nat} {vs : List Vt} {sL sE v' : Value} {G : List Int}
theorem VS.ext (h : VS w A0 n0 c0 W k vs sL nE G sE) (hb : Below W.heap.size W W') : VS w A0 n0 c0 W' k vs sL nE G sE :=
  ⟨h.x3.below hb h.x3.lt, h.x6.below hb h.x6.lt, h.x7.below hb h.x7.lt, own_ext h.oL hb, own_ext h.oE hb, h.d, h.b.trans (hb.mono h.b.size)⟩
theorem VS.size (h : VS w A0 n0 c0 W k vs sL nE G sE) : w.heap.size + 1 + 1 + 1 ≤ W.heap.size := h.x7.lt
theorem flat_pushV (vs : List Vt) (v : Vt) : (vs ++ [v]).flatMap vc = vs.flatMap vc ++ vc v := by simp
theorem VS.x7L (h : VS w A0 n0 c0 W k vs sL nE G sE) (hbel : Below (w.heap.size + 1 + 1 + 1) W W') : Has W' (w.heap.size + 1 + 1) [sL, sE] := h.x7.below hbel (by omega)
theorem VS.pushL (h : VS w A0 n0 c0 W k vs sL nE G sE) {v : Vt} (ho : W'.ownsRow (w.heap.size + 1 + 1 + 1) 54 34 v' (k + 1) (vs.flatMap vc ++ vc v)) (hg : W.grownBy W' sL.ownBlock)
    (hd : v'.ownBlock = sL.ownBlock ∨ v'.ownBlock = some (W.heap.size + 1)) (hbel : Below (w.heap.size + 1 + 1 + 1) W W') (hx : Has W'' (w.heap.size + 1 + 1) [v', sE]) (hg2 : W'.grownBy W'' (some (w.heap.size + 1 + 1))) :
    VS w A0 n0 c0 W'' (k + 1) (vs ++ [v]) v' nE G sE := by
  have hB := h.b.trans (hbel.mono (by omega))
  refine ⟨(h.x3.below hbel (by omega)).grown hg2 (ne_som (by omega)), (h.x6.below hbel (by omega)).grown hg2 (ne_som (by omega)), hx, ?_, ?_, ?_, hB.grown hg2 hB.size (fun k hk => by cases hk; omega)⟩
  · rw [flat_pushV]
    exact own_grown ho hg2 (fun g h1 h2 => by have := (own_lt ho h1).1; injection h2; omega)
  · have h1 := own_grown h.oE hg (fun g h1 h2 => h.d g h2 h1)
    exact own_grown h1 hg2 (fun g h3 h2 => by have := (own_lt h1 h3).1; injection h2; omega)
  · exact h.d.push h.oE (by rcases hd with hd | hd; exact .inl hd; exact .inr (.inr ⟨_, Nat.le_succ _, hd⟩))
theorem VS.pushE (h : VS w A0 n0 c0 W k vs sL nE G sE) {x : Int} (ho : W'.ownsRow (w.heap.size + 1 + 1 + 1) 3 1 v' (nE + 1) (ints .i64 G ++ [.int .i64 x])) (hg : W.grownBy W' sE.ownBlock)
    (hd : v'.ownBlock = sE.ownBlock ∨ v'.ownBlock = some (W.heap.size + 1)) (hbel : Below (w.heap.size + 1 + 1 + 1) W W') (hx : Has W'' (w.heap.size + 1 + 1) [sL, v']) (hg2 : W'.grownBy W'' (some (w.heap.size + 1 + 1))) :
    VS w A0 n0 c0 W'' k vs sL (nE + 1) (G ++ [x]) v' := by
  have hB := h.b.trans (hbel.mono (by omega))
  refine ⟨(h.x3.below hbel (by omega)).grown hg2 (ne_som (by omega)), (h.x6.below hbel (by omega)).grown hg2 (ne_som (by omega)), hx, ?_, ?_, ?_, hB.grown hg2 hB.size (fun k hk => by cases hk; omega)⟩
  · have h1 := own_grown h.oL hg (fun g h1 h2 => h.d g h1 h2)
    exact own_grown h1 hg2 (fun g h3 h2 => by have := (own_lt h1 h3).1; injection h2; omega)
  · rw [ints_push]
    exact own_grown ho hg2 (fun g h1 h2 => by have := (own_lt ho h1).1; injection h2; omega)
  · exact (h.d.symm.push h.oL (by rcases hd with hd | hd; exact .inl hd; exact .inr (.inr ⟨_, Nat.le_succ _, hd⟩))).symm
end
/-- what Votes answers -/
def VoP (n : Nat) (w : World) (e : Ending) (w' : World) : Prop :=
  ∃ (AL : Option Addr) (cl : Nat) (vs : List Vt) (AE : Option Addr) (ne ce : Nat) (G : List Int), ne ≤ n ∧ (∀ g ∈ G, 0 ≤ g ∧ g < (n : Int)) ∧ e = .returned (.agg #[.slice AL n cl, .slice AE ne ce]) ∧ VRow w' AL n vs ∧ GRow w' AE ne G ∧ Below w.heap.size w w'
end Go.Proofs.Ytonkgjengplppaa
