/- Maps keyed by numbers and by roots. -/
import Derived.Test.YtonkgjengplppaaTreeW
import Derived.Maps.OwnSet
import Derived.DeepKeys4
namespace Go.Proofs.Ytonkgjengplppaa
open Go.RowKit Go.Maps
theorem keyedI : Keyed Try.prog 3 := int_keyed Try.underlying3
theorem keyedR : Keyed Try.prog 41 := Keyed.of_law (deep_law_laid (P := Try.prog) (by kernel_rfl) (m := 3) (by decide) (of_decide_eq_true (by kernel_rfl)) (by kernel_rfl) (by kernel_rfl))
theorem mapM_some {α β : Type} {f : α → Option β} {g : α → β} : ∀ l : List α, (∀ x ∈ l, f x = some (g x)) → l.mapM f = some (l.map g)
  | [], _ => rfl
  | x :: l, h => by
    rw [List.mapM_cons, h x (by simp), mapM_some l (fun y hy => h y (by simp [hy]))]; rfl
theorem range_getD (l : List Int) : (List.range l.length).map (fun i => l.getD i 0) = l := by
  apply List.ext_getElem
  · simp
  · intro i h1 h2
    simp [List.getD, List.getElem?_eq_getElem h2]
/-- a root as a key -/
def kr (r : List Int) : Lit := .string (keyBytes (r.map (Lit.int .u8)))
theorem keyType_root : Try.prog.keyType 41 = true := by kernel_rfl
theorem types_size : ∃ m, Try.prog.types.size = m + 1 := ⟨Try.prog.types.size - 1, by kernel_rfl⟩
theorem cellsOf_u8 : Try.prog.cellsOf 5 = 1 := by kernel_rfl
theorem cellsOf_root : Try.prog.cellsOf 41 = 32 := by kernel_rfl
theorem wf_u8 {x : Int} (h : 0 ≤ x ∧ x < 256) : (Lit.int .u8 x).wf = true := by
  simp only [Lit.wf, Bool.and_eq_true, decide_eq_true_eq]
  exact ⟨h.1, Int.le_of_lt_add_one h.2⟩
theorem formed_root {r : List Int} (hr : r.length = 32) : (Value.agg (ints .u8 r).toArray).formed Try.prog 41 = true := by
  unfold Value.formed
  simp only [Try.underlying41]
  rw [cellsOf_root]; simp [ints, hr]
theorem keyOf_root {r : List Int} (hr : r.length = 32) (hb : Bt r) : keyOf Try.prog 41 (.agg (ints .u8 r).toArray) = some (kr r) := by
  obtain ⟨m, hm⟩ := types_size
  unfold keyOf
  simp only [Try.underlying41]
  rw [if_pos (by rw [keyType_root, formed_root hr]; rfl), hm]
  unfold Program.keyLits
  simp only [Try.underlying41, Value.cells]
  rw [if_pos (by rw [cellsOf_root]; simp [ints, hr]), cellsOf_u8, mapM_some (g := fun i => [Lit.int .u8 (r.getD i 0)])]
  · simp only [Option.map_some, kr]
    congr 2
    have e : ((List.range 32).map fun i => [Lit.int .u8 (r.getD i 0)]).flatten = ((List.range r.length).map (fun i => r.getD i 0)).map (Lit.int .u8) := by
      rw [hr, List.map_map]
      simp [List.flatten_eq_flatMap, List.flatMap_map]
      rw [← List.map_eq_flatMap]
      rfl
    rw [e, range_getD]
  · intro i hi
    have hi' : i < 32 := by simpa using hi
    have hir : i < r.length := by rw [hr]; exact hi'
    have e : ((ints .u8 r).toArray.toList.drop (i * 1)).take 1 = [.int .u8 (r.getD i 0)] := by
      rw [Nat.mul_one]
      simp only [ints]
      rw [List.drop_eq_getElem_cons (by simpa using hir)]
      simp [List.getD, List.getElem?_eq_getElem hir]
    rw [e]
    have hx : 0 ≤ r.getD i 0 ∧ r.getD i 0 < 256 := by
      have := hb r[i] (List.getElem_mem hir)
      simpa [List.getD, List.getElem?_eq_getElem hir] using this
    simp only [Program.keyLits, Try.underlying5, wf_u8 hx]
    simp
theorem kr_inj {r r' : List Int} (hr : r.length = 32) (hb : Bt r) (hr' : r'.length = 32) (hb' : Bt r') (h : kr r = kr r') : r = r' := by
  have h1 := keyOf_root hr hb
  have h2 := keyOf_root hr' hb'
  rw [← h] at h2
  have := keyedR.inj h1 h2
  have h3 := Value.agg.inj this
  have h4 : ints .u8 r = ints .u8 r' := congrArg Array.toList h3
  exact (List.map_inj_right (fun a b e => (Value.int.inj e).2)).1 h4
theorem zeroB (w : World) : (zeroValue 4).run Try.prog w = .ok (.bool false) w := by kernel_rfl
theorem zeroI (w : World) : (zeroValue 3).run Try.prog w = .ok (.int .i64 0) w := by kernel_rfl
theorem plainBool_inv {P : Program} {e : TypeId} (he : P.underlying e = some .bool) {v : Value} {x : Bool} {ps : List MemPlace} (h : plainElem (H := Unit) P e v = some (.lit (.bool x), ps)) : v = .bool x := by
  unfold plainElem at h
  rw [he] at h
  cases v <;> simp at h
  rw [h.1]
/-- a map that holds true at the numbers of a list -/
def GMap (w : World) (b : Nat) (l : List Int) : Prop :=
  ∃ D, w.ownsMap (H := Unit) Try.prog 3 (plainElem Try.prog 4) b l.length D ∧ IsMap D ∧ ∀ x : Int, D.atKey (.int .i64 x) (.lit (.bool false)) = .lit (.bool (decide (x ∈ l)))
theorem GMap.made (w : World) : GMap (w.alloc (.map #[] 0)) w.heap.size [] :=
  ⟨.map [], World.ownsMap_made w _ _ _, isMap_empty, fun x => by rw [atKey_of_not_has (by rfl)]; simp⟩
theorem GMap.lt {w : World} {b : Nat} {l : List Int} (h : GMap w b l) : b < w.heap.size := h.choose_spec.1.lt
theorem GMap.below {w w' : World} {b B : Nat} {l : List Int} (h : GMap w b l) (hb : Below B w w') (hB : b < B) : GMap w' b l := by
  obtain ⟨D, ⟨es, clock, h1, h2, h3, h4⟩, hm, ha⟩ := h
  exact ⟨D, ⟨es, clock, by rw [hb.block b hB]; exact h1, h2, h3, h4⟩, hm, ha⟩
theorem GMap.look {w : World} {b : Nat} {l : List Int} (h : GMap w b l) {x : Int} (hx : (Lit.int .i64 x).wf = true) :
    (Instr.lookup 82 (.map (some b)) (.int .i64 x) false).run Try.prog w = .ok (.bool (decide (x ∈ l))) w := by
  obtain ⟨D, ho, hm, ha⟩ := h
  obtain ⟨v, ps, hrun, hv⟩ := ho.lookup keyedI Try.underlying82 (zeroB w) (plainElem_bool Try.underlying4 false) (keyOf_int_mk Try.underlying3 hx)
  rw [ha x] at hv
  have : v = .bool (decide (x ∈ l)) := by
    exact plainBool_inv Try.underlying4 hv
  rw [← this]; exact hrun
theorem GMap.put {w : World} {b : Nat} {l : List Int} (h : GMap w b l) {x : Int} (hx : (Lit.int .i64 x).wf = true) (hl : l.length < maxLen) :
    ∃ w', (Instr.mapUpdate 82 (.map (some b)) (.int .i64 x) (.bool true)).run Try.prog w = .ok () w' ∧ GMap w' b (l ++ [x]) ∧ w.grownBy w' (some b) := by
  obtain ⟨D, ho, hm, ha⟩ := h
  have hk := keyOf_int_mk Try.underlying3 hx
  obtain ⟨w', hrun, ho', hg⟩ := ho.update keyedI Try.underlying82 hl hk (plainElem_bool Try.underlying4 true)
  refine ⟨w', hrun, ⟨D.put (.int .i64 x) (.lit (.bool true)), ?_, hm.put _ _, fun y => ?_⟩, hg⟩
  · rw [List.length_append]; exact ho'
  · by_cases he : y = x
    · subst he
      rw [atKey_put_same hm (keyedI.key hk)]; simp
    · rw [atKey_put_other (by intro e; injection e with _ e; exact he e), ha y]; simp [he]
/-- a map from roots to indexes -/
def IMap (w : World) (b : Nat) (n : Nat) (f : List Int → Option Nat) : Prop :=
  ∃ D, w.ownsMap (H := Unit) Try.prog 41 (plainElem Try.prog 3) b n D ∧ IsMap D ∧ ∀ r : List Int, r.length = 32 → Bt r → has D (kr r) = (f r).isSome ∧ D.atKey (kr r) (.lit (.int .i64 0)) = .lit (.int .i64 ((f r).getD 0 : Nat))
theorem IMap.made (w : World) : IMap (w.alloc (.map #[] 0)) w.heap.size 0 (fun _ => none) :=
  ⟨.map [], World.ownsMap_made w _ _ _, isMap_empty, fun r _ _ => ⟨rfl, by rw [atKey_of_not_has (by rfl)]; rfl⟩⟩
theorem IMap.lt {w : World} {b n : Nat} {f : List Int → Option Nat} (h : IMap w b n f) : b < w.heap.size := h.choose_spec.1.lt
theorem IMap.below {w w' : World} {b B n : Nat} {f : List Int → Option Nat} (h : IMap w b n f) (hb : Below B w w') (hB : b < B) : IMap w' b n f := by
  obtain ⟨D, ⟨es, clock, h1, h2, h3, h4⟩, hm, ha⟩ := h
  exact ⟨D, ⟨es, clock, by rw [hb.block b hB]; exact h1, h2, h3, h4⟩, hm, ha⟩
theorem IMap.mono {w : World} {b n m : Nat} {f : List Int → Option Nat} (h : IMap w b n f) (hnm : n ≤ m) : IMap w b m f := by
  obtain ⟨D, ho, hm, ha⟩ := h
  exact ⟨D, ho.mono hnm, hm, ha⟩
theorem wf_i64 {x : Int} (h : 0 ≤ x) (h2 : x ≤ 65535) : (Lit.int .i64 x).wf = true := by
  simp only [Lit.wf, Bool.and_eq_true, decide_eq_true_eq]
  exact ⟨Int.le_trans (by decide) h, Int.le_trans h2 (by decide)⟩
theorem wf_i0 : (Lit.int .i64 0).wf = true := by decide
theorem IMap.look {w : World} {b n : Nat} {f : List Int → Option Nat} (h : IMap w b n f) {r : List Int} (hr : r.length = 32) (hb : Bt r) :
    (Instr.lookup 81 (.map (some b)) (.agg (ints .u8 r).toArray) true).run Try.prog w = .ok (.tuple #[.int .i64 ((f r).getD 0 : Nat), .bool (f r).isSome]) w := by
  obtain ⟨D, ho, hm, ha⟩ := h
  obtain ⟨h1, h2⟩ := ha r hr hb
  obtain ⟨v, ps, hrun, hv⟩ := ho.look_ok keyedR Try.underlying81 (zeroI w) (plainElem_int Try.underlying3 wf_i0) (keyOf_root hr hb)
  rw [h2] at hv
  obtain ⟨a, rfl, he, _⟩ := plainElem_int_inv Try.underlying3 hv
  have he2 := (Lit.int.inj (DataW.lit.inj (Prod.mk.inj he).1)).2
  rw [he2, ← h1]; exact hrun
theorem IMap.put {w : World} {b n : Nat} {f : List Int → Option Nat} (h : IMap w b n f) {r : List Int} (hr : r.length = 32) (hb : Bt r) (k : Nat) (hk : k ≤ 65535) (hn : n < maxLen) :
    ∃ w', (Instr.mapUpdate 81 (.map (some b)) (.agg (ints .u8 r).toArray) (.int .i64 k)).run Try.prog w = .ok () w' ∧ IMap w' b (n + 1) (fun r' => if r' = r then some k else f r') ∧ w.grownBy w' (some b) := by
  obtain ⟨D, ho, hm, ha⟩ := h
  have hkk : (Lit.int .i64 (k : Int)).wf = true := wf_i64 (by omega) (by omega)
  have hkr := keyOf_root hr hb
  obtain ⟨w', hrun, ho', hg⟩ := ho.update keyedR Try.underlying81 hn hkr (plainElem_int Try.underlying3 hkk)
  refine ⟨w', hrun, ⟨_, ho', hm.put _ _, fun y hy hyb => ?_⟩, hg⟩
  by_cases he : y = r
  · subst he
    rw [has_put_same hm (keyedR.key hkr), atKey_put_same hm (keyedR.key hkr)]
    have e : (fun r' => if r' = y then some k else f r') y = some k := if_pos rfl
    rw [e]
    exact ⟨rfl, rfl⟩
  · have hne : kr y ≠ kr r := fun e => he (kr_inj hy hyb hr hb e)
    rw [has_put_other hne, atKey_put_other hne]
    have e : (fun r' => if r' = r then some k else f r') y = f y := if_neg he
    rw [e]
    exact ha y hy hyb
/-- an update of a map, at the operation -/
theorem wpList_upd {P : Program} {w : World} {ops : Array Oper} {rest : List Oper} {o : Oper} {a : Act} {Q : Exit → Act → World → Prop}
    (hg : o.guard = none) (m x v : Operand) (t : TypeId) (hop : o.op = Op.mapUpdate t m x v) (b : Nat) (key val : Value) (hm : a.eval m = .map (some b)) (hx : a.eval x = key) (hv : a.eval v = val)
    {w' : World} (hrun : (Instr.mapUpdate t (.map (some b)) key val).run P w = .ok () w') (hK : wpList P ops Q rest (a.put o.dst undef) w') : wpList P ops Q (o :: rest) a w := by
  refine wpList_plain hg fun K' hK' => ?_
  unfold Oper.wp
  simp [execOp, hop, hm, hx, hv, hrun, Result.andThen]
  exact hK' _ _ hK
end Go.Proofs.Ytonkgjengplppaa
