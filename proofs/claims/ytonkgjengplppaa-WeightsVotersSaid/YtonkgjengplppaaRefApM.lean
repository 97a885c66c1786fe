/- What the reference's Apply computes; two own rows side by side. -/
import Derived.Test.YtonkgjengplppaaRefSum
import Derived.Test.YtonkgjengplppaaAncD
import Derived.Test.YtonkgjengplppaaMix4
namespace Go.Proofs.Ytonkgjengplppaa
open Go.RowKit
theorem own_grown {w w' : World} {base : Nat} {e : TypeId} {size : Nat} {v : Value} {n : Nat} {xs : List Value} (h : w.ownsRow base e size v n xs) {row : Option Nat} (hg : w.grownBy w' row) (hne : ∀ g, v.ownBlock = some g → row ≠ some g) : w'.ownsRow base e size v n xs := by
  refine ⟨h.1, ?_⟩
  rcases h.2 with h1 | ⟨g, cap, cur, h1, h2, h3, h4⟩
  · exact .inl h1
  · refine .inr ⟨g, cap, cur, h1, h2, ?_, h4⟩
    rw [hg.block g (Array.getElem?_eq_some_iff.1 h3).1 (fun e => hne g (by rw [h1]; rfl) e.symm)]; exact h3
theorem own_lt {w : World} {base : Nat} {e : TypeId} {size : Nat} {v : Value} {n : Nat} {xs : List Value} (h : w.ownsRow base e size v n xs) {g : Nat} (hg : v.ownBlock = some g) : base ≤ g ∧ g < w.heap.size := h.lt g hg
/-- two values do not lie in one block -/
def Dis (v u : Value) : Prop := ∀ g, v.ownBlock = some g → u.ownBlock ≠ some g
theorem Dis.symm {v u : Value} (h : Dis v u) : Dis u v := fun g h1 h2 => h g h2 h1
theorem Dis.nil (u : Value) : Dis (.slice none 0 0) u := fun g h => by cases h
theorem Dis.push {w : World} {base : Nat} {e : TypeId} {size : Nat} {v v' u : Value} {n : Nat} {xs : List Value} (h : Dis v u) (hu : w.ownsRow base e size u n xs)
    (hv : v'.ownBlock = v.ownBlock ∨ v'.ownBlock = some w.heap.size ∨ ∃ g, w.heap.size ≤ g ∧ v'.ownBlock = some g) : Dis v' u := fun g h1 h2 => by
  have hl := (own_lt hu h2).2
  rcases hv with hv | hv | ⟨g', hg, hv⟩
  · exact h g (hv ▸ h1) h2
  · rw [h1] at hv; injection hv with hv; omega
  · rw [h1] at hv; injection hv with hv; omega
/-- the parts of some deltas -/
def pL (ds : List Dl) (L : List Nat) : List Int := L.map fun j => (ds.getD j ⟨0, 0⟩).p
def mL (ds : List Dl) (L : List Nat) : List Int := L.map fun j => (ds.getD j ⟨0, 0⟩).m
theorem pL_next {ds : List Dl} {L : List Nat} {k : Nat} (hk : k < L.length) : pL ds (L.take (k + 1)) = pL ds (L.take k) ++ [(ds.getD L[k] ⟨0, 0⟩).p] := by
  unfold pL; rw [List.take_succ_eq_append_getElem hk, List.map_append]; rfl
theorem mL_next {ds : List Dl} {L : List Nat} {k : Nat} (hk : k < L.length) : mL ds (L.take (k + 1)) = mL ds (L.take k) ++ [(ds.getD L[k] ⟨0, 0⟩).m] := by
  unfold mL; rw [List.take_succ_eq_append_getElem hk, List.map_append]; rfl
theorem pL_64 {ds : List Dl} (h : D64 ds) (L : List Nat) (hL : ∀ j ∈ L, j < ds.length) : U64 (pL ds L) := fun x hx => by
  obtain ⟨j, hj, rfl⟩ := List.mem_map.1 hx
  exact (h.at (hL j hj)).1
theorem mL_64 {ds : List Dl} (h : D64 ds) (L : List Nat) (hL : ∀ j ∈ L, j < ds.length) : U64 (mL ds L) := fun x hx => by
  obtain ⟨j, hj, rfl⟩ := List.mem_map.1 hx
  exact (h.at (hL j hj)).2
theorem descN_lt {us : List Int} {i k : Nat} : ∀ j ∈ descN us i k, j < k := fun j hj => by
  have := (List.mem_filter.1 hj).1
  simpa using this
/-- one node of the reference -/
def nodeR (us : List Int) (n : Nat) (ds : List Dl) (ws : List Int) (i : Nat) : Option Int :=
  if sumE (pL ds (descN us i n)) ≠ 0 ∨ sumE (mL ds (descN us i n)) ≠ 0 then none
  else if chgE (ws.getD i 0) ⟨sumV (pL ds (descN us i n)), sumV (mL ds (descN us i n))⟩ ≠ 0 then none
  else some (chgV (ws.getD i 0) ⟨sumV (pL ds (descN us i n)), sumV (mL ds (descN us i n))⟩)
theorem sumE_ok {l : List Int} (h : l.sum < 18446744073709551616) : sumE l = 0 := if_pos h
theorem sumE_bad {l : List Int} (h : ¬ l.sum < 18446744073709551616) : sumE l = 4 := if_neg h
theorem sumV_ok {l : List Int} (h : l.sum < 18446744073709551616) : sumV l = l.sum := if_pos h
theorem nodeR_bad {us : List Int} {n : Nat} {ds : List Dl} {ws : List Int} {i : Nat} (h : ¬ (pL ds (descN us i n)).sum < 18446744073709551616 ∨ ¬ (mL ds (descN us i n)).sum < 18446744073709551616) : nodeR us n ds ws i = none := by
  unfold nodeR
  rw [if_pos]
  rcases h with h | h
  · left; rw [sumE_bad h]; decide
  · right; rw [sumE_bad h]; decide
theorem nodeR_ok {us : List Int} {n : Nat} {ds : List Dl} {ws : List Int} {i : Nat} (h1 : (pL ds (descN us i n)).sum < 18446744073709551616) (h2 : (mL ds (descN us i n)).sum < 18446744073709551616) :
    nodeR us n ds ws i = if chgE (ws.getD i 0) ⟨(pL ds (descN us i n)).sum, (mL ds (descN us i n)).sum⟩ ≠ 0 then none else some (chgV (ws.getD i 0) ⟨(pL ds (descN us i n)).sum, (mL ds (descN us i n)).sum⟩) := by
  unfold nodeR
  rw [if_neg, sumV_ok h1, sumV_ok h2]
  rw [sumE_ok h1, sumE_ok h2]; simp
/-- what the reference's Apply answers -/
def RAP (us : List Int) (n : Nat) (ds : List Dl) (ws : List Int) (w : World) (e : Ending) (w' : World) : Prop :=
  (((∃ k, k < n ∧ nodeR us n ds ws k = none) ∧ e = .returned (.tuple #[.slice none 0 0, .int .i64 4])) ∨
    ∃ A c xs, xs.length = n ∧ U64 xs ∧ (∀ k, k < n → nodeR us n ds ws k = some (xs.getD k 0)) ∧ e = .returned (.tuple #[.slice A n c, .int .i64 0]) ∧ URow w' A n xs) ∧ Below w.heap.size w w'
theorem bsU (i : Int) : Try.prog.builtSlice 35 1 [(0, .int .u64 i)] = some #[.int .u64 i] := by kernel_rfl
theorem run_bsU {o : Oper} {a : Act} {w : World} {x : Operand} {i : Int} (ho : o.op = .buildSlice 29 1 #[(0, x)]) (hx : a.eval x = .int .u64 i) :
    (execOp a.eval o).run Try.prog w = .ok (.value (.slice (some ⟨w.heap.size, 0, none⟩) 1 1)) (w.alloc (.cells #[.int .u64 i] 35)) := by
  have e : (#[(0, x)].map fun (i, x) => (i, a.eval x)) = #[(0, .int .u64 i)] := by
    apply Array.ext'
    rw [Array.toList_map]
    show [(0, a.eval x)] = _
    rw [hx]
  have := run_sliceTo (P := Try.prog) w 29 35 1 #[(0, .int .u64 i)] _ Try.underlying29 (bsU i)
  unfold execOp
  simp only [ho, e, this, Sem.run_bind, Result.andThen_ok]
  rfl
theorem one_u64 (i : Int) : ∀ u ∈ [Value.int .u64 i], u.oneCell' = true := fun u hu => by simp at hu; subst hu; rfl
/-- two rows of numbers, each in a block of its own -/
structure Pr (B : Nat) (W : World) (vp vm : Value) (np nm : Nat) (ps ms : List Int) : Prop where
  p : W.ownsRow B 35 1 vp np (ints .u64 ps)
  m : W.ownsRow B 35 1 vm nm (ints .u64 ms)
  d : Dis vp vm
section
variable {B : Nat} {W W' : World} {vp vm v' : Value} {np nm : Nat} {ps ms : List Int} {x : Int}
theorem Pr.alloc (h : Pr B W vp vm np nm ps ms) (o : Obj) : Pr B (W.alloc o) vp vm np nm ps ms := ⟨own_ext h.p (ext_alloc _ _), own_ext h.m (ext_alloc _ _), h.d⟩
theorem Pr.pushP (h : Pr B W vp vm np nm ps ms) (ho : W'.ownsRow B 35 1 v' (np + 1) (ints .u64 ps ++ [.int .u64 x])) (hg : W.grownBy W' vp.ownBlock)
    (hv : v'.ownBlock = vp.ownBlock ∨ v'.ownBlock = some W.heap.size ∨ ∃ g, W.heap.size ≤ g ∧ v'.ownBlock = some g) : Pr B W' v' vm (np + 1) nm (ps ++ [x]) ms :=
  ⟨by rw [ints_push]; exact ho, own_grown h.m hg (fun g h1 h2 => h.d g h2 h1), h.d.push h.m hv⟩
theorem Pr.pushM (h : Pr B W vp vm np nm ps ms) (ho : W'.ownsRow B 35 1 v' (nm + 1) (ints .u64 ms ++ [.int .u64 x])) (hg : W.grownBy W' vm.ownBlock)
    (hv : v'.ownBlock = vm.ownBlock ∨ v'.ownBlock = some W.heap.size ∨ ∃ g, W.heap.size ≤ g ∧ v'.ownBlock = some g) : Pr B W' vp v' np (nm + 1) ps (ms ++ [x]) :=
  ⟨own_grown h.p hg (fun g h1 h2 => h.d g h1 h2), by rw [ints_push]; exact ho, (h.d.symm.push h.p hv).symm⟩
theorem own_far {e : TypeId} {size n : Nat} {v : Value} {xs : List Value} {w : World} (h : w.ownsRow B e size v n xs) {g : Nat} (hg : w.heap.size ≤ g) : some g ≠ v.ownBlock := fun e => by
  have := (own_lt h e.symm).2; omega
end
theorem apd {w : World} {base : Nat} {e : TypeId} {size n : Nat} {v : Value} {xs : List Value} (h : w.ownsRow base e size v n xs) : Apd w base e size v n xs := .inl h
theorem one_len (x : Int) : [Value.int .u64 x].length = 1 * 1 := rfl
theorem news_at {W : World} {g : Nat} {x : Int} (h : Has W g [.int .u64 x]) : ∀ j u, [Value.int .u64 x][j]? = some u → W.cell? ((⟨g, 0, none⟩ : Addr).add j) = some u := fun j u hu => by
  rw [add_at, Nat.zero_add, h.cell]; exact hu
end Go.Proofs.Ytonkgjengplppaa
