/- Checkpoints and tables, by parts. -/
import Derived.Test.YtekikfdlnkcenaaMmW
import Derived.Test.YtekikfdlnkcenaaRootEq
namespace Go.Proofs.Ytekikfdlnkcenaa
open Go.RowKit
theorem rtRoot : RowT Try.prog 33 32 := ⟨⟨_, Try.underlying33, rfl⟩, by kernel_rfl⟩
theorem rtCk : RowT Try.prog 35 33 := ⟨⟨_, Try.underlying35, rfl⟩, by kernel_rfl⟩
theorem rtTb : RowT Try.prog 38 34 := ⟨⟨_, Try.underlying38, rfl⟩, by kernel_rfl⟩
theorem otInt : OneT Try.prog 3 := ⟨⟨_, Try.underlying3, rfl⟩, by kernel_rfl⟩
theorem otU64 : OneT Try.prog 30 := ⟨⟨_, Try.underlying30, rfl⟩, by kernel_rfl⟩
theorem otU64s : OneT Try.prog 36 := ⟨⟨_, Try.underlying36, rfl⟩, by kernel_rfl⟩
/-- a number of 64 bits -/
structure U where
  n : Nat
  lt : n < 18446744073709551616
theorem U.ext' {x y : U} (h : x.n = y.n) : x = y := by cases x; cases y; cases h; rfl
instance : DecidableEq U := fun x y => if h : x.n = y.n then .isTrue (U.ext' h) else .isFalse (fun e => h (e ▸ rfl))
def U.v (x : U) : Value := .int .u64 (x.n : Int)
def u0 : U := ⟨0, by decide⟩
/-- a root -/
structure Rt where
  l : List Int
  len : l.length = 32
  bt : ∀ x ∈ l, 0 ≤ x ∧ x < 256
theorem Rt.ext' {x y : Rt} (h : x.l = y.l) : x = y := by cases x; cases y; cases h; rfl
instance : DecidableEq Rt := fun x y => if h : x.l = y.l then .isTrue (Rt.ext' h) else .isFalse (fun e => h (e ▸ rfl))
def rc (r : Rt) : List Value := ints .u8 r.l
theorem rc_len (r : Rt) : (rc r).length = 32 := by simp [rc, ints, r.len]
theorem rc_one (r : Rt) : One (rc r) := one_ints _ _
theorem rc_inj {a b : Rt} : rc a = rc b ↔ a = b := ⟨fun h => Rt.ext' (ints_inj.1 h), fun h => h ▸ rfl⟩
def r0 : Rt := ⟨zroot, rfl, fun x hx => by
  have := List.eq_of_mem_replicate (show x ∈ List.replicate 32 0 from hx)
  omega⟩
/-- a checkpoint -/
structure Cp where
  e : U
  r : Rt
deriving DecidableEq
def cpP (c : Cp) : List (List Value) := [[.int .u64 (c.e.n : Int)], rc c.r]
theorem cpP_len (c : Cp) : (cpP c).map List.length = [1, 32] := by simp [cpP, rc_len]
theorem cp_len (c : Cp) : (fl (cpP c)).length = 33 := fl_len (cpP_len c)
theorem cp_one (c : Cp) : One (fl (cpP c)) := One.cons (One.v rfl) (rc_one _)
theorem cp_inj {a b : Cp} : fl (cpP a) = fl (cpP b) ↔ a = b := by
  constructor
  · intro h
    simp only [cpP, fl, List.cons_append, List.nil_append, List.cons.injEq, Value.int.injEq, true_and] at h
    obtain ⟨h1, h2⟩ := h
    obtain ⟨e, r⟩ := a
    obtain ⟨e', r'⟩ := b
    have := rc_inj.1 h2
    simp only at this h1
    rw [this, U.ext' (Int.ofNat.inj h1)]
  · rintro rfl; rfl
def cp0 : Cp := ⟨u0, r0⟩
def kCk : List Value := .int .u64 0 :: (List.replicate 32 [Value.int .u8 0]).flatten
theorem EqT.mono' {P : Program} {m m' : Nat} {t : TypeId} {K : List Value} (h : EqT P m t K) (hm : m ≤ m') : EqT P m' t K := ⟨h.1, fun d hd => h.2 d (Nat.le_trans hm hd)⟩
theorem eqCk : EqT Try.prog 3 35 kCk := by
  refine EqT.struct Try.underlying35 (by kernel_rfl) (by kernel_rfl) (by kernel_rfl) ?_
  refine ⟨[.int .u64 0], _, rfl, by decide, rfl, (EqT.int Try.underlying30 (by kernel_rfl)).mono' (by omega), ?_⟩
  exact ⟨(List.replicate 32 [Value.int .u8 0]).flatten, [], by simp, by decide, rfl, eqRoot, rfl⟩
theorem fits_cp (a : Cp) : Fits kCk (fl (cpP a)) := show Fits (.int .u64 0 :: _) (.int .u64 (a.e.n : Int) :: ints .u8 a.r.l) from ⟨rfl, fits_root a.r.len⟩
theorem cp_same (a b : Cp) (w : World) : (Op.equalIn 10000 35 (.agg (fl (cpP a)).toArray) (.agg (fl (cpP b)).toArray)).run Try.prog w = .ok (decide (a = b)) w :=
  eqCk.same (by omega) (agg_of_struct Try.underlying35) (size_of_underlying Try.underlying35) (fits_cp a) (fits_cp b) (cp_len a) (cp_len b) (by simp [cp_inj]) w
theorem rt_same (a b : Rt) (w : World) : (Op.equalIn 10000 33 (.agg (rc a).toArray) (.agg (rc b).toArray)).run Try.prog w = .ok (decide (a = b)) w := by
  have := root_same a.len b.len w
  rw [show decide (a.l = b.l) = decide (a = b) from by rw [decide_eq_decide]; exact ⟨Rt.ext', fun h => h ▸ rfl⟩] at this
  exact this
/-- a table: its checkpoint, the slice of its balances -/
def tbP (c : Cp) (s : Value) : List (List Value) := [[.int .u64 (c.e.n : Int)], rc c.r, [s]]
theorem tbP_len (c : Cp) (s : Value) : (tbP c s).map List.length = [1, 32, 1] := by simp [tbP, rc_len]
theorem tb_len (c : Cp) (s : Value) : (fl (tbP c s)).length = 34 := fl_len (tbP_len c s)
theorem tb_one (c : Cp) (A : Option Addr) (n k : Nat) : One (fl (tbP c (.slice A n k))) := One.cons (One.v rfl) (One.cons (rc_one _) (One.v rfl))
theorem cut_cp (c : Cp) : List.take 2 (cpP c) = cpP c := rfl
theorem cut_tb (c : Cp) (s : Value) : List.take 3 (tbP c s) = tbP c s := rfl
theorem cut_tb_c (c : Cp) (s : Value) : List.take 2 (tbP c s) = cpP c := rfl
def us (l : List U) : List Value := l.map U.v
theorem us_len (l : List U) : (us l).length = l.length := by simp [us]
theorem us_ints (l : List U) : us l = ints .u64 (l.map fun x => (x.n : Int)) := by simp [us, ints, U.v]
/-- two lists, element by element -/
def All2 {α β : Type} (r : α → β → Prop) (X : List α) (T : List β) : Prop := X.length = T.length ∧ ∀ i (h1 : i < X.length) (h2 : i < T.length), r X[i] T[i]
theorem All2.nil {α β : Type} {r : α → β → Prop} : All2 r [] [] := ⟨rfl, fun i h => absurd h (Nat.not_lt_zero _)⟩
theorem All2.imp {α β : Type} {r s : α → β → Prop} {X : List α} {T : List β} (h : All2 r X T) (hi : ∀ a b, r a b → s a b) : All2 s X T := ⟨h.1, fun i h1 h2 => hi _ _ (h.2 i h1 h2)⟩
theorem All2.app {α β : Type} {r : α → β → Prop} {X Y : List α} {T V : List β} (h : All2 r X T) (k : All2 r Y V) : All2 r (X ++ Y) (T ++ V) := by
  refine ⟨by simp [h.1, k.1], fun i h1 h2 => ?_⟩
  rcases Nat.lt_or_ge i X.length with hi | hi
  · rw [List.getElem_append_left hi, List.getElem_append_left (h.1 ▸ hi)]
    exact h.2 i _ _
  · have hj : T.length ≤ i := h.1 ▸ hi
    rw [List.getElem_append_right hi, List.getElem_append_right hj]
    simp only [h.1]
    exact k.2 _ _ _
theorem All2.one {α β : Type} {r : α → β → Prop} {x : α} {t : β} (h : r x t) : All2 r [x] [t] := ⟨rfl, fun i h1 h2 => by
  have : i = 0 := by simpa using h1
  subst this; exact h⟩
theorem All2.take {α β : Type} {r : α → β → Prop} {X : List α} {T : List β} (h : All2 r X T) (k : Nat) : All2 r (X.take k) (T.take k) :=
  ⟨by simp [h.1], fun i h1 h2 => by rw [List.getElem_take, List.getElem_take]; exact h.2 i _ _⟩
theorem All2.drop {α β : Type} {r : α → β → Prop} {X : List α} {T : List β} (h : All2 r X T) (k : Nat) : All2 r (X.drop k) (T.drop k) :=
  ⟨by simp [h.1], fun i h1 h2 => by rw [List.getElem_drop, List.getElem_drop]; exact h.2 _ _ _⟩
/-- balances of checkpoints -/
structure Tbl where
  c : Cp
  b : List U
deriving DecidableEq
structure TbG (Γ : Gam) (x : Cp × Value) (t : Tbl) : Prop where
  c : x.1 = t.c
  s : ∃ A k, x.2 = .slice A t.b.length k ∧ CapOk A t.b.length k ∧ SlG Γ A t.b.length (us t.b)
def TsG (Γ : Gam) (A : Option Addr) (n : Nat) (T : List Tbl) : Prop := T.length = n ∧ ∃ X : List (Cp × Value), All2 (TbG Γ) X T ∧ SlG Γ A n (X.flatMap fun x => fl (tbP x.1 x.2))
theorem TbG.mono {Γ Γ' : Gam} {x : Cp × Value} {t : Tbl} (h : TbG Γ x t) (hl : Le Γ Γ') : TbG Γ' x t := ⟨h.c, by obtain ⟨A, k, e, e', s⟩ := h.s; exact ⟨A, k, e, e', s.mono hl⟩⟩
theorem TsG.mono {Γ Γ' : Gam} {A : Option Addr} {n : Nat} {T : List Tbl} (h : TsG Γ A n T) (hl : Le Γ Γ') : TsG Γ' A n T := by
  obtain ⟨h1, X, h2, h3⟩ := h
  exact ⟨h1, X, h2.imp (fun _ _ h => h.mono hl), h3.mono hl⟩
/-- element k of a list of tables -/
theorem TsG.at {Γ : Gam} {A : Option Addr} {n : Nat} {T : List Tbl} (h : TsG Γ A n T) (k : Nat) (hk : k < n) :
    ∃ g s, A = some ⟨g, 0, none⟩ ∧ TbG Γ (T[k]'(h.1 ▸ hk) |>.c, s) (T[k]'(h.1 ▸ hk)) ∧ Chk Γ g (k * 34) (fl (tbP (T[k]'(h.1 ▸ hk)).c s)) := by
  obtain ⟨h1, X, h2, h3⟩ := h
  have hl := h2.1
  obtain ⟨g, e, hc⟩ := h3.at (k := 34) (f := fun x : Cp × Value => fl (tbP x.1 x.2)) (fun x _ => tb_len _ _) (by omega) k hk
  have hx := h2.2 k (by omega) (by omega)
  refine ⟨g, (X[k]'(by omega)).2, e, ⟨rfl, hx.s⟩, ?_⟩
  rw [← hx.c]; exact hc
end Go.Proofs.Ytekikfdlnkcenaa
