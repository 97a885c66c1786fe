/- Equality of values that are made of integers, bools and strings: arrays and structs, cell by cell. -/
import Derived.Test.YtekikfdlnkcenaaCore
import Derived.ChangeKeysEq
namespace Go.Proofs.Ytekikfdlnkcenaa
open Go.RowKit

/-- two cells of one make -/
def like : Value → Value → Bool
  | .int k _, .int k' _ => k == k'
  | .bool _, .bool _ => true
  | .string _, .string _ => true
  | _, _ => false
/-- a list of cells begins with cells of these makes -/
def Fits : List Value → List Value → Prop
  | [], _ => True
  | k :: K, v :: l => like k v = true ∧ Fits K l
  | _ :: _, [] => False

theorem Fits.length {K l : List Value} (h : Fits K l) : K.length ≤ l.length := by
  induction K generalizing l with
  | nil => simp
  | cons k K ih =>
    cases l with
    | nil => exact h.elim
    | cons v l => have := ih h.2; simp; omega
theorem Fits.left {K K' l : List Value} (h : Fits (K ++ K') l) : Fits K l := by
  induction K generalizing l with
  | nil => trivial
  | cons k K ih =>
    cases l with
    | nil => exact h.elim
    | cons v l => exact ⟨h.1, ih h.2⟩
theorem Fits.right {K K' l : List Value} (h : Fits (K ++ K') l) : Fits K' (l.drop K.length) := by
  induction K generalizing l with
  | nil => simpa using h
  | cons k K ih =>
    cases l with
    | nil => exact h.elim
    | cons v l => simpa using ih h.2
theorem Fits.app {K K' l l' : List Value} (h : Fits K l) (hl : l.length = K.length) (h' : Fits K' l') : Fits (K ++ K') (l ++ l') := by
  induction K generalizing l with
  | nil =>
    have : l = [] := List.eq_nil_of_length_eq_zero (by simpa using hl)
    subst this
    exact h'
  | cons k K ih =>
    cases l with
    | nil => exact h.elim
    | cons v l => exact ⟨h.1, ih h.2 (by simpa using hl)⟩
theorem fits_take {K l : List Value} (h : Fits K l) : Fits K (l.take K.length) := by
  induction K generalizing l with
  | nil => trivial
  | cons k K ih =>
    cases l with
    | nil => exact h.elim
    | cons v l => exact ⟨h.1, ih h.2⟩
theorem Fits.ints {k : IntKind} {n : Nat} {l : List Int} (hl : l.length = n) : Fits (List.replicate n (.int k 0)) (ints k l) := by
  subst hl
  induction l with
  | nil => trivial
  | cons a l ih => exact ⟨by simp [like], ih⟩

theorem take_add_iff {l l' : List Value} (a b : Nat) (h : a ≤ l.length) (h' : a ≤ l'.length) :
    (l.take a = l'.take a ∧ (l.drop a).take b = (l'.drop a).take b) ↔ l.take (a + b) = l'.take (a + b) := by
  rw [List.take_add, List.take_add]
  constructor
  · rintro ⟨h1, h2⟩; rw [h1, h2]
  · intro e
    exact List.append_inj e (by simp [List.length_take]; omega)

/-- what == does at a type whose cells are of the makes K -/
structure EqT (P : Program) (m : Nat) (t : TypeId) (K : List Value) : Prop where
  size : P.cellsOf t = K.length
  eq : ∀ d, m ≤ d → ∀ (xs ys : Array Value) (off : Nat) (w : World), Fits K (xs.toList.drop off) → Fits K (ys.toList.drop off) →
    ∃ a b r, (part t xs off).run P w = .ok a w ∧ (part t ys off).run P w = .ok b w ∧ (Op.equalIn d t a b).run P w = .ok r w ∧
      (r = true ↔ (xs.toList.drop off).take K.length = (ys.toList.drop off).take K.length)

section
variable {P : Program}
theorem drop_head {xs : Array Value} {off : Nat} {v : Value} {l : List Value} (h : xs.toList.drop off = v :: l) : xs[off]? = some v := by
  have := congrArg (·[0]?) h
  simpa using this

theorem EqT.int {t : TypeId} {k : IntKind} (hu : P.underlying t = some (.int k)) (hs : P.cellsOf t = 1) : EqT P 1 t [.int k 0] := by
  have hp : P.plainKey t = true := by unfold Program.plainKey; rw [hu]
  refine ⟨hs, fun d hd xs ys off w hx hy => ?_⟩
  obtain ⟨d, rfl⟩ : ∃ e, d = e + 1 := ⟨d - 1, by omega⟩
  cases h1 : xs.toList.drop off with
  | nil => rw [h1] at hx; exact hx.elim
  | cons v l =>
    cases h2 : ys.toList.drop off with
    | nil => rw [h2] at hy; exact hy.elim
    | cons u l' =>
      rw [h1] at hx
      rw [h2] at hy
      have hv := hx.1
      have hu' := hy.1
      cases v <;> simp [like] at hv
      cases u <;> simp [like] at hu'
      subst hv; subst hu'
      exact ⟨_, _, _, run_part_plain w hp (drop_head h1), run_part_plain w hp (drop_head h2), run_equalIn_int w d t _ _ _ _ hu, by simp⟩

theorem EqT.bool {t : TypeId} (hu : P.underlying t = some .bool) (hs : P.cellsOf t = 1) : EqT P 1 t [.bool false] := by
  have hp : P.plainKey t = true := by unfold Program.plainKey; rw [hu]
  refine ⟨hs, fun d hd xs ys off w hx hy => ?_⟩
  obtain ⟨d, rfl⟩ : ∃ e, d = e + 1 := ⟨d - 1, by omega⟩
  cases h1 : xs.toList.drop off with
  | nil => rw [h1] at hx; exact hx.elim
  | cons v l =>
    cases h2 : ys.toList.drop off with
    | nil => rw [h2] at hy; exact hy.elim
    | cons u l' =>
      rw [h1] at hx
      rw [h2] at hy
      have hv := hx.1
      have hu' := hy.1
      cases v <;> simp [like] at hv
      cases u <;> simp [like] at hu'
      exact ⟨_, _, _, run_part_plain w hp (drop_head h1), run_part_plain w hp (drop_head h2), run_equalIn_bool w d t _ _ hu, by simp⟩

theorem part_agg {t : TypeId} {xs : Array Value} {off : Nat} (ha : ∀ w, (isAgg t).run P w = .ok true w) (hs : ∀ w, (sizeOf t).run P w = .ok (P.cellsOf t) w) (w : World) :
    (part t xs off).run P w = .ok (.agg (xs.extract off (off + P.cellsOf t))) w := by
  simp [part, ha, hs]
theorem extract_drop (xs : Array Value) (off n : Nat) : (xs.extract off (off + n)).toList = (xs.toList.drop off).take n := by
  rw [Array.toList_extract, List.extract_eq_take_drop]
  congr 1; omega

theorem agg_of_array {t e : TypeId} {n : Nat} (hu : P.underlying t = some (.array n e)) : ∀ w, (isAgg t).run P w = .ok true w := fun w => by simp [isAgg, run_underlying hu]
theorem agg_of_struct {t : TypeId} {fs : Array Field} (hu : P.underlying t = some (.struct fs)) : ∀ w, (isAgg t).run P w = .ok true w := fun w => by simp [isAgg, run_underlying hu]
theorem size_of_underlying {t : TypeId} {k : TypeDesc} (hu : P.underlying t = some k) : ∀ w, (sizeOf t).run P w = .ok (P.cellsOf t) w := fun w => by
  obtain ⟨i, hi⟩ := info_of_underlying hu
  exact run_sizeOf w hi

theorem EqT.items {m : Nat} {e : TypeId} {K : List Value} (h : EqT P m e K) (d : Nat) (hd : m ≤ d) (xs ys : Array Value) (w : World) : ∀ (k s : Nat),
    Fits (List.replicate k K).flatten (xs.toList.drop (s * K.length)) → Fits (List.replicate k K).flatten (ys.toList.drop (s * K.length)) →
    ∃ r : Bool, (Op.eqItems d e (P.cellsOf e) xs ys (List.range' s k)).run P w = .ok r w ∧
      (r = true ↔ (xs.toList.drop (s * K.length)).take (k * K.length) = (ys.toList.drop (s * K.length)).take (k * K.length))
  | 0, s, _, _ => ⟨true, by simp [Op.eqItems], by simp⟩
  | k + 1, s, hx, hy => by
    rw [List.replicate_succ, List.flatten_cons] at hx hy
    obtain ⟨a, b, r, p1, p2, p3, hr⟩ := h.eq d hd xs ys (s * K.length) w hx.left hy.left
    have hx' := hx.right
    have hy' := hy.right
    rw [List.drop_drop, show s * K.length + K.length = (s + 1) * K.length by rw [Nat.add_mul, Nat.one_mul]] at hx' hy'
    obtain ⟨r', q, hr'⟩ := EqT.items h d hd xs ys w k (s + 1) hx' hy'
    rw [← h.size] at p1 p2
    rw [List.range'_succ]
    simp only [Op.eqItems, Sem.run_bind, p1, p2, p3, Result.andThen_ok]
    have key := take_add_iff (l := xs.toList.drop (s * K.length)) (l' := ys.toList.drop (s * K.length)) K.length (k * K.length) hx.left.length hy.left.length
    rw [List.drop_drop, List.drop_drop, show s * K.length + K.length = (s + 1) * K.length by rw [Nat.add_mul, Nat.one_mul], show K.length + k * K.length = (k + 1) * K.length by rw [Nat.add_mul, Nat.one_mul, Nat.add_comm]] at key
    cases r
    · refine ⟨false, by simp, ?_⟩
      constructor
      · intro h; cases h
      · intro h
        have := hr.2 (key.2 h).1
        cases this
    · refine ⟨r', by simpa using q, ?_⟩
      rw [hr', ← key]
      exact ⟨fun h => ⟨hr.1 rfl, h⟩, fun h => h.2⟩

theorem EqT.array {m n : Nat} {t e : TypeId} {K : List Value} (h : EqT P m e K) (hu : P.underlying t = some (.array n e)) (hs : P.cellsOf t = n * K.length) (hi : ∃ i, P.info? e = some i) :
    EqT P (m + 1) t (List.replicate n K).flatten := by
  have hl : (List.replicate n K).flatten.length = n * K.length := by simp
  refine ⟨by rw [hl, hs], fun d hd xs ys off w hx hy => ?_⟩
  obtain ⟨d, rfl⟩ : ∃ e, d = e + 1 := ⟨d - 1, by omega⟩
  obtain ⟨i, hi⟩ := hi
  have g : ∀ zs : Array Value, Fits (List.replicate n K).flatten (zs.toList.drop off) → Fits (List.replicate n K).flatten ((zs.extract off (off + P.cellsOf t)).toList.drop (0 * K.length)) := by
    intro zs hz
    rw [Nat.zero_mul, List.drop_zero, extract_drop, hs, ← hl]
    exact fits_take hz
  obtain ⟨r, q, hr⟩ := EqT.items h d (by omega) (xs.extract off (off + P.cellsOf t)) (ys.extract off (off + P.cellsOf t)) w n 0 (g xs hx) (g ys hy)
  refine ⟨_, _, r, part_agg (agg_of_array hu) (size_of_underlying hu) w, part_agg (agg_of_array hu) (size_of_underlying hu) w, ?_, ?_⟩
  · rw [run_equalIn_array w d _ _ hu hi, List.range_eq_range']
    exact q
  · rw [hr, Nat.zero_mul, List.drop_zero, List.drop_zero, extract_drop, extract_drop, hs, List.take_take, List.take_take, Nat.min_self, hl]

/-- the fields of a struct, one behind the other -/
def EqFs (P : Program) (m : Nat) : List Field → Nat → List Value → Prop
  | [], _, K => K = []
  | f :: fs, off, K => ∃ K1 K2, K = K1 ++ K2 ∧ f.name ≠ "_" ∧ f.offset = off ∧ EqT P m f.type K1 ∧ EqFs P m fs (off + K1.length) K2

theorem EqFs.run {m : Nat} (d : Nat) (hd : m ≤ d) (xs ys : Array Value) (w : World) : ∀ (fs : List Field) (off : Nat) (K : List Value), EqFs P m fs off K →
    Fits K (xs.toList.drop off) → Fits K (ys.toList.drop off) →
    ∃ r : Bool, (Op.eqFields d xs ys fs).run P w = .ok r w ∧ (r = true ↔ (xs.toList.drop off).take K.length = (ys.toList.drop off).take K.length)
  | [], off, K, h, _, _ => by
    have : K = [] := h
    subst this
    exact ⟨true, by simp [Op.eqFields], by simp⟩
  | f :: fs, off, K0, h, hx, hy => by
    obtain ⟨K, K', rfl, hn, ho, h, hrest⟩ := h
    obtain ⟨a, b, r, p1, p2, p3, hr⟩ := h.eq d hd xs ys off w hx.left hy.left
    have hx' := hx.right
    have hy' := hy.right
    rw [List.drop_drop] at hx' hy'
    obtain ⟨r', q, hr'⟩ := EqFs.run d hd xs ys w fs (off + K.length) K' hrest hx' hy'
    subst ho
    simp only [Op.eqFields, hn, ne_eq, not_false_eq_true, if_true, Sem.run_bind, p1, p2, p3, Result.andThen_ok]
    have key := take_add_iff (l := xs.toList.drop f.offset) (l' := ys.toList.drop f.offset) K.length K'.length hx.left.length hy.left.length
    rw [List.drop_drop, List.drop_drop, ← List.length_append] at key
    cases r
    · refine ⟨false, by simp, ?_⟩
      constructor
      · intro h; cases h
      · intro h
        have := hr.2 (key.2 h).1
        cases this
    · refine ⟨r', by simpa using q, ?_⟩
      rw [hr', ← key]
      exact ⟨fun h => ⟨hr.1 rfl, h⟩, fun h => h.2⟩

theorem EqT.struct {m : Nat} {t : TypeId} {fs : Array Field} {K : List Value} (hu : P.underlying t = some (.struct fs)) (hf : P.fieldsOf t = fs) (hp : P.stoodInHeld t = false) (hs : P.cellsOf t = K.length) (h : EqFs P m fs.toList 0 K) :
    EqT P (m + 1) t K := by
  refine ⟨hs, fun d hd xs ys off w hx hy => ?_⟩
  obtain ⟨d, rfl⟩ : ∃ e, d = e + 1 := ⟨d - 1, by omega⟩
  have g : ∀ zs : Array Value, Fits K (zs.toList.drop off) → Fits K ((zs.extract off (off + P.cellsOf t)).toList.drop 0) := by
    intro zs hz
    rw [List.drop_zero, extract_drop, hs]
    exact fits_take hz
  obtain ⟨r, q, hr⟩ := EqFs.run d (by omega) (xs.extract off (off + P.cellsOf t)) (ys.extract off (off + P.cellsOf t)) w _ _ _ h (g xs hx) (g ys hy)
  refine ⟨_, _, r, part_agg (agg_of_struct hu) (size_of_underlying hu) w, part_agg (agg_of_struct hu) (size_of_underlying hu) w, ?_, ?_⟩
  · rw [run_equalIn_struct w d t _ _ (by rw [hf]; exact hu) hp, hf]
    exact q
  · rw [hr, List.drop_zero, List.drop_zero, extract_drop, extract_drop, hs, List.take_take, List.take_take, Nat.min_self]

theorem EqT.equal {m : Nat} {t : TypeId} {K : List Value} (h : EqT P m t K) (hm : m ≤ 10000) (ha : ∀ w, (isAgg t).run P w = .ok true w) (hz : ∀ w, (sizeOf t).run P w = .ok (P.cellsOf t) w)
    {xs ys : List Value} (hx : Fits K xs) (hy : Fits K ys) (lx : xs.length = K.length) (ly : ys.length = K.length) (w : World) :
    ∃ r : Bool, (Op.equalIn 10000 t (.agg xs.toArray) (.agg ys.toArray)).run P w = .ok r w ∧ (r = true ↔ xs = ys) := by
  obtain ⟨a, b, r, p1, p2, p3, hr⟩ := h.eq 10000 hm xs.toArray ys.toArray 0 w (by simpa using hx) (by simpa using hy)
  have full : ∀ zs : List Value, zs.length = K.length → zs.toArray.extract 0 (0 + P.cellsOf t) = zs.toArray := by
    intro zs hz
    rw [h.size, Nat.zero_add, ← hz]
    simp
  rw [part_agg ha hz w, full xs lx] at p1
  rw [part_agg ha hz w, full ys ly] at p2
  cases p1
  cases p2
  refine ⟨r, p3, ?_⟩
  rw [hr]
  simp [lx, ly, List.take_of_length_le]

theorem EqT.same {m : Nat} {t : TypeId} {K : List Value} (h : EqT P m t K) (hm : m ≤ 10000) (ha : ∀ w, (isAgg t).run P w = .ok true w) (hz : ∀ w, (sizeOf t).run P w = .ok (P.cellsOf t) w)
    {xs ys : List Value} (hx : Fits K xs) (hy : Fits K ys) (lx : xs.length = K.length) (ly : ys.length = K.length) {r : Bool} (hr : r = true ↔ xs = ys) (w : World) :
    (Op.equalIn 10000 t (.agg xs.toArray) (.agg ys.toArray)).run P w = .ok r w := by
  obtain ⟨r', q, hr'⟩ := h.equal hm ha hz hx hy lx ly w
  have : r' = r := by rw [Bool.eq_iff_iff, hr', hr]
  rw [q, this]
/-- the operators == and != -/
theorem EqT.eql {m : Nat} {t : TypeId} {K : List Value} (h : EqT P m t K) (hm : m ≤ 10000) (ha : ∀ w, (isAgg t).run P w = .ok true w) (hz : ∀ w, (sizeOf t).run P w = .ok (P.cellsOf t) w)
    {xs ys : List Value} (hx : Fits K xs) (hy : Fits K ys) (lx : xs.length = K.length) (ly : ys.length = K.length) {r : Bool} (hr : r = true ↔ xs = ys) (w : World) :
    (binOp .eql t (.agg xs.toArray) (.agg ys.toArray)).run P w = .ok (.bool r) w := by
  obtain ⟨r', q, hr'⟩ := h.equal hm ha hz hx hy lx ly w
  rw [run_eql_struct, q]
  have : r' = r := by rw [Bool.eq_iff_iff, hr', hr]
  rw [this]; rfl
theorem EqT.neq {m : Nat} {t : TypeId} {K : List Value} (h : EqT P m t K) (hm : m ≤ 10000) (ha : ∀ w, (isAgg t).run P w = .ok true w) (hz : ∀ w, (sizeOf t).run P w = .ok (P.cellsOf t) w)
    {xs ys : List Value} (hx : Fits K xs) (hy : Fits K ys) (lx : xs.length = K.length) (ly : ys.length = K.length) {r : Bool} (hr : r = true ↔ xs = ys) (w : World) :
    (binOp .neq t (.agg xs.toArray) (.agg ys.toArray)).run P w = .ok (.bool (!r)) w := by
  obtain ⟨r', q, hr'⟩ := h.equal hm ha hz hx hy lx ly w
  rw [run_neq_struct, q]
  have : r' = r := by rw [Bool.eq_iff_iff, hr', hr]
  rw [this]; rfl
theorem ints_inj {k : IntKind} {l l' : List Int} : ints k l = ints k l' ↔ l = l' := by
  constructor
  · intro h
    exact List.map_inj_right (fun a b e => by injection e) |>.1 h
  · rintro rfl; rfl

/-- an array value of integers is indexed -/
theorem run_index_ints {t e : TypeId} {n : Nat} {k k' : IntKind} {l : List Int} (ht : P.underlying t = some (.array n e)) (he : P.underlying e = some (.int k')) (hce : P.cellsOf e = 1) (hl : l.length = n) (i : Nat) (hi : i < n) (w : World) :
    (Instr.index t (.agg (ints k l).toArray) (.int .i64 (i : Int))).run P w = .ok (.int k (l.getD i 0)) w := by
  have hp : P.plainKey e = true := by unfold Program.plainKey; rw [he]
  have hs := size_of_underlying he w
  have hg : (ints k l).toArray[i]? = some (.int k (l.getD i 0)) := by
    have : i < l.length := by omega
    simp [ints, List.getElem?_eq_getElem this, List.getD_eq_getElem?_getD]
  have hpart := run_part_plain w hp hg
  have hc : (0 : Int) ≤ (i : Int) ∧ (i : Int) < (n : Int) := by omega
  simp only [Instr.index, asIntOf, Sem.run_bind, Sem.run_pure, Result.andThen_ok, run_underlying ht]
  rw [if_pos hc]
  simp only [Sem.run_bind, hs, hce, Result.andThen_ok, Int.toNat_natCast, Nat.mul_one, hpart]
end
end Go.Proofs.Ytekikfdlnkcenaa
