/- The walk of RootsEdited. -/
import Derived.Test.YthfiiikanpagiaaRootsWalks
import Derived.Test.YthfiiikanpagiaaMasks
namespace Go.Proofs.Ythfiiikanpagiaa
open Go.RowKit

theorem run_storeH {P : Program} {W : World} {g : Nat} {old cs : List Value} (hg : Has W g old) (hl : old.length = cs.length) (h1 : ∀ u ∈ cs, u.oneCell' = true) :
    (storeCells ⟨g, 0, none⟩ cs).run P W = .ok () (W.setCells g 0 cs) := by
  have := run_storeCells_cells (P := P) g 0 cs 0 W (fun j hj => by rw [Nat.add_zero, Nat.zero_add, hg.cell j, List.getElem?_eq_getElem (by omega)]; rfl) (fun j hj => hg.frozen _) h1
  simpa using this
theorem has_storeH {W : World} {g : Nat} {old cs : List Value} (hg : Has W g old) (hl : old.length = cs.length) : Has (W.setCells g 0 cs) g cs ∧ W.grownBy (W.setCells g 0 cs) (some g) := by
  obtain ⟨q1, q2, q3⟩ := setCells_all g cs old [] [] W hl (by simpa using hg)
  exact ⟨by simpa using q1, by simpa using q2⟩
theorem end1 {w6 w7 : World} {g : Nat} {cs old zs : List Value} {t : TypeId} (h : Has w6 g cs) (h7 : Below w6.drew.heap.size w6.drew w7) (hl : old.length = zs.length) :
    Has ((w7.alloc (.cells old.toArray t)).setCells w7.heap.size 0 zs) g cs :=
  ((h.drew.below h7 h.lt).alloc _).grown (has_storeH (Has.new w7 old t) hl).2 (fun he => by injection he with he; have := h.lt; have := h7.size; simp at this; omega)
theorem end1B {w w6 w7 : World} {B : Nat} {old zs : List Value} {t : TypeId} (hB : Below B w w6) (hs : B < w6.heap.size) (h7 : Below w6.drew.heap.size w6.drew w7) (hl : old.length = zs.length) :
    Below B w ((w7.alloc (.cells old.toArray t)).setCells w7.heap.size 0 zs) := by
  have h76 := h7.size
  simp at h76
  exact ((hB.drew.trans (h7.mono (Nat.le_of_lt hs))).alloc (by omega) _).grown (has_storeH (Has.new w7 old t) hl).2 (by simp; omega) (fun k hk => by cases hk; omega)
theorem end2 {w6 w7 : World} {g : Nat} {cs old zs : List Value} {t : TypeId} (h : Has w6 g cs) (hh : Has w7 w6.heap.size old) (h7 : Below (w6.alloc (.cells old.toArray t)).drew.heap.size (w6.alloc (.cells old.toArray t)).drew w7) (hl : old.length = zs.length) :
    Has (w7.setCells w6.heap.size 0 zs) g cs :=
  (((h.alloc _).drew).below h7 (by have := h.lt; simp; omega)).grown (has_storeH hh hl).2 (fun he => by injection he with he; have := h.lt; omega)
theorem end2B {w w6 w7 : World} {B : Nat} {old zs : List Value} {t : TypeId} (hB : Below B w w6) (hs : B < w6.heap.size) (hh : Has w7 w6.heap.size old) (h7 : Below (w6.alloc (.cells old.toArray t)).drew.heap.size (w6.alloc (.cells old.toArray t)).drew w7) (hl : old.length = zs.length) :
    Below B w (w7.setCells w6.heap.size 0 zs) := by
  have h76 := h7.size
  simp at h76
  exact ((((hB.alloc (Nat.le_of_lt hs) _).drew).trans (h7.mono (by simp; omega)))).grown (has_storeH hh hl).2 (by omega) (fun k hk => by cases hk; omega)
set_option maxHeartbeats 800000 in
theorem rootsEdited_walk (a : List Int) (n c : Int) (w : World) (la : a.length = 32) (ha : Fit .u8 a) (hn : (Lit.int .i64 n).wf = true) (hc : (Lit.int .u8 c).wf = true) :
    Calls Try.prog 5 #[.agg (ints .u8 a).toArray, .int .i64 n, .int .u8 c] w fun e w' => e = .returned (.bool true) ∧ Below w.heap.size w w' := by
  have hz := zroot_lit
  have HR0 := Lib.hid (Has.new w (ints .u8 a) 23)
  have HK := Lib.hid (roots_awake)
  have B0 := Lib.hid ((Below.refl w.heap.size w).alloc (Nat.le_refl _) (.cells (ints .u8 a).toArray 23))
  have S0 : Hid (w.heap.size < (w.alloc (.cells (ints .u8 a).toArray 23)).heap.size) := by show _ < _; simp
  have hka : Hid (Try.prog.cellsOf 23 = (ints .u8 a).length) := by show _ = _; rw [ints, List.length_map, la]; kernel_rfl
  have HG := Lib.hid (ref_formatRoot ha la)
  have hsz : (strOfNums (fmtL a)).size = 66 := by rw [strOfNums_size, fmtL_length, la]
  generalize strOfNums (fmtL a) = S at *
  have HLA := Lib.hid la
  clear la
  obtain ⟨I, hI, hI0, hI1⟩ : ∃ I : Nat, (bits BinOp.and IntKind.i64 n 65535).tmod 66 = (I : Int) ∧ (0 : Int) ≤ (I : Int) ∧ (I : Int) < 66 := by
    have h1 := and_65535 n
    have h2 : (bits BinOp.and IntKind.i64 n 65535).tmod 66 = (n % 65536) % 66 := by rw [h1, Int.tmod_eq_emod_of_nonneg (Int.emod_nonneg _ (by decide))]
    exact ⟨((bits BinOp.and IntKind.i64 n 65535).tmod 66).toNat, by omega, by omega, by omega⟩
  have hI66 : (I : Int) ≤ 66 := by omega
  have hI2 : IntKind.i64.wrap ((I : Int) + 1) = ((I + 1 : Nat) : Int) := by rw [IntWalk.i64_in _ (by omega)]; rfl
  have hI3 : ((I + 1 : Nat) : Int) ≤ 66 := by omega
  go_enter Try.func5, Try.ntmps5
  go_wp2_with ((with_reducible refine wpList_loadG 23 _ rfl _ _ ?_ ?_ HR0.out Try.underlying23 ?_ ?_ ?_); rfl; rfl; rfl; exact hka.out)
  refine ((HG.out) _).mono ?_; rintro e w1 ⟨rfl, hb1⟩
  have HR1 := Lib.hid (HR0.out.below hb1 (HR0.out.lt))
  have B1 := Lib.hid (B0.out.trans (hb1.mono B0.out.size))
  have S1 := Lib.hid (Nat.lt_of_lt_of_le S0.out hb1.size)
  clear hb1
  go_wp2_with fail
  have hcv := run_convert_bytes_arg (P := Try.prog) (w1.alloc (.cells #[.int .u8 c] 5)).drew 33 5 Try.underlying33 Try.underlying5 w1.heap.size 0 1 1 [c] rfl (fun i hi => by
    have : i = 0 := by omega
    subst this
    exact new_cells w1 [.int .u8 c] 5 0 _ rfl) 9 Try.underlying9
  have hD : (strOfNums [c]).size = 1 := by rw [strOfNums_size]; rfl
  generalize strOfNums [c] = D at *
  have hA1 : ¬ 9223372036854775807 < min I 66 + 1 := by omega
  have hA2 : ¬ 9223372036854775807 < min I 66 + 1 + (66 - (I + 1)) := by omega
  go_region
  clear hcv
  have hx : (S.extract 0 I ++ D ++ S.extract (I + 1) 66).size = 66 := by simp [hsz, hD]; omega
  have hy : (S.extract 0 I ++ S.extract (I + 1) 66).size = 65 := by simp [hsz]; omega
  generalize S.extract 0 I ++ D ++ S.extract (I + 1) 66 = X at *
  have HQ := Lib.hid (fun w => parse_any (s := X) (by rw [hx]; omega) w)
  have HU := Lib.hid (fun w => refParse_any (s := X) (by rw [hx]; omega) w)
  have HY := Lib.hid (fun w => parse_any (s := S.extract 0 I ++ S.extract (I + 1) 66) (by rw [hy]; omega) w)
  have hye : parseE (S.extract 0 I ++ S.extract (I + 1) 66) = 1 := by unfold parseE; rw [if_neg]; intro h; have := h.1; omega
  rw [hye] at HY
  have hly := parseV_length (S.extract 0 I ++ S.extract (I + 1) 66)
  have hlv := parseV_length X
  generalize parseV X = V at *
  generalize parseE X = E at *
  generalize parseV (S.extract 0 I ++ S.extract (I + 1) 66) = Z at *
  have hkv : Hid (Try.prog.cellsOf 23 = (ints .u8 V).length) := by show _ = _; rw [ints, List.length_map, hlv]; kernel_rfl
  have hlv' : Hid ((ints .u8 zroot).length = (ints .u8 V).length) := by show _ = _; rw [ints, ints, List.length_map, List.length_map, hlv]; rfl
  have hkz : Hid (Try.prog.cellsOf 23 = (ints .u8 Z).length) := by show _ = _; rw [ints, List.length_map, hly]; kernel_rfl
  have hlz' : Hid ((ints .u8 zroot).length = (ints .u8 Z).length) := by show _ = _; rw [ints, ints, List.length_map, List.length_map, hly]; rfl
  have q2 : ∀ w : World, (Op.equalIn 10000 23 (.agg (ints .u8 V).toArray) (.agg (ints .u8 V).toArray)).run Try.prog w = .ok true w := fun w => by
    have := root_same (a := V) (b := V) hlv hlv w
    rwa [decide_eq_true rfl] at this
  have HVL := Lib.hid hlv
  have HZL := Lib.hid hly
  clear hlv hly hye hx hy hD hA1 hA2
  have B2 := Lib.hid ((B1.out.alloc (Nat.le_of_lt S1.out) (.cells #[.int .u8 c] 5)).drew)
  have S2 : Hid (w.heap.size < (w1.alloc (.cells #[.int .u8 c] 5)).drew.heap.size) := by show _ < _; have := S1.out; simp; omega
  clear HR0 HR1 hz
  have hz := zroot_lit
  generalize (w1.alloc (.cells #[.int .u8 c] 5)).drew = w2 at *
  go_wp2_with fail
  refine ((HQ.out) _).mono ?_; rintro e w3 ⟨rfl, hb3⟩
  have B3 := Lib.hid (B2.out.trans (hb3.mono B2.out.size))
  have S3 := Lib.hid (Nat.lt_of_lt_of_le S2.out hb3.size)
  clear hb3
  have X4 := Lib.hid (Has.new w3 (ints .u8 zroot) 23)
  go_wp2_with ((with_reducible refine wpList_storeB rfl 23 _ _ rfl _ (ints .u8 V) _ ?_ ?_ X4.out ?_ Try.underlying23 ?_ (one_ints _ _) ?_); rfl; rfl; exact hlv'.out; exact hkv.out; intro w4 hw4 hg4 hz4; have HB4 := Lib.hid hw4; have B4 := Lib.hid ((B3.out.alloc (Nat.le_of_lt S3.out) _).grown hg4 (by have := S3.out; simp; omega) (fun k hk => by cases hk; exact Nat.le_of_lt S3.out)); have S4 : Hid (w.heap.size < w4.heap.size) := (by show _ < _; have := S3.out; rw [hz4]; simp; omega); clear hw4 hg4 hz4)
  refine ((HU.out) _).mono ?_; rintro e w5 ⟨rfl, hb5⟩
  have HB5 := Lib.hid (HB4.out.below hb5 (HB4.out.lt))
  have B5 := Lib.hid (B4.out.trans (hb5.mono B4.out.size))
  have S5 := Lib.hid (Nat.lt_of_lt_of_le S4.out hb5.size)
  clear hb5
  have X6 := Lib.hid (Has.new w5 (ints .u8 zroot) 23)
  have HB6' := Lib.hid (HB5.out.alloc (.cells (ints .u8 zroot).toArray 23))
  have HB6n := Lib.hid (Nat.ne_of_lt HB5.out.lt)
  go_wp2_with ((with_reducible refine wpList_storeB rfl 23 _ _ rfl _ (ints .u8 V) _ ?_ ?_ X6.out ?_ Try.underlying23 ?_ (one_ints _ _) ?_); rfl; rfl; exact hlv'.out; exact hkv.out; intro w6 hw6 hg6 hz6; have HC6 := Lib.hid hw6; have HB6 := Lib.hid (HB6'.out.grown hg6 (fun he => HB6n.out (by injection he))); have B6 := Lib.hid ((B5.out.alloc (Nat.le_of_lt S5.out) _).grown hg6 (by have := S5.out; simp; omega) (fun k hk => by cases hk; exact Nat.le_of_lt S5.out)); have S6 : Hid (w.heap.size < w6.heap.size) := (by show _ < _; have := S5.out; rw [hz6]; simp; omega); clear hw6 hg6 hz6)
  have hI4 : (I : Int) + 1 ≤ 66 := by omega
  have hI5 : 0 ≤ (I : Int) + 1 := by omega
  have hA3 : ¬ 9223372036854775807 < min I 66 + (65 - I) := by omega
  have hst : ∀ (W : World) (g : Nat), Has W g (ints .u8 zroot) → (storeCells ⟨g, 0, none⟩ (ints .u8 Z)).run Try.prog W = .ok () (W.setCells g 0 (ints .u8 Z)) := fun W g h => run_storeH h hlz'.out (one_ints _ _)
  have hnw : ∀ W : World, Has (W.alloc (.cells (ints .u8 zroot).toArray 23)) W.heap.size (ints .u8 zroot) := fun W => Has.new W _ _
  have hlz : (ints .u8 Z).length = 32 := by rw [ints, List.length_map]; exact HZL.out
  have HH := Lib.hid hnw
  go_region_with (first
    | (go_at_call 14; refine (HY.out w6.drew).mono ?_; rintro e w7 ⟨rfl, hb7⟩; have HB7 := Lib.hid hb7; clear hb7)
    | (go_at_call 14; refine (HY.out (w6.alloc (.cells (ints .u8 zroot).toArray 23)).drew).mono ?_; rintro e w7 ⟨rfl, hb7⟩; have hh7 : Has w7 w6.heap.size (ints .u8 zroot) := ((HH.out w6).drew).below hb7 (by simp); have HB7 := Lib.hid hb7; clear hb7))
  all_goals (first
    | (have E1 := Lib.hid (end1 (t := 23) HB6.out HB7.out hlz'.out); have E2 := Lib.hid (end1 (t := 23) HC6.out HB7.out hlz'.out); have E3 := Lib.hid (end1B (t := 23) B6.out S6.out HB7.out hlz'.out))
    | (have E1 := Lib.hid (end2 HB6.out hh7 HB7.out hlz'.out); have E2 := Lib.hid (end2 HC6.out hh7 HB7.out hlz'.out); have E3 := Lib.hid (end2B B6.out S6.out hh7 HB7.out hlz'.out)))
  all_goals clear HB7
  all_goals (first | (generalize (w7.alloc (.cells (ints .u8 zroot).toArray 23)).setCells w7.heap.size 0 (ints .u8 Z) = w8 at *) | (clear hh7; generalize w7.setCells w6.heap.size 0 (ints .u8 Z) = w8 at *))
  all_goals go_wp2_with (first | ((with_reducible refine wpList_loadG 23 _ rfl _ _ ?_ ?_ E1.out Try.underlying23 ?_ ?_ ?_); rfl; rfl; rfl; exact hkv.out) | ((with_reducible refine wpList_loadG 23 _ rfl _ _ ?_ ?_ E2.out Try.underlying23 ?_ ?_ ?_); rfl; rfl; rfl; exact hkv.out))
  all_goals (refine (HK.out _).mono ?_; rintro e w9 ⟨rfl, hb9⟩; have B9 := Lib.hid (E3.out.trans (hb9.mono E3.out.size)); clear hb9; go_wp2_with fail; go_ret; exact ⟨rfl, B9.out⟩)
end Go.Proofs.Ythfiiikanpagiaa
