/- Checkpoints and tables built; the sanity check of the laws on books. -/
import Derived.Test.YtekikfdlnkcenaaBkR
import Derived.Laws.Tables
namespace Go.Proofs.Ytekikfdlnkcenaa
open Go.RowKit Go.Maps
theorem fill_part (place : Nat → Option (Nat × Nat)) (pre mid post l : List Value) (i : Nat) (v : Value) (rest : List (Nat × Value)) (hp : place i = some (pre.length, l.length)) (hv : v.cells = l.toArray) (hm : mid.length = l.length) :
    Instr.fill place (pre ++ mid ++ post).toArray ((i, v) :: rest) = Instr.fill place (pre ++ l ++ post).toArray rest := by
  have h1 : v.cells.zipIdx.foldl (fun cs (x : Value × Nat) => cs.setIfInBounds (pre.length + x.2) x.1) (pre ++ mid ++ post).toArray = (pre ++ l ++ post).toArray := by
    have := fold_set pre.length l mid pre post 0 hm (by omega)
    rw [hv, ← Array.foldl_toList, Array.toList_zipIdx]
    exact this
  rw [Instr.fill]
  simp only [hp]
  rw [if_neg (by rw [hv]; simp; omega)]
  exact congrArg (fun c => Instr.fill place c rest) h1
theorem wpList_buildTo {P : Program} {ops : Array Oper} {rest : List Oper} {o : Oper} {a : Act} {w : World} {Q : Exit → Act → World → Prop} (hg : o.guard = none) (t : TypeId) (parts : Array (Nat × Operand)) (ho : o.op = .build t parts)
    (ps : List (Nat × Value)) (cells : List Value) (hps : parts.toList.map (fun x => (x.1, a.eval x.2)) = ps) (hf : P.built t ps = some cells.toArray) (h : wpList P ops Q rest (a.put o.dst (.agg cells.toArray)) w) : wpList P ops Q (o :: rest) a w :=
  wpList_plain hg fun K hK => by
    have e : (parts.map fun (i, x) => (i, a.eval x)) = ps.toArray := Array.ext' (by rw [Array.toList_map]; exact hps)
    have := run_build (P := P) w t ps.toArray cells.toArray hf
    unfold Oper.wp execOp
    simp only [ho, e, this, Sem.run_bind, Result.andThen_ok]
    exact hK _ _ h
theorem quiet_build {P : Program} {C : World → Prop} {o : Oper} {a : Act} {K : Act → Prop} (t : TypeId) (parts : Array (Nat × Operand)) (ho : o.op = .build t parts)
    (ps : List (Nat × Value)) (cells : List Value) (hps : parts.toList.map (fun x => (x.1, a.eval x.2)) = ps) (hf : P.built t ps = some cells.toArray) (h : K (a.put o.dst (.agg cells.toArray))) : o.quiet P a C K := by
  refine ⟨_, fun w _ => ?_, h⟩
  have e : (parts.map fun (i, x) => (i, a.eval x)) = ps.toArray := Array.ext' (by rw [Array.toList_map]; exact hps)
  have := run_build (P := P) w t ps.toArray cells.toArray hf
  unfold Oper.quietAt execOp
  simp only [ho, e, this, Sem.run_bind, Result.andThen_ok]
  exact ⟨rfl, rfl⟩
def plC (i : Nat) : Option (Nat × Nat) := (#[(0, 1), (1, 32)] : Array (Nat × Nat))[i]?
def plT (i : Nat) : Option (Nat × Nat) := (#[(0, 33), (33, 1)] : Array (Nat × Nat))[i]?
def zck : Ck := (0, zroot)
theorem built_ck_fill (ps : List (Nat × Value)) : Try.prog.built 35 ps = Instr.fill plC (ckc zck).toArray ps := by kernel_rfl
theorem built_tb_fill (ps : List (Nat × Value)) : Try.prog.built 38 ps = Instr.fill plT zt.toArray ps := by kernel_rfl
theorem fillC_e {c : Ck} {e : Int} {ps : List (Nat × Value)} : Instr.fill plC (ckc c).toArray ((0, .int .u64 e) :: ps) = Instr.fill plC (ckc (e, c.2)).toArray ps := by
  have e0 : ckc c = [] ++ [.int .u64 c.1] ++ ints .u8 c.2 := rfl
  rw [e0, fill_part plC [] [.int .u64 c.1] _ [.int .u64 e] 0 _ _ rfl rfl rfl]; rfl
theorem fillC_r {c : Ck} {r : List Int} {ps : List (Nat × Value)} (hc : c.2.length = 32) (hr : r.length = 32) : Instr.fill plC (ckc c).toArray ((1, .agg (ints .u8 r).toArray) :: ps) = Instr.fill plC (ckc (c.1, r)).toArray ps := by
  have e0 : ckc c = [.int .u64 c.1] ++ ints .u8 c.2 ++ [] := by simp [ckc]
  rw [e0, fill_part plC [.int .u64 c.1] (ints .u8 c.2) _ (ints .u8 r) 1 _ _ (by simp [plC, ints, hr]) rfl (by simp [ints, hc, hr])]
  simp [ckc]
theorem built_ck (e : Int) {r : List Int} (hr : r.length = 32) : Try.prog.built 35 [(0, .int .u64 e), (1, .agg (ints .u8 r).toArray)] = some (ckc (e, r)).toArray := by
  rw [built_ck_fill, fillC_e, fillC_r rfl hr]; rfl
theorem built_ck0 (e : Int) : Try.prog.built 35 [(0, .int .u64 e)] = some (ckc (e, zroot)).toArray := by
  rw [built_ck_fill, fillC_e]; rfl
theorem fillT_c {c d : Ck} {s : Value} {ps : List (Nat × Value)} (hc : c.2.length = 32) (hd : d.2.length = 32) : Instr.fill plT (tbc c s).toArray ((0, .agg (ckc d).toArray) :: ps) = Instr.fill plT (tbc d s).toArray ps := by
  have e0 : tbc c s = [] ++ ckc c ++ [s] := by simp [tbc]
  rw [e0, fill_part plT [] (ckc c) _ (ckc d) 0 _ _ (by simp [plT, ckc_len hd]) rfl (by rw [ckc_len hc, ckc_len hd])]
  simp [tbc]
theorem fillT_s {c : Ck} {s : Value} {A : Option Addr} {n cap : Nat} {ps : List (Nat × Value)} (hc : c.2.length = 32) : Instr.fill plT (tbc c s).toArray ((1, .slice A n cap) :: ps) = Instr.fill plT (tbc c (.slice A n cap)).toArray ps := by
  have e0 : tbc c s = ckc c ++ [s] ++ [] := by simp [tbc]
  rw [e0, fill_part plT (ckc c) [s] _ [.slice A n cap] 1 _ _ (by simp [plT, ckc_len hc]) rfl rfl]
  simp [tbc]
theorem built_tb {c : Ck} (hc : c.2.length = 32) (A : Option Addr) (n cap : Nat) : Try.prog.built 38 [(0, .agg (ckc c).toArray), (1, .slice A n cap)] = some (tbc c (.slice A n cap)).toArray := by
  rw [built_tb_fill, show zt = tbc zck (.slice none 0 0) from rfl, fillT_c rfl hc, fillT_s hc]; rfl
theorem built_tb0 {c : Ck} (hc : c.2.length = 32) : Try.prog.built 38 [(0, .agg (ckc c).toArray)] = some (tbc c (.slice none 0 0)).toArray := by
  rw [built_tb_fill, show zt = tbc zck (.slice none 0 0) from rfl, fillT_c rfl hc]; rfl
/-- blocks of cells that are not the map's stay -/
theorem Has.kp {P : Nat → Prop} {w w' : World} {M g : Nat} {cs : List Value} {T : List Tb} (h : Has w g cs) (hm : BkMap P w M T) (hg : w.grownBy w' (some M)) : Has w' g cs := h.grown hg (ne_som (hm.ne h))
def ck4 : Ck := (4, zroot)
theorem ck4_ok : CkOk ck4 := ⟨by decide, by decide, rfl, fun x hx => by
  have := List.eq_of_mem_replicate (show x ∈ List.replicate 32 0 from hx)
  omega⟩
theorem aw_u : U64 [5, 7] := fun x hx => by simp at hx; omega
set_option maxRecDepth 20000 in
set_option maxHeartbeats 1000000 in
theorem awake7_any (w : World) : Calls Try.prog 15 #[] w fun e w' => e = .returned (.bool true) ∧ Below w.heap.size w w' := by
  have LC := bx (show Try.prog.built 35 [(0, .int .u64 4)] = some (ckc ck4).toArray from built_ck0 4)
  have CK := bx ck4_ok
  have LT := bx (fun A n cap => built_tb CK.out.r A n cap)
  have G1 := bx (show regE [] ck4 [5, 7] 2 3 = 0 ∧ regT [] ck4 [5, 7] 2 3 = [(ck4, [5, 7])] by decide)
  have G2 := bx (show regE [(ck4, [5, 7])] ck4 [5, 7] 2 3 = 9 ∧ regT [(ck4, [5, 7])] ck4 [5, 7] 2 3 = [(ck4, [5, 7])] by decide)
  have G3 := bx (show (look [(ck4, [5, 7])] ck4).isSome = true by decide)
  have G4 := bx (show bal [(ck4, [5, 7])] ck4 = [5, 7] by decide)
  have G5 := bx (show balV [(ck4, [5, 7])] ck4 1 = 7 by decide)
  have G6 := bx (show totV [5, 7] = 12 by decide)
  generalize ck4 = ck at *
  go_enter Try.func15, Try.ntmps15
  go_wp2_with fail
  refine (newBook_any 2 3 _).mono ?_; rintro e w1 ⟨hcase, hb⟩
  rcases hcase with ⟨h, _⟩ | ⟨_, B, M, hM, hB, rfl, hbk⟩
  · exfalso; omega
  · have B1 := bx hb
    have K1 := bx (hbk fun _ => True)
    have HM := bx hM
    clear hb hbk hM hB
    have E1 := bx (ext_alloc w1 (.cells #[.int .u64 5, .int .u64 7] 30))
    have K2 := bx (K1.out.below E1.out)
    have B2 := bx (B1.out.trans (E1.out.mono B1.out.size))
    have R2 : Bx (Has (w1.alloc (.cells #[.int .u64 5, .int .u64 7] 30)) w1.heap.size (ints .u64 [5, 7])) := ⟨Has.new w1 (ints .u64 [5, 7]) _⟩
    have E2 := bx (ext_alloc (w1.alloc (.cells #[.int .u64 5, .int .u64 7] 30)) (.cells zt.toArray 38))
    have XZ := bx (Has.new (w1.alloc (.cells #[.int .u64 5, .int .u64 7] 30)) zt 38)
    go_upto_region 5 with (first | ((with_reducible refine wpList_buildTo rfl 35 _ rfl [(0, .int .u64 4)] (ckc ck) ?_ LC.out ?_); rfl) | ((with_reducible refine wpList_buildTo rfl 38 _ rfl [(0, .agg (ckc ck).toArray), (1, .slice (some ⟨w1.heap.size, 0, none⟩) 2 2)] (tbc ck (.slice (some ⟨w1.heap.size, 0, none⟩) 2 2)) ?_ (LT.out _ _ _) ?_); rfl) | ((with_reducible refine wpList_allocZ rfl 38 zt zero_table rfl ?_)) | ((with_reducible refine wpList_storeB rfl 38 _ _ rfl _ (tbc ck (.slice (some ⟨w1.heap.size, 0, none⟩) 2 2)) _ ?_ ?_ XZ.out (zt_len CK.out.r _) Try.underlying38 (cells_tb CK.out.r _) (tbc_one _ _ _ _) ?_); rfl; rfl; intro w3 hw hg hz; have X3 := bx hw; have F3 := bx (E2.out.grown hg E2.out.size (fun k hk => by cases hk; exact Nat.le_refl _)); clear hw hg hz))
    have K3 := bx (K2.out.below F3.out)
    have B3 := bx (B2.out.trans (F3.out.mono B2.out.size))
    have R3 := bx (R2.out.below F3.out R2.out.lt)
    clear K1 B1 E1 K2 B2 R2 E2 F3 XZ LC LT
    rw [show (w1.alloc (.cells #[.int .u64 5, .int .u64 7] 30)).heap.size = w1.heap.size + 1 from by simp] at X3
    have hsz : (w1.alloc (.cells #[.int .u64 5, .int .u64 7] 30)).heap.size = w1.heap.size + 1 := by simp
    rw [hsz]
    clear hsz
    generalize w1.heap.size = g1 at *
    have UR := bx (fun w' (h : Has w' g1 (ints .u64 [5, 7])) => (show URow w' (some ⟨g1, 0, none⟩) 2 [5, 7] from ⟨rfl, fun _ => ⟨g1, [], rfl, h.cast (by simp)⟩⟩).row)
    have RG := bx (fun w' T (h : Bk (fun _ => True) w' B M 2 3 T) (hr : Has w' g1 (ints .u64 [5, 7])) => register_any B M 2 3 (by omega) T ck CK.out w'.heap.size (some ⟨g1, 0, none⟩) 2 [5, 7] aw_u (by decide) (fun h => by cases h) w' h (fun _ _ => trivial) (Nat.le_refl _) (UR.out w' hr))
    go_wp2_with ((with_reducible refine wpList_loadG 38 _ rfl _ (tbc ck (.slice (some ⟨g1, 0, none⟩) 2 2)) ?_ ?_ X3.out Try.underlying38 rfl ?_ ?_); rfl; rfl; exact cells_tb CK.out.r _)
    refine (RG.out _ _ K3.out R3.out).mono ?_; rintro e w4 ⟨rfl, hk, hg⟩
    rw [G1.out.2] at hk
    have K4 := bx hk
    have X4 := bx (X3.out.kp K3.out.m hg)
    have R4 := bx (R3.out.kp K3.out.m hg)
    have B4 := bx (B3.out.trans (below_kp hg HM.out B3.out.size))
    rw [G1.out.1]
    clear hk hg K3 X3 R3 B3
    go_wp2_with ((with_reducible refine wpList_loadG 38 _ rfl _ (tbc ck (.slice (some ⟨g1, 0, none⟩) 2 2)) ?_ ?_ X4.out Try.underlying38 rfl ?_ ?_); rfl; rfl; exact cells_tb CK.out.r _)
    refine (RG.out _ _ K4.out R4.out).mono ?_; rintro e w5 ⟨rfl, hk, hg⟩
    rw [G2.out.2] at hk
    have K5 := bx hk
    have X5 := bx (X4.out.kp K4.out.m hg)
    have B5 := bx (B4.out.trans (below_kp hg HM.out B4.out.size))
    rw [G2.out.1]
    clear hk hg K4 X4 R4 B4 RG UR
    have TR5 := bx (tb_range X5.out)
    go_wp2_with ((with_reducible refine wpList_loadR 35 _ rfl ?_ (g1 + 1) 0 (ckc ck) TR5.out ?_ Try.underlying35 ?_ ?_ ?_); rfl; rfl; rfl; exact cells_ck CK.out.r)
    refine (known_any B M 2 3 _ ck CK.out _ K5.out).mono ?_; rintro e w6 ⟨rfl, hb⟩
    have K6 := bx (K5.out.below hb)
    have X6 := bx (X5.out.below hb X5.out.lt)
    have B6 := bx (B5.out.trans (hb.mono B5.out.size))
    rw [G3.out]
    clear hb K5 X5 B5 TR5
    have TR6 := bx (tb_range X6.out)
    go_wp2_with ((with_reducible refine wpList_loadR 35 _ rfl ?_ (g1 + 1) 0 (ckc ck) TR6.out ?_ Try.underlying35 ?_ ?_ ?_); rfl; rfl; rfl; exact cells_ck CK.out.r)
    refine (balance_any B M 2 3 _ ck CK.out 1 (by rw [G4.out]; decide) _ K6.out).mono ?_; rintro e w7 ⟨rfl, hb⟩
    have K7 := bx (K6.out.below hb)
    have X7 := bx (X6.out.below hb X6.out.lt)
    have B7 := bx (B6.out.trans (hb.mono B6.out.size))
    rw [G5.out]
    clear hb K6 X6 B6 TR6
    have TR7 := bx (tb_range X7.out)
    go_wp2_with ((with_reducible refine wpList_loadR 35 _ rfl ?_ (g1 + 1) 0 (ckc ck) TR7.out ?_ Try.underlying35 ?_ ?_ ?_); rfl; rfl; rfl; exact cells_ck CK.out.r)
    refine (total_any B M 2 3 _ ck CK.out (by rw [G4.out]; decide) (by rw [G4.out]; exact aw_u) _ K7.out).mono ?_; rintro e w8 ⟨rfl, hb⟩
    have B8 := bx (B7.out.trans (hb.mono B7.out.size))
    rw [G4.out, G6.out]
    clear hb K7 X7 B7 TR7
    go_wp2_with fail
    go_ret
    exact ⟨rfl, B8.out⟩
end Go.Proofs.Ytekikfdlnkcenaa
