/- The walk of VotesLatest. -/
import Derived.Test.YtfkimlmfgipfjaaVotesAwake
import Derived.Deep.RegionWith
import Derived.Deep.RegionHeld3
namespace Go.Proofs.Ytfkimlmfgipfjaa
open Go.RowKit

/-- the best index up to now -/
def bestI : Option Nat → Int
  | none => -1
  | some b => b
def curOf (l : List Int) : Option Nat → Vt
  | none => zv
  | some b => (true, l.getD b 0, rootL (b + 1))
theorem curOf_len (l : List Int) (s : Option Nat) : (curOf l s).2.2.length = 32 := by
  cases s with
  | none => rfl
  | some b => exact rootL_length _
/-- the best index behind one vote more -/
def nextB (l : List Int) (k : Nat) : Option Nat → Option Nat
  | none => some k
  | some b => if l.getD k 0 > l.getD b 0 then some k else some b
theorem castGo_one (ep : Int) (r : List Int) (o : Vt) : castGo ep r [o] [0] 0 = if keeps o ep then ([o], 0) else ([(true, ep, r)], 1) := rfl
theorem next_cast (l : List Int) (k : Nat) (s : Option Nat) : castV (l.getD k 0) (rootL (k + 1)) [curOf l s] [0] = [curOf l (nextB l k s)] := by
  have hv : vErr [0] (([curOf l s] : List Vt).length : Int) = 0 := by
    show vErr [0] 1 = 0
    decide
  unfold castV
  rw [if_pos hv, castGo_one]
  cases s with
  | none =>
    have hk : ¬ keeps (curOf l none) (l.getD k 0) := fun hh => by have := hh.1; cases this
    rw [if_neg hk]
    rfl
  | some b =>
    by_cases h : l.getD k 0 > l.getD b 0
    · have hk : ¬ keeps (curOf l (some b)) (l.getD k 0) := fun hh => by
        have : l.getD k 0 ≤ l.getD b 0 := hh.2
        omega
      have hn : nextB l k (some b) = some k := if_pos h
      rw [if_neg hk, hn]
      rfl
    · have hk : keeps (curOf l (some b)) (l.getD k 0) := ⟨rfl, by show l.getD k 0 ≤ l.getD b 0; omega⟩
      have hn : nextB l k (some b) = some b := if_neg h
      rw [if_pos hk, hn]
theorem next_err (l : List Int) (s : Option Nat) : vErr [0] (([curOf l s] : List Vt).length : Int) = 0 := by
  show vErr [0] 1 = 0
  decide

/-- one cell is read -/
theorem run_load1 {P : Program} {w : World} {t : TypeId} {k : IntKind} {p : Addr} {v : Value} (hu : P.underlying t = some (.int k)) (hc : w.cell? p = some v) : (Instr.loadAt t (.pointer (some p))).run P w = .ok v w := by
  simp [Instr.loadAt, Instr.sureAddr, loadVar, isAgg, run_underlying hu, run_load, hc]
theorem quiet_load1 {P : Program} {C : World → Prop} {o : Oper} {a : Act} {K : Act → Prop} (ty : TypeId) (x : Operand) (ho : o.op = .load ty x) (p : Addr) (v : Value)
    (hx : a.eval x = .pointer (some p)) (hr : ∀ w, C w → (Instr.loadAt ty (.pointer (some p))).run P w = .ok v w) (hk : K (a.put o.dst v)) : o.quiet P a C K := by
  refine ⟨_, fun w hw => ?_, hk⟩
  unfold Oper.quietAt execOp
  simp only [ho, hx, hr w hw, Sem.run_bind, Sem.run_pure, Result.andThen_ok]
  exact ⟨rfl, rfl⟩

set_option maxRecDepth 20000 in
set_option maxHeartbeats 1000000 in
theorem votesLatest_walk (A : Option Addr) (n c : Nat) (l : List Int) (w : World) (hf : Fit .u64 l) (hl : l.length = n) (hr : Row w w.heap.size 1 A n (ints .u64 l)) (hnc : n ≤ c) (hcm : c ≤ maxLen) :
    Calls Try.prog 3 #[.slice A n c] w fun e w' => e = .returned (.bool true) ∧ Below w.heap.size w w' := by
  have HK := Lib.hid votes_awake
  have HN := Lib.hid (newTable_any 1 (by omega))
  have HR := Lib.hid root_any
  have HROW := Lib.hid hr
  have HL := Lib.hid hl
  have hmx : Hid (n ≤ 9223372036854775807) := by show _ ≤ _; unfold maxLen at hcm; omega
  clear hr hl hf
  by_cases h50 : (n : Int) > 50
  · go_enter Try.func3, Try.ntmps3
    go_wp2_with fail
    refine (HK.out _).mono ?_; rintro e w1 ⟨rfl, hb1⟩
    have B1 := Lib.hid hb1
    clear hb1
    go_wp2_with fail
    go_ret
    exact ⟨rfl, B1.out⟩
  · have hn50 : n ≤ 50 := by omega
    go_enter Try.func3, Try.ntmps3
    go_wp2_with fail
    refine (HN.out _).mono ?_; rintro e w1 ⟨rfl, ht1, hb1⟩
    have T1 := Lib.hid ht1
    have B1 := Lib.hid hb1
    clear ht1 hb1
    go_wp2_with fail
    go_loopw [5, 6] (fun b i wr => ∃ (k : Nat) (s : Option Nat), k ≤ n ∧ i = .int .i64 k ∧ b = .int .i64 (bestI s) ∧ (∀ j, s = some j → j < k) ∧ (s = none → k = 0) ∧ Tab wr (w.heap.size + 1) w.heap.size [curOf l s] ∧ Below w.heap.size w wr) (fun _ i _ => n - (intOf i).toNat)
    case atStart => exact ⟨0, none, Nat.zero_le _, rfl, rfl, (fun j hj => by cases hj), (fun _ => rfl), T1.out, B1.out⟩
    case round =>
      obtain ⟨k, s, hk, rfl, rfl, hsk, hs0, htab, hbel⟩ := hrel
      have T2 := Lib.hid htab
      have B2 := Lib.hid hbel
      have HSK := Lib.hid hsk
      have HS0 := Lib.hid hs0
      clear htab hbel hsk hs0
      by_cases hkn : k < n
      · have hkl : k < l.length := by rw [HL.out]; exact hkn
        have hu : (ints .u64 l)[k]? = some (.int .u64 (l.getD k 0)) := by unfold ints; rw [List.getElem?_map, List.getElem?_eq_getElem hkl, getD_at hkl]; rfl
        obtain ⟨ad, rfl, hb, hca⟩ := (HROW.out.below B2.out).at_ hu
        have hnc1 := next_cast l k s
        have hne1 := next_err l s
        have hw1 : IntKind.i64.wrap ((k : Int) + 1) = (k : Int) + 1 := IntWalk.i64_in _ (by omega)
        clear hu
        generalize hxe : l.getD k 0 = x at *
        have HXE := Lib.hid hxe
        have HNC := Lib.hid hnc1
        have HNE := Lib.hid hne1
        clear hxe hnc1 hne1
        go_wp2_with fail
        have CA1 : Hid (∀ w2 : World, Tab w2 (w.heap.size + 1) w.heap.size [curOf l s] → Calls Try.prog 13 #[.pointer (some ⟨w.heap.size + 1, 0, none⟩), .int .u64 x, .agg (ints .u8 (rootL (k + 1))).toArray, .slice (some ⟨w2.heap.size, 0, none⟩) 1 1] (w2.alloc (.cells #[.int .i64 0] 3)) (CastPost x (rootL (k + 1)) [curOf l s] [0] (w.heap.size + 1) w.heap.size (w2.alloc (.cells #[.int .i64 0] 3)))) :=
          fun w2 ht => cast_any x (rootL (k + 1)) (rootL_length _) (some ⟨w2.heap.size, 0, none⟩) 1 1 [0] (w2.alloc (.cells (ints .i64 [0]).toArray 3)) (ht.alloc _) (row_new w2 .i64 [0] 3 1 rfl) (fun ad he => by injection he with he; subst he; exact Nat.ne_of_gt ht.2.1.lt) (by omega)
        have CA2 : Hid (∀ w1 w2 : World, Tab w2 (w.heap.size + 1) w.heap.size [curOf l s] → Row w2 w2.heap.size 1 (some ⟨w1.heap.size, 0, none⟩) 1 (ints .i64 [0]) → w1.heap.size ≠ w.heap.size → Calls Try.prog 13 #[.pointer (some ⟨w.heap.size + 1, 0, none⟩), .int .u64 x, .agg (ints .u8 (rootL (k + 1))).toArray, .slice (some ⟨w1.heap.size, 0, none⟩) 1 1] w2 (CastPost x (rootL (k + 1)) [curOf l s] [0] (w.heap.size + 1) w.heap.size w2)) :=
          fun w1 w2 ht hr hne => cast_any x (rootL (k + 1)) (rootL_length _) (some ⟨w1.heap.size, 0, none⟩) 1 1 [0] w2 ht hr (fun ad he => by injection he with he; subst he; exact hne) (by omega)
        have BA := Lib.hid (B2.out.alloc B2.out.size (.cells #[.int .i64 0] 3)).drew
        have RA : Hid (Row (wr.alloc (.cells #[.int .i64 0] 3)).drew (wr.alloc (.cells #[.int .i64 0] 3)).drew.heap.size 1 (some ⟨wr.heap.size, 0, none⟩) 1 (ints .i64 [0])) := (row_new wr .i64 [0] 3 1 rfl).drew
        have TA := Lib.hid (T2.out.alloc (.cells #[.int .i64 0] 3)).drew
        have NA := Lib.hid (Nat.ne_of_gt T2.out.2.1.lt)
        have HCELL : Hid (∀ w' : World, Below w.heap.size w w' → w'.cell? (ad.add k) = some (.int .u64 x)) := fun w' hw' => by rw [hw'.cell (by rw [add_block]; exact hb), ← B2.out.cell (by rw [add_block]; exact hb)]; exact hca
        have hbw : ad.block < wr.heap.size := Nat.lt_of_lt_of_le hb B2.out.size
        have hbk : (ad.add k).block < wr.heap.size := by rw [add_block]; exact hbw
        have hcA : (wr.alloc (.cells #[.int .i64 0] 3)).cell? (ad.add k) = some (.int .u64 x) := by rw [World.cell?_alloc_lt _ _ _ hbk]; exact hca
        have HBK : Hid (∀ w' : World, Below w.heap.size w w' → (ad.add k).block < w'.heap.size) := fun w' hw' => by rw [add_block]; exact Nat.lt_of_lt_of_le hb hw'.size
        go_region_held3 (fun w' => w'.cell? (ad.add k) = some (.int .u64 x)) (first | exact hca | exact hcA | exact hc3 | exact hcB | exact HCELL.out _ B4.out) (first
          | (go_at_call 14; (with_reducible refine (HR.out _ wr.drew).mono ?_); rintro e w2 ⟨rfl, hb2⟩; have T3 := Lib.hid (T2.out.drew.below hb2 T2.out.1.lt T2.out.2.1.lt); have B3 := Lib.hid (B2.out.drew.trans (hb2.mono B2.out.size)); have hc3 := HCELL.out _ B3.out; have hb3 := HBK.out _ B3.out; have hcB : (w2.alloc (.cells #[.int .i64 0] 3)).cell? (ad.add k) = some (.int .u64 x) := (World.cell?_alloc_lt _ _ _ hb3).trans hc3; clear hb2)
          | (go_at_call 14; (with_reducible refine (HR.out _ (wr.alloc (.cells #[.int .i64 0] 3)).drew).mono ?_); rintro e w2 ⟨rfl, hb2⟩; have T3 := Lib.hid (TA.out.below hb2 TA.out.1.lt TA.out.2.1.lt); have B3 := Lib.hid (BA.out.trans (hb2.mono BA.out.size)); have R3 := Lib.hid ((RA.out.below hb2).more hb2.size); have hc3 := HCELL.out _ B3.out; have hb3 := HBK.out _ B3.out; have hcB : (w2.alloc (.cells #[.int .i64 0] 3)).cell? (ad.add k) = some (.int .u64 x) := (World.cell?_alloc_lt _ _ _ hb3).trans hc3; clear hb2)
          | (go_at_call 13; (with_reducible refine (CA1.out w2 T3.out).mono ?_); rintro e w3 hp; have B4 := Lib.hid (CastPost.below hp (B3.out.alloc B3.out.size _) (Nat.le_refl _) (by have := B3.out.size; simp; omega)); obtain ⟨he, ht4, _⟩ := hp; rw [HNE.out] at he; rw [HNC.out] at ht4; have T4 := Lib.hid ht4; subst he; clear ht4)
          | (go_at_call 13; (with_reducible refine (CA2.out wr w2 T3.out R3.out NA.out).mono ?_); rintro e w3 hp; have B4 := Lib.hid (CastPost.below hp B3.out (Nat.le_refl _) B3.out.size); obtain ⟨he, ht4, _⟩ := hp; rw [HNE.out] at he; rw [HNC.out] at ht4; have T4 := Lib.hid ht4; subst he; clear ht4))
        all_goals
          have hc4 := HCELL.out _ B4.out
          cases s with
          | none =>
            have hbi : bestI none = -1 := rfl
            go_wp2_with fail
            go_quiet (fail)
            go_wp2_with fail
            go_roundw
            case rel => exact ⟨k + 1, some k, by omega, by go_num, rfl, (fun j hj => by injection hj with hj; omega), (fun h => by cases h), T4.out, below_dN B4.out _⟩
            case measure => simp [intOf]; omega
          | some b =>
            have hbk' := HSK.out b rfl
            have hbl : b < l.length := by omega
            have hub : (ints .u64 l)[b]? = some (.int .u64 (l.getD b 0)) := by unfold ints; rw [List.getElem?_map, List.getElem?_eq_getElem hbl, getD_at hbl]; rfl
            obtain ⟨ad2, had, hb2', hcab⟩ := (HROW.out.below B4.out).at_ hub
            obtain rfl : ad2 = ad := by injection had with h; exact h.symm
            have hbi : bestI (some b) = (b : Int) := rfl
            have hnn : ¬ (b : Int) < 0 := by omega
            have hbn : (b : Int) < (n : Int) := by omega
            have hki : (k : Int) < (n : Int) := by omega
            have hb0 : 0 ≤ (b : Int) := by omega
            have hk0 : 0 ≤ (k : Int) := by omega
            have HNB : Hid (nextB l k (some b) = if l.getD k 0 > l.getD b 0 then some k else some b) := rfl
            rw [HXE.out] at HNB
            clear hub had
            generalize l.getD b 0 = y at *
            by_cases hgt : x > y
            · rw [if_pos hgt] at HNB
              have HNB' := Lib.hid HNB.out
              go_wp2_with fail
              go_quiet (fail)
              go_wp2_with fail
              go_roundw
              case rel => exact ⟨k + 1, some k, by omega, by go_num, rfl, (fun j hj => by injection hj with hj; omega), (fun h => by cases h), (by have := T4.out; rw [HNB.out] at this; exact this), below_dN B4.out _⟩
              case measure => simp [intOf]; omega
            · rw [if_neg hgt] at HNB
              have hgd : decide (x > y) = false := decide_eq_false hgt
              go_wp2_with fail
              go_quiet (fail)
              go_wp2_with fail
              go_roundw
              case rel => exact ⟨k + 1, some b, by omega, by go_num, rfl, (fun j hj => by injection hj with hj; omega), (fun h => by cases h), (by have := T4.out; rw [HNB.out] at this; exact this), below_dN B4.out _⟩
              case measure => simp [intOf]; omega
      · have hkk : k = n := by omega
        subst hkk
        have hzv := zv_lit
        have hva : voteAt [curOf l s] 0 = curOf l s := rfl
        have hq : ∀ w : World, (Op.equalIn 10000 35 (.agg (vc (curOf l s)).toArray) (.agg (vc (curOf l s)).toArray)).run Try.prog w = .ok true w := fun w => by
          have := vote_same (curOf_len l s) (curOf_len l s) w
          rwa [decide_eq_true rfl] at this
        cases s with
        | none =>
          have hbi : bestI none = -1 := rfl
          have hcn : curOf l none = zv := rfl
          have V := Lib.hid (vote_any 0 wr T2.out)
          rw [hva, hcn] at V
          rw [hcn] at hq
          clear hva hcn
          go_wp2_with fail
          refine V.out.mono ?_; rintro e w4 ⟨rfl, hb4⟩
          have B4 := Lib.hid (B2.out.trans (hb4.mono B2.out.size))
          clear hb4
          go_wp2_with fail
          refine (HK.out _).mono ?_; rintro e w5 ⟨rfl, hb5⟩
          have B5 := Lib.hid (B4.out.trans (hb5.mono B4.out.size))
          clear hb5
          go_wp2_with fail
          go_ret
          exact ⟨rfl, B5.out⟩
        | some b =>
          have hbi : bestI (some b) = (b : Int) := rfl
          have hbk' := HSK.out b rfl
          have hbl : b < l.length := by rw [HL.out]; exact hbk'
          have hub : (ints .u64 l)[b]? = some (.int .u64 (l.getD b 0)) := by unfold ints; rw [List.getElem?_map, List.getElem?_eq_getElem hbl, getD_at hbl]; rfl
          obtain ⟨ad, rfl, hb2', hcab⟩ := (HROW.out.below B2.out).at_ hub
          have hnn : ¬ (b : Int) < 0 := by omega
          have hbn : (b : Int) < (k : Int) := by omega
          have hb0 : 0 ≤ (b : Int) := by omega
          have hw1 : IntKind.i64.wrap ((b : Int) + 1) = (b : Int) + 1 := IntWalk.i64_in _ (by omega)
          have hcs : curOf l (some b) = (true, l.getD b 0, rootL (b + 1)) := rfl
          rw [hva] at *
          have C1 : Hid (∀ w1 : World, Cls wr.heap.size wr w1 → Calls Try.prog 15 #[.pointer (some ⟨w.heap.size + 1, 0, none⟩), .int .i64 0] w1 fun e w' => e = .returned (.agg (vc (true, l.getD b 0, rootL (b + 1))).toArray) ∧ Cls wr.heap.size wr w') :=
            fun w1 h => h.calls (Nat.le_refl _) (vote_any 0 w1 (T2.out.below h.out T2.out.1.lt T2.out.2.1.lt))
          have C2 := Lib.hid (fun (w1 : World) (h : Cls wr.heap.size wr w1) => h.calls (Nat.le_refl _) (root_any ((b : Int) + 1) w1))
          have C3 := Lib.hid (fun (w1 : World) (h : Cls wr.heap.size wr w1) => h.calls (Nat.le_refl _) (votes_awake w1))
          have HLD : Hid (∀ w1 : World, Cls wr.heap.size wr w1 → (Instr.loadAt 30 (.pointer (some (ad.add b)))).run Try.prog w1 = .ok (.int .u64 (l.getD b 0)) w1) :=
            fun w1 h => run_load1 Try.underlying30 ((h.out.cell (by rw [add_block]; exact Nat.lt_of_lt_of_le hb2' B2.out.size)).trans hcab)
          rw [hcs] at hq
          have hz1 := vote_zero_len
          have hz0 := vote_zero_ne
          have hr32 : (ints .u8 (rootL ((b : Int) + 1))).length = 32 := by rw [ints, List.length_map]; exact rootL_length _
          have hfold := vote_fold (l.getD b 0) (rootL_length ((b : Int) + 1))
          clear hub hcs hva hcab
          generalize l.getD b 0 = y at *
          go_wp2_with fail
          refine region_cls wr.heap.size (by kernel_rfl) (by kernel_rfl) ?_
          repeat (first | go_big_quiet_skip | (go_big_quiet_want; first | ((with_reducible refine quiet_load1 30 _ rfl (ad.add b) _ ?_ HLD.out ?_); rfl; go_big_quiet_on; (simp only [Act.put, List.setIfInBounds_toArray, List.set_cons_succ, List.set_cons_zero])) | (go_big_quiet_op; first | go_big_quiet_on | ((with_reducible refine ⟨_, fun _ _ => rfl, ?_⟩); go_big_quiet_on) | (apply Exists.intro; refine ⟨fun w1 hw1 => ?_, ?_⟩; (first | (go_at_call 15; (with_reducible exact C1.out w1 hw1)) | (go_at_call 14; (with_reducible exact C2.out w1 hw1)) | (go_at_call 11; (with_reducible exact C3.out w1 hw1))); go_big_quiet_on))))
          refine wpQuiet_nil ?_
          intro w4 hw4
          have HW4 := Lib.hid hw4
          clear hw4
          go_wp2_with fail
          go_ret
          exact ⟨rfl, B2.out.trans (HW4.out.out.mono B2.out.size)⟩
end Go.Proofs.Ytfkimlmfgipfjaa
