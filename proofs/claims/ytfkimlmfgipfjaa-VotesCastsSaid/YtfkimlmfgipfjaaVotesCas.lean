/- The walk of VotesCasts. -/
import Derived.Test.YtfkimlmfgipfjaaSupported
import Derived.Test.YtfkimlmfgipfjaaListL
import Derived.Test.YtfkimlmfgipfjaaRefCast
import Derived.Test.YtfkimlmfgipfjaaListsRef
import Derived.Test.YtfkimlmfgipfjaaVotesAwake
import Derived.Test.YtfkimlmfgipfjaaMasks
namespace Go.Proofs.Ytfkimlmfgipfjaa
open Go.RowKit

theorem and_7 (n : Int) : ∃ m : Nat, m ≤ 7 ∧ bits .and .i64 n 7 = (m : Int) := by
  refine ⟨(n % 8).toNat, by omega, ?_⟩
  have := and_ones n 3 (by decide)
  have e : ((2 ^ 3 - 1 : Nat) : Int) = 7 := rfl
  have e2 : ((2 ^ 3 : Nat) : Int) = 8 := rfl
  rw [e, e2] at this
  rw [this]; omega
/-- a list of votes, away from the table -/
def VA (w : World) (s : Nat) (A : Option Addr) (n : Nat) (xs : List Vt) : Prop := xs.length = n ∧ VL xs ∧ (0 < n → ∃ g post, A = some ⟨g, 0, none⟩ ∧ Has w g (xs.flatMap vc ++ post) ∧ s + 1 < g)
theorem VA.row {w : World} {s : Nat} {A : Option Addr} {n : Nat} {xs : List Vt} (h : VA w s A n xs) : VRow w A n xs := ⟨h.1, h.2.1, fun hn => by
  obtain ⟨g, p, h1, h2, _⟩ := h.2.2 hn
  exact ⟨g, p, h1, h2⟩⟩
theorem VA.ext {w w' : World} {s : Nat} {A : Option Addr} {n : Nat} {xs : List Vt} (h : VA w s A n xs) (hb : Below w.heap.size w w') : VA w' s A n xs := ⟨h.1, h.2.1, fun hn => by
  obtain ⟨g, p, h1, h2, h3⟩ := h.2.2 hn
  exact ⟨g, p, h1, h2.below hb h2.lt, h3⟩⟩
theorem VA.grown {w w' : World} {s : Nat} {A : Option Addr} {n : Nat} {xs : List Vt} (h : VA w s A n xs) (hb : w.grownBy w' (some s)) : VA w' s A n xs := ⟨h.1, h.2.1, fun hn => by
  obtain ⟨g, p, h1, h2, h3⟩ := h.2.2 hn
  exact ⟨g, p, h1, h2.grown hb (ne_some (by omega)), h3⟩⟩
theorem Tab.ext {w w' : World} {g h : Nat} {vs : List Vt} (t : Tab w g h vs) (hb : Below w.heap.size w w') : Tab w' g h vs := t.below hb t.1.lt t.2.1.lt
theorem Has.ext {w w' : World} {g : Nat} {cs : List Value} (t : Has w g cs) (hb : Below w.heap.size w w') : Has w' g cs := t.below hb t.lt
theorem Row.ext {w w' : World} {n : Nat} {A : Option Addr} {xs : List Value} (t : Row w w.heap.size 1 A n xs) (hb : Below w.heap.size w w') : Row w' w'.heap.size 1 A n xs := (t.below hb).more hb.size
theorem ext_alloc (w : World) (o : Obj) : Below w.heap.size w (w.alloc o) := (Below.refl _ _).alloc (Nat.le_refl _) o
theorem votes_zero_made (n : Nat) : madeCells (Value.agg (vc zv).toArray).cells (n * 34) = ((List.replicate n zv).flatMap vc).toArray := made_flat vc zv _ (by simp [Value.cells]) (k := 34) rfl (by omega) n

set_option maxRecDepth 20000 in
set_option maxHeartbeats 2000000 in
theorem votesCasts_walk (A : Option Addr) (n c : Nat) (l : List Int) (x : Int) (w : World) (hf : Fit .i64 l) (hl : l.length = n) (hr : Row w w.heap.size 1 A n (ints .i64 l)) (hnc : n ≤ c) (hcm : c ≤ maxLen) (hx : (Lit.int .i64 x).wf = true) :
    Calls Try.prog 5 #[.slice A n c, .int .i64 x] w fun e w' => e = .returned (.bool true) ∧ Below w.heap.size w w' := by
  have HK := Lib.hid votes_awake
  have HR := Lib.hid root_any
  have HROW := Lib.hid hr
  have HL := Lib.hid hl
  have hmx : Hid (n ≤ 9223372036854775807) := by show _ ≤ _; unfold maxLen at hcm; omega
  obtain ⟨m, hm7, hm⟩ := and_7 x
  have HN := Lib.hid (newTable_any m (by omega))
  obtain ⟨i0, hi0, hz0, hz1, hz2⟩ := info_parts info_vote
  have HMK : Hid (∀ w : World, _) := fun w => run_make (P := Try.prog) w 38 35 i0 _ Try.underlying38 hi0 hz0 .i64 .i64 m m (by omega) (Int.le_refl _) (by rw [hz2]; omega) (by omega)
  clear hr hl hf hx
  go_enter Try.func5, Try.ntmps5
  go_wp2_with fail
  refine (HN.out _).mono ?_; rintro e w1 ⟨rfl, ht1, hb1⟩
  have T1 := Lib.hid ht1
  have B1 := Lib.hid hb1
  clear ht1 hb1
  have hmk := HMK.out w1
  rw [hz1, Int.toNat_natCast, votes_zero_made m] at hmk
  go_wp2_with fail
  have V1 : Hid (VA (w1.alloc (.cells ((List.replicate m zv).flatMap vc).toArray 35)) w.heap.size (some ⟨w1.heap.size, 0, none⟩) m (List.replicate m zv)) :=
    ⟨List.length_replicate, T1.out.2.2.1, fun _ => ⟨w1.heap.size, [], rfl, by rw [List.append_nil]; exact Has.new w1 _ _, T1.out.1.lt⟩⟩
  have T2 := Lib.hid (T1.out.alloc (.cells ((List.replicate m zv).flatMap vc).toArray 35))
  have B2 := Lib.hid (B1.out.alloc B1.out.size (.cells ((List.replicate m zv).flatMap vc).toArray 35))
  clear hmk
  go_loopw [7, 8] (fun q i wr => ∃ (k : Nat) (vs : List Vt) (A2 : Option Addr) (c2 : Nat), k ≤ 12 ∧ k ≤ n ∧ i = .int .i64 k ∧ q = .slice A2 m c2 ∧ Tab wr (w.heap.size + 1) w.heap.size vs ∧ VA wr w.heap.size A2 m vs ∧ Below w.heap.size w wr) (fun _ i _ => n - (intOf i).toNat)
  case atStart => exact ⟨0, _, _, _, Nat.zero_le _, Nat.zero_le _, rfl, rfl, T2.out, V1.out, B2.out⟩
  case round =>
    obtain ⟨k, vs, A2, c2, hk12, hk, rfl, rfl, ht, hv, hb⟩ := hrel
    have T3 := Lib.hid ht
    have V3 := Lib.hid hv
    have B3 := Lib.hid hb
    clear ht hv hb
    by_cases hkn : k < n ∧ k < 12
    · obtain ⟨hkn, hk12'⟩ := hkn
      have hkl : k < l.length := by rw [HL.out]; exact hkn
      have hu : (ints .i64 l)[k]? = some (.int .i64 l[k]) := by unfold ints; rw [List.getElem?_map, List.getElem?_eq_getElem hkl]; rfl
      obtain ⟨ad, rfl, hba, hca⟩ := (HROW.out.below B3.out).at_ hu
      clear hu
      generalize l[k] = y at *
      go_wp2_with fail
      refine (HR.out _ _).mono ?_; rintro e w4 ⟨rfl, hb4⟩
      have T4 := Lib.hid (T3.out.ext hb4)
      have V4 := Lib.hid (V3.out.ext hb4)
      have B4 := Lib.hid (B3.out.trans (hb4.mono B3.out.size))
      clear hb4
      generalize hRt : rootL _ = R
      have LR : Hid (R.length = 32) := by show _ = _; rw [← hRt]; exact rootL_length _
      clear hRt
      go_wp2_with fail
      refine (list_any m hm7 _ _).mono ?_; rintro e w5 ⟨v5, who, hwl, he, ho, hb5⟩
      obtain ⟨A5, c5, hv5⟩ := own_slice ho
      subst hv5
      subst he
      have T5 := Lib.hid (T4.out.ext hb5)
      have V5 := Lib.hid (V4.out.ext hb5)
      have B5 := Lib.hid (B4.out.trans (hb5.mono B4.out.size))
      have W5 := Lib.hid (Row.own ho)
      have WN : Hid (∀ ad, A5 = some ad → ad.block ≠ w.heap.size) := fun ad hd => by
        rcases ho.2 with ⟨h1, _⟩ | ⟨g, cap, cur, h1, h2, _⟩
        · injection h1 with h1; rw [h1] at hd; cases hd
        · injection h1 with h1; rw [h1] at hd; injection hd with hd; subst hd; have := T4.out.2.1.lt; show g ≠ _; omega
      have HWL := Lib.hid hwl
      have HWL2 : Hid (who.length ≤ 9223372036854775807) := by show _ ≤ _; omega
      clear ho hb5 hwl
      have HZ := Lib.hid (Has.new w5 (ints .u8 zroot) 32)
      have hz := zroot_lit
      generalize IntKind.u64.wrap _ = E at *
      go_wp2_with (first | ((with_reducible refine wpList_storeB rfl 32 _ _ rfl _ (ints .u8 R) _ ?_ ?_ HZ.out ?_ Try.underlying32 ?_ (one_ints _ _) ?_); rfl; rfl; exact zroot_len LR.out; exact cells_root LR.out; intro w6 hw6 hg6 hz6; have X6 := Lib.hid hw6; have G6 := Lib.hid (grown_over_alloc hg6); clear hw6 hg6 hz6) | ((with_reducible refine wpList_loadG 32 _ rfl _ _ ?_ ?_ X6.out Try.underlying32 ?_ ?_ ?_); rfl; rfl; rfl; exact cells_root LR.out))
      have E6 : Hid (Below w5.heap.size w5 w6) := (Below.refl _ _).grown G6.out (Nat.le_refl _) (fun k hk => by cases hk; exact Nat.le_refl _)
      have T6 := Lib.hid (T5.out.ext E6.out)
      have V6 := Lib.hid (V5.out.ext E6.out)
      have B6 := Lib.hid (B5.out.trans (E6.out.mono B5.out.size))
      have W6 := Lib.hid (W5.out.ext E6.out)
      have XN : Hid (w5.heap.size ≠ w.heap.size) := by show _ ≠ _; have := T5.out.2.1.lt; omega
      refine (cast_any E R LR.out A5 who.length c5 who w6 T6.out W6.out WN.out HWL2.out).mono ?_; rintro e w7 hp
      have B7 := Lib.hid (hp.below B6.out (Nat.le_refl _) B6.out.size)
      obtain ⟨he, ht7, hg7⟩ := hp
      have HVM := Lib.hid V6.out.1
      rw [HVM.out] at he
      subst he
      have T7 := Lib.hid ht7
      have V7 := Lib.hid (V6.out.grown hg7)
      have X7 := Lib.hid (X6.out.grown hg7 (ne_some XN.out))
      have W7 := Lib.hid ((W6.out.apart hg7 (Nat.le_refl _) WN.out).more hg7.size)
      clear ht7 hg7
      have RV := Lib.hid (refValidate_any A5 who.length c5 who m w7 W7.out HWL2.out)
      go_wp2_with fail
      refine RV.out.mono ?_; rintro e w8 ⟨rfl, hb8⟩
      have T8 := Lib.hid (T7.out.ext hb8)
      have V8 := Lib.hid (V7.out.ext hb8)
      have B8 := Lib.hid (B7.out.trans (hb8.mono B7.out.size))
      have X8 := Lib.hid (X7.out.ext hb8)
      have W8 := Lib.hid (W7.out.ext hb8)
      clear hb8
      by_cases hok : vErr who m = 0
      · have hpos : 0 < m := by
          rcases Nat.eq_zero_or_pos m with h0 | h0
          · subst h0
            exfalso
            cases who with
            | nil => simp [vErr] at hok
            | cons v r =>
              have := vErr_mem hok v (List.mem_cons_self)
              omega
          · exact h0
        have HC : Hid (castV E R vs who = (castGo E R vs who 0).1 ∧ castN E R vs who = (castGo E R vs who 0).2) := by
          have e1 : vErr who (vs.length : Int) = 0 := by rw [HVM.out]; exact hok
          exact ⟨if_pos e1, if_pos e1⟩
        have HLG : Hid ((castV E R vs who).length = m) := by show _ = _; rw [HC.out.1, castGo_len]; exact HVM.out
        have HME := Lib.hid (vErr_mem hok)
        go_wp2_with ((with_reducible refine wpList_loadG 32 _ rfl _ _ ?_ ?_ X8.out Try.underlying32 ?_ ?_ ?_); rfl; rfl; rfl; exact cells_root LR.out)
        refine (refCast_any A2 A5 m c2 who.length c5 vs E R who LR.out w8 V8.out.row (by omega) hpos W8.out HWL2.out HME.out).mono ?_; rintro e w9 ⟨g9, c9, p9, he, hg9, hvl9, hh9, hb9⟩
        rw [← HC.out.1, ← HC.out.2] at *
        subst he
        have Ts := Lib.hid (T8.out.ext hb9)
        have Vs : Hid (VA w9 w.heap.size (some ⟨g9, 0, none⟩) m (castV E R vs who)) := ⟨HLG.out, hvl9, fun _ => ⟨g9, p9, rfl, hh9, Nat.lt_of_lt_of_le T8.out.1.lt hg9⟩⟩
        have Bs := Lib.hid (B8.out.trans (hb9.mono B8.out.size))
        clear hvl9 hh9 hb9 hg9 HC HLG
        generalize castV E R vs who = VS at *
        generalize castN E R vs who = NN at *
        obtain ⟨ws, rfl⟩ : ∃ ws : World, ws = w9 := ⟨_, rfl⟩
        go_wp2_with fail
        refine (votes_any ws Ts.out (by have := Vs.out.1; omega)).mono ?_; rintro e w9 ⟨v, he, ho, hb9⟩
        obtain ⟨A9, c10, hv9⟩ := own_slice ho
        subst hv9
        subst he
        have T9 := Lib.hid (Ts.out.ext hb9)
        have V9 := Lib.hid (Vs.out.ext hb9)
        have B9 := Lib.hid (Bs.out.trans (hb9.mono Bs.out.size))
        have R9 : Hid (VRow w9 A9 VS.length VS) := ⟨rfl, Ts.out.2.2.1, fun hn0 => by
          obtain ⟨g, cc, post, e1, _, e2⟩ := own_block ho hn0
          injection e1 with e1
          exact ⟨g, post, e1, e2⟩⟩
        clear ho hb9
        have SV := Lib.hid (sameVotes_any A9 (some (⟨g9, 0, none⟩ : Addr)) VS.length m c10 c9 VS VS w9 R9.out V9.out.row (by have := V9.out.1; omega) (by omega))
        rw [decide_eq_true rfl] at SV
        go_wp2_with fail
        refine SV.out.mono ?_; rintro e w10 ⟨rfl, hb10⟩
        have T10 := Lib.hid (T9.out.ext hb10)
        have V10 := Lib.hid (V9.out.ext hb10)
        have B10 := Lib.hid (B9.out.trans (hb10.mono B9.out.size))
        clear hb10
        go_wp2_with fail
        go_loopw [17] (fun i wr2 => ∃ j : Nat, j ≤ 4 ∧ i = .int .i64 j ∧ Tab wr2 (w.heap.size + 1) w.heap.size VS ∧ VA wr2 w.heap.size (some (⟨g9, 0, none⟩ : Addr)) m VS ∧ Below w.heap.size w wr2) (fun i _ => 4 - (intOf i).toNat)
        case atStart => exact ⟨0, Nat.zero_le _, rfl, T10.out, V10.out, B10.out⟩
        case round =>
          obtain ⟨j, hj, rfl, ht, hv, hb⟩ := hrel
          have T11 := Lib.hid ht
          have V11 := Lib.hid hv
          have B11 := Lib.hid hb
          clear ht hv hb
          by_cases hj4 : j < 4
          · go_wp2_with fail
            refine (HR.out _ _).mono ?_; rintro e w12 ⟨rfl, hb12⟩
            have T12 := Lib.hid (T11.out.ext hb12)
            have V12 := Lib.hid (V11.out.ext hb12)
            have B12 := Lib.hid (B11.out.trans (hb12.mono B11.out.size))
            clear hb12
            go_wp2_with fail
            refine (supported_any (rootL j) (rootL_length _) (some (⟨g9, 0, none⟩ : Addr)) m c9 w12 T12.out V12.out.row (by omega)).mono ?_; rintro e w13 ⟨rfl, hb13⟩
            have T13 := Lib.hid (T12.out.ext hb13)
            have V13 := Lib.hid (V12.out.ext hb13)
            have B13 := Lib.hid (B12.out.trans (hb13.mono B12.out.size))
            clear hb13
            go_wp2_with fail
            go_roundw
            case rel => exact ⟨j + 1, by omega, by go_num, T13.out, V13.out, B13.out⟩
            case measure => simp [intOf]; omega
          · go_wp2_with fail
            go_roundw
            case rel => exact ⟨k + 1, VS, (some (⟨g9, 0, none⟩ : Addr)), c9, by omega, by omega, by go_num, rfl, T11.out, V11.out, B11.out⟩
            case measure => simp [intOf]; omega
      · have HC : Hid (castV E R vs who = vs ∧ castN E R vs who = 0) := by
          have e1 : ¬ vErr who (vs.length : Int) = 0 := by rw [HVM.out]; exact hok
          exact ⟨if_neg e1, if_neg e1⟩
        have Ts := T8
        rw [HC.out.1] at Ts
        rw [HC.out.2]
        have Vs := V8
        have Bs := B8
        obtain ⟨ws, rfl⟩ : ∃ ws : World, ws = w8 := ⟨_, rfl⟩
        clear HC
        go_wp2_with fail
        refine (votes_any ws Ts.out (by have := Vs.out.1; omega)).mono ?_; rintro e w9 ⟨v, he, ho, hb9⟩
        obtain ⟨A9, c9, hv9⟩ := own_slice ho
        subst hv9
        subst he
        have T9 := Lib.hid (Ts.out.ext hb9)
        have V9 := Lib.hid (Vs.out.ext hb9)
        have B9 := Lib.hid (Bs.out.trans (hb9.mono Bs.out.size))
        have R9 : Hid (VRow w9 A9 vs.length vs) := ⟨rfl, Ts.out.2.2.1, fun hn0 => by
          obtain ⟨g, cc, post, e1, _, e2⟩ := own_block ho hn0
          injection e1 with e1
          exact ⟨g, post, e1, e2⟩⟩
        clear ho hb9
        have SV := Lib.hid (sameVotes_any A9 A2 vs.length m c9 c2 vs vs w9 R9.out V9.out.row (by have := V9.out.1; omega) (by omega))
        rw [decide_eq_true rfl] at SV
        go_wp2_with fail
        refine SV.out.mono ?_; rintro e w10 ⟨rfl, hb10⟩
        have T10 := Lib.hid (T9.out.ext hb10)
        have V10 := Lib.hid (V9.out.ext hb10)
        have B10 := Lib.hid (B9.out.trans (hb10.mono B9.out.size))
        clear hb10
        go_wp2_with fail
        go_loopw [17] (fun i wr2 => ∃ j : Nat, j ≤ 4 ∧ i = .int .i64 j ∧ Tab wr2 (w.heap.size + 1) w.heap.size vs ∧ VA wr2 w.heap.size A2 m vs ∧ Below w.heap.size w wr2) (fun i _ => 4 - (intOf i).toNat)
        case atStart => exact ⟨0, Nat.zero_le _, rfl, T10.out, V10.out, B10.out⟩
        case round =>
          obtain ⟨j, hj, rfl, ht, hv, hb⟩ := hrel
          have T11 := Lib.hid ht
          have V11 := Lib.hid hv
          have B11 := Lib.hid hb
          clear ht hv hb
          by_cases hj4 : j < 4
          · go_wp2_with fail
            refine (HR.out _ _).mono ?_; rintro e w12 ⟨rfl, hb12⟩
            have T12 := Lib.hid (T11.out.ext hb12)
            have V12 := Lib.hid (V11.out.ext hb12)
            have B12 := Lib.hid (B11.out.trans (hb12.mono B11.out.size))
            clear hb12
            go_wp2_with fail
            refine (supported_any (rootL j) (rootL_length _) A2 m c2 w12 T12.out V12.out.row (by omega)).mono ?_; rintro e w13 ⟨rfl, hb13⟩
            have T13 := Lib.hid (T12.out.ext hb13)
            have V13 := Lib.hid (V12.out.ext hb13)
            have B13 := Lib.hid (B12.out.trans (hb13.mono B12.out.size))
            clear hb13
            go_wp2_with fail
            go_roundw
            case rel => exact ⟨j + 1, by omega, by go_num, T13.out, V13.out, B13.out⟩
            case measure => simp [intOf]; omega
          · go_wp2_with fail
            go_roundw
            case rel => exact ⟨k + 1, vs, A2, c2, by omega, by omega, by go_num, rfl, T11.out, V11.out, B11.out⟩
            case measure => simp [intOf]; omega
    · by_cases hkn2 : k < n
      · have hk2 : ¬ (k : Int) < 12 := by omega
        go_wp2_with fail
        refine (HK.out _).mono ?_; rintro e w4 ⟨rfl, hb4⟩
        have B4 := Lib.hid (B3.out.trans (hb4.mono B3.out.size))
        clear hb4
        go_wp2_with fail
        go_ret
        exact ⟨rfl, B4.out⟩
      · go_wp2_with fail
        refine (HK.out _).mono ?_; rintro e w4 ⟨rfl, hb4⟩
        have B4 := Lib.hid (B3.out.trans (hb4.mono B3.out.size))
        clear hb4
        go_wp2_with fail
        go_ret
        exact ⟨rfl, B4.out⟩
end Go.Proofs.Ytfkimlmfgipfjaa
