/- Lists of validators: the check of the reference. -/
import Derived.Test.YtfkimlmfgipfjaaLists
import Derived.Test.YtfkimlmfgipfjaaSameInts
namespace Go.Proofs.Ytfkimlmfgipfjaa
open Go.RowKit

set_option maxRecDepth 20000 in
set_option maxHeartbeats 800000 in
theorem refValidate_any (A : Option Addr) (n c : Nat) (l : List Int) (m : Int) (w : World) (hr : Row w w.heap.size 1 A n (ints .i64 l)) (hn : n ≤ 9223372036854775807) :
    Calls Try.prog 19 #[.slice A n c, .int .i64 m] w fun e w' => e = .returned (.int .i64 (vErr l m)) ∧ Below w.heap.size w w' := by
  have hlen : l.length = n := row_len hr
  by_cases h0 : n = 0
  · subst h0
    obtain rfl : l = [] := List.eq_nil_of_length_eq_zero hlen
    go_enter Try.func19, Try.ntmps19
    go_wp2
    go_ret
    exact ⟨rfl, Below.refl _ _⟩
  · have hne : ¬ (n : Int) = 0 := by omega
    have hneb : ((n : Int) == 0) = false := by simpa using h0
    have hv : Hid (vErr l m = vErrGo m none l) := by show _ = _; unfold vErr; rw [if_neg (fun h => h0 (by rw [← hlen, h]; rfl))]
    have HR := Lib.hid hr
    clear hr
    go_enter Try.func19, Try.ntmps19
    go_wp2
    go_loopw [4, 5] (fun _ i wr => ∃ k : Nat, k ≤ n ∧ i = .int .i64 k ∧ vErrGo m none l = vErrGo m (pv l k) (l.drop k) ∧ Below w.heap.size w wr) (fun _ i _ => n - (intOf i).toNat)
    case atStart => exact ⟨0, Nat.zero_le _, rfl, rfl, Below.refl _ _⟩
    case round =>
      obtain ⟨k, hk, rfl, hrel, hbel⟩ := hrel
      have HREL := Lib.hid hrel
      have HBEL := Lib.hid hbel
      clear hrel hbel
      by_cases hkn : k < n
      · have hkl : k < l.length := by omega
        have hu : (ints .i64 l)[k]? = some (.int .i64 l[k]) := by unfold ints; rw [List.getElem?_map, List.getElem?_eq_getElem hkl]; rfl
        obtain ⟨ad, rfl, hb, hc⟩ := (HR.out.below HBEL.out).at_ hu
        have HLEN := Lib.hid hlen
        have hd := Lib.hid (drop_at hkl)
        have hki : (k : Int) < (n : Int) := by omega
        have hkz : 0 ≤ (k : Int) := by omega
        clear hlen hu
        by_cases hv0 : l[k] < 0
        · have HRES : Hid (vErrGo m none l = 3) := by show _ = _; rw [HREL.out, hd.out, vErrGo_cons, if_pos (Or.inl hv0)]
          generalize l[k] = x at *
          go_wp2
          go_ret
          exact ⟨by rw [hv.out, HRES.out]; rfl, HBEL.out⟩
        · by_cases hv1 : l[k] ≥ m
          · have HRES : Hid (vErrGo m none l = 3) := by show _ = _; rw [HREL.out, hd.out, vErrGo_cons, if_pos (Or.inr hv1)]
            generalize l[k] = x at *
            go_wp2
            go_ret
            exact ⟨by rw [hv.out, HRES.out]; rfl, HBEL.out⟩
          · have hno : ¬ (l[k] < 0 ∨ m ≤ l[k]) := by omega
            by_cases hk0 : k = 0
            · subst hk0
              have HRES : Hid (vErrGo m none l = vErrGo m (pv l 1) (l.drop 1)) := by
                show _ = _
                rw [HREL.out, hd.out, vErrGo_cons, if_neg hno, pv, pv, if_neg (by simp [hits]), getD_at hkl]
              have hc0 : wr.cell? ad = some (.int .i64 l[0]) := by rw [add_zero_addr] at hc; exact hc
              clear hno
              generalize l[0] = x at *
              have hgd : decide ((0 : Int) > 0) = false := rfl
              go_wp2
              go_quiet (fail)
              go_wp2
              go_roundw
              case rel => exact ⟨1, by omega, by go_num, HRES.out, below_dN HBEL.out _⟩
              case measure => simp [intOf]; omega
            · have hpos : (k : Int) > 0 := by omega
              have hkp : 0 < k := by omega
              have hj : k - 1 < l.length := by omega
              have hu2 : (ints .i64 l)[k - 1]? = some (.int .i64 l[k - 1]) := by unfold ints; rw [List.getElem?_map, List.getElem?_eq_getElem hj]; rfl
              obtain ⟨ad2, had, hb2, hc2⟩ := (HR.out.below HBEL.out).at_ hu2
              obtain rfl : ad2 = ad := by injection had with h; exact h.symm
              have hpp := pv_pos (l := l) (k := k) (by omega) hj
              have hp1 : pv l (k + 1) = some l[k] := by rw [pv, getD_at hkl]
              have hw1 : IntKind.i64.wrap ((k : Int) - 1) = ((k - 1 : Nat) : Int) := by rw [IntWalk.i64_in _ (by omega)]; omega
              have hkj : ((k - 1 : Nat) : Int) < (n : Int) := by omega
              have hkj0 : 0 ≤ ((k - 1 : Nat) : Int) := by omega
              clear hu2 had
              by_cases hle : l[k] ≤ l[k - 1]
              · have HRES : Hid (vErrGo m none l = 8) := by
                  show _ = _
                  rw [HREL.out, hd.out, vErrGo_cons, if_neg hno, hpp, if_pos (by simpa [hits] using hle)]
                clear hno hpp hp1
                generalize l[k] = x at *
                generalize l[k - 1] = y at *
                go_wp2
                go_quiet (fail)
                go_wp2
                go_ret
                exact ⟨by rw [hv.out, HRES.out]; rfl, below_dN HBEL.out _⟩
              · have HRES : Hid (vErrGo m none l = vErrGo m (pv l (k + 1)) (l.drop (k + 1))) := by
                  show _ = _
                  rw [HREL.out, hd.out, vErrGo_cons, if_neg hno, hpp, hp1, if_neg (by simpa [hits] using hle)]
                clear hno hpp hp1
                generalize l[k] = x at *
                generalize l[k - 1] = y at *
                go_wp2
                go_quiet (fail)
                go_wp2
                go_roundw
                case rel => exact ⟨k + 1, by omega, by go_num, HRES.out, below_dN HBEL.out _⟩
                case measure => simp [intOf]; omega
      · have hkk : k = n := by omega
        subst hkk
        have HRES : Hid (vErrGo m none l = 0) := by show _ = _; rw [HREL.out, List.drop_of_length_le (by omega), vErrGo_full]
        clear hlen
        go_wp2
        go_ret
        exact ⟨by rw [hv.out, HRES.out]; rfl, HBEL.out⟩
end Go.Proofs.Ytfkimlmfgipfjaa
