/- Lists of validators: what both checks answer. -/
import Derived.Test.YtfkimlmfgipfjaaVotes
namespace Go.Proofs.Ytfkimlmfgipfjaa
open Go.RowKit

def hits : Option Int → Int → Bool
  | some q, v => decide (v ≤ q)
  | none, _ => false
/-- the answer for the rest of a list behind a number -/
def vErrGo (m : Int) : Option Int → List Int → Int
  | _, [] => 0
  | p, v :: r => if v < 0 ∨ m ≤ v then 3 else if hits p v = true then 8 else vErrGo m (some v) r
def vErr (l : List Int) (m : Int) : Int := if l = [] then 2 else vErrGo m none l
def pv (l : List Int) : Nat → Option Int
  | 0 => none
  | j + 1 => some (l.getD j 0)

theorem vErrGo_cons (m : Int) (p : Option Int) (v : Int) (r : List Int) : vErrGo m p (v :: r) = if v < 0 ∨ m ≤ v then 3 else if hits p v = true then 8 else vErrGo m (some v) r := by cases p <;> rfl
theorem getD_at {l : List Int} {k : Nat} (h : k < l.length) : l.getD k 0 = l[k] := by simp [List.getD_eq_getElem?_getD, List.getElem?_eq_getElem h]
theorem pv_pos {l : List Int} {k : Nat} (hk : 0 < k) (h : k - 1 < l.length) : pv l k = some l[k - 1] := by
  obtain ⟨j, rfl⟩ : ∃ j, k = j + 1 := ⟨k - 1, by omega⟩
  have h' : j < l.length := by omega
  rw [pv, getD_at h']
  simp
theorem add_zero_addr (a : Addr) : a.add 0 = a := by unfold Addr.add; split <;> simp_all
theorem vErrGo_full (m : Int) (p : Option Int) : vErrGo m p [] = 0 := rfl
theorem drop_at {l : List Int} {k : Nat} (h : k < l.length) : l.drop k = l[k] :: l.drop (k + 1) := (List.getElem_cons_drop h).symm

set_option maxHeartbeats 800000 in
theorem validate_any (B : Nat) (A : Option Addr) (n c : Nat) (l : List Int) (m : Int) (w : World) (hr : Row w B 1 A n (ints .i64 l)) (hn : n ≤ 9223372036854775807) :
    Calls Try.prog 39 #[.slice A n c, .int .i64 m] w fun e w' => e = .returned (.int .i64 (vErr l m)) ∧ w = w' := by
  have hlen : l.length = n := by have := hr.1; simpa [ints] using this
  by_cases h0 : n = 0
  · subst h0
    obtain rfl : l = [] := List.eq_nil_of_length_eq_zero hlen
    go_enter Try.func39, Try.ntmps39
    go_wp2
    go_ret
    exact ⟨rfl, rfl⟩
  · have hne : ¬ (n : Int) = 0 := by omega
    have hv : Hid (vErr l m = vErrGo m none l) := by show _ = _; unfold vErr; rw [if_neg (fun h => h0 (by rw [← hlen, h]; rfl))]
    go_enter Try.func39, Try.ntmps39
    go_wp2
    go_loop [5, 6, 12] (fun p q i => ∃ k : Nat, k ≤ n ∧ i = .int .i64 k ∧ vErrGo m none l = vErrGo m (pv l k) (l.drop k)) (fun _ _ i => n - (intOf i).toNat)
    case atStart => exact ⟨0, Nat.zero_le _, rfl, rfl⟩
    case round =>
      obtain ⟨k, hk, rfl, hrel⟩ := hrel
      have HREL := Lib.hid hrel
      clear hrel
      by_cases hkn : k < n
      · have hkl : k < l.length := by omega
        have hu : (ints .i64 l)[k]? = some (.int .i64 l[k]) := by unfold ints; rw [List.getElem?_map, List.getElem?_eq_getElem hkl]; rfl
        obtain ⟨ad, rfl, hb, hc⟩ := hr.at_ hu
        have HLEN := Lib.hid hlen
        have hd := Lib.hid (drop_at hkl)
        clear hlen hu
        by_cases hv0 : l[k] < 0
        · have hres : vErrGo m none l = 3 := by rw [HREL.out, hd.out, vErrGo_cons, if_pos (Or.inl hv0)]
          have HRES := Lib.hid hres
          clear hres
          generalize l[k] = x at *
          go_wp2
          go_ret
          exact ⟨by rw [hv.out, HRES.out]; rfl, rfl⟩
        · by_cases hv1 : l[k] ≥ m
          · have hres : vErrGo m none l = 3 := by rw [HREL.out, hd.out, vErrGo_cons, if_pos (Or.inr hv1)]
            have HRES := Lib.hid hres
            clear hres
            generalize l[k] = x at *
            go_wp2
            go_ret
            exact ⟨by rw [hv.out, HRES.out]; rfl, rfl⟩
          · have hno : ¬ (l[k] < 0 ∨ m ≤ l[k]) := by omega
            by_cases hk0 : k = 0
            · subst hk0
              have hres : vErrGo m none l = vErrGo m (pv l 1) (l.drop 1) := by
                rw [HREL.out, hd.out, vErrGo_cons, if_neg hno, pv, pv, if_neg (by simp [hits]), getD_at hkl]
              have HRES := Lib.hid hres
              clear hres hno
              have hc0 : w.cell? ad = some (.int .i64 l[0]) := by rw [add_zero_addr] at hc; exact hc
              generalize l[0] = x at *
              go_wp2
              go_round
              case rel => exact ⟨1, by omega, by go_num, HRES.out⟩
              case measure => simp [intOf]; omega
            · have hpos : (0 : Int) < (k : Int) := by omega
              have hj : k - 1 < l.length := by omega
              have hu2 : (ints .i64 l)[k - 1]? = some (.int .i64 l[k - 1]) := by unfold ints; rw [List.getElem?_map, List.getElem?_eq_getElem hj]; rfl
              obtain ⟨ad2, had, hb2, hc2⟩ := hr.at_ hu2
              obtain rfl : ad2 = ad := by injection had with h; exact h.symm
              have hpp := pv_pos (l := l) (k := k) (by omega) hj
              have hp1 : pv l (k + 1) = some l[k] := by rw [pv, getD_at hkl]
              clear hu2 had
              by_cases hle : l[k] ≤ l[k - 1]
              · have hres : vErrGo m none l = 8 := by
                  rw [HREL.out, hd.out, vErrGo_cons, if_neg hno, hpp, if_pos (by simpa [hits] using hle)]
                have HRES := Lib.hid hres
                clear hres hno hpp hp1
                generalize l[k] = x at *
                generalize l[k - 1] = y at *
                go_wp2
                go_ret
                exact ⟨by rw [hv.out, HRES.out]; rfl, rfl⟩
              · have hres : vErrGo m none l = vErrGo m (pv l (k + 1)) (l.drop (k + 1)) := by
                  rw [HREL.out, hd.out, vErrGo_cons, if_neg hno, hpp, hp1, if_neg (by simpa [hits] using hle)]
                have HRES := Lib.hid hres
                clear hres hno hpp hp1
                generalize l[k] = x at *
                generalize l[k - 1] = y at *
                go_wp2
                go_round
                case rel => exact ⟨_, _, _, _, ⟨k + 1, by omega, rfl, HRES.out⟩, rfl, rfl, rfl, by go_num⟩
                case measure => simp [intOf]; omega
      · have hkk : k = n := by omega
        subst hkk
        have hres : vErrGo m none l = 0 := by rw [HREL.out, List.drop_of_length_le (by omega), vErrGo_full]
        have HRES := Lib.hid hres
        clear hres hlen
        go_wp2
        go_ret
        exact ⟨by rw [hv.out, HRES.out]; rfl, rfl⟩
end Go.Proofs.Ytfkimlmfgipfjaa
