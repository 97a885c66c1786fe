/- Registry: a set of validators in memory. -/
import Derived.Test.YtekikfdlnkcenaaQVotes
import Derived.Test.YtekikfdlnkcenaaBkN
import Derived.Test.YtekikfdlnkcenaaBkT
import Derived.Test.YtekikfdlnkcenaaQRs
import Derived.Test.YtekikfdlnkcenaaMix7
import Derived.Test.YtekikfdlnkcenaaMmE
import Derived.Test.YtekikfdlnkcenaaTyB
import Derived.Test.YtekikfdlnkcenaaAw7
import Derived.Test.YtekikfdlnkcenaaTbS
import Derived.Test.YtekikfdlnkcenaaMmM
import Derived.Test.YtekikfdlnkcenaaOpenC
namespace Go.Proofs.Ytekikfdlnkcenaa
open Go.RowKit Vv
theorem built_tbN (c : Cp) (A : Option Addr) (n cap : Nat) : Try.prog.built 38 [(0, .agg (fl (cpP c)).toArray), (1, .slice A n cap)] = some (fl (tbP c (.slice A n cap))).toArray := built_tb (c := oldC c) c.r.len A n cap
def u5 : U := ⟨5, by decide⟩
/-- is a validator in the set -/
def gc (b : Bool) : List Value := [.bool b]
def gsv (gs : List Bool) : List Value := gs.flatMap gc
/-- a set in memory: its variable is block s, its row block q -/
def SetB (w : World) (s q : Nat) (gs : List Bool) : Prop := Has w s [.slice (some ⟨q, 0, none⟩) gs.length gs.length] ∧ Has w q (gsv gs) ∧ s ≠ q
theorem SetB.below {B : Nat} {w w' : World} {s q : Nat} {gs : List Bool} (t : SetB w s q gs) (hb : Below B w w') (hg : s < B) (hh : q < B) : SetB w' s q gs := ⟨t.1.below hb hg, t.2.1.below hb hh, t.2.2⟩
theorem info_bool : (Try.prog.info? 4).map (fun i => (i.zero, i.size, i.bytes)) = some (some (.bool false), 1, 1) := by kernel_rfl
theorem newSet_any (n : Nat) (hn : n ≤ 1024) (w : World) :
    Calls Try.prog 94 #[.int .i64 n] w fun e w' => e = .returned (.tuple #[.pointer (some ⟨w.heap.size + 1, 0, none⟩), .int .i64 0]) ∧ SetB w' (w.heap.size + 1) w.heap.size (List.replicate n false) ∧ Below w.heap.size w w' := by
  have h1 : ¬ (n : Int) < 0 := by omega
  have h2 : ¬ (n : Int) > 1024 := by omega
  obtain ⟨i0, hi0, hz0, hz1, hz2⟩ := info_parts info_bool
  have hmk := run_make (P := Try.prog) w 75 4 i0 _ Try.underlying75 hi0 hz0 .i64 .i64 n n (by omega) (Int.le_refl _) (by rw [hz2]; omega) (by omega)
  rw [hz1, Int.toNat_natCast, made_flat gc false (Value.bool false).cells (by simp [Value.cells, gc]) (k := 1) (by rfl) (by omega) n] at hmk
  have HL : (List.replicate n false).length = n := List.length_replicate
  generalize (List.replicate n false) = vs at *
  have HL' := Lib.hid HL
  have hi0' := Lib.hid hi0
  clear hz0 hz1 hz2 hi0 HL
  go_enter Try.func94, Try.ntmps94
  go_wp2
  go_ret2
  refine ⟨rfl, ⟨?_, (Has.new w (vs.flatMap gc) 4).alloc _, by omega⟩, ((Below.refl _ _).alloc (Nat.le_refl _) _).alloc (by simp) _⟩
  have := Has.new (w.alloc (.cells (vs.flatMap gc).toArray 4)) [.slice (some ⟨w.heap.size, 0, none⟩) n n] 174
  rw [HL'.out]
  simpa using this
theorem gsv_at {gs : List Bool} {j : Nat} (h : j < gs.length) : (gsv gs)[j]? = some (.bool gs[j]) := by
  unfold gsv gc
  rw [show (gs.flatMap fun b => [Value.bool b]) = gs.map Value.bool by rw [List.map_eq_flatMap], List.getElem?_map, List.getElem?_eq_getElem h]; rfl
theorem SetB.at {w : World} {s q : Nat} {gs : List Bool} (t : SetB w s q gs) {j : Nat} (h : j < gs.length) : w.cell? ⟨q, j, none⟩ = some (.bool gs[j]) := by rw [t.2.1.cell, gsv_at h]
def gAt (gs : List Bool) (i : Int) : Bool := if 0 ≤ i then gs.getD i.toNat false else false
theorem guilty_any {s q : Nat} {gs : List Bool} (i : Int) (w : World) (ht : SetB w s q gs) :
    Calls Try.prog 91 #[.pointer (some ⟨s, 0, none⟩), .int .i64 i] w fun e w' => e = .returned (.bool (gAt gs i)) ∧ Below w.heap.size w w' := by
  have hc : w.cell? ⟨s, 0, none⟩ = some (.slice (some ⟨q, 0, none⟩) gs.length gs.length) := by rw [ht.1.cell]; rfl
  by_cases h1 : i < 0
  · have hv : gAt gs i = false := by unfold gAt; rw [if_neg (by omega)]
    have h1' : ¬ i ≥ 0 := by omega
    rw [hv]
    clear hv ht
    go_enter Try.func91, Try.ntmps91
    go_wp2
    go_ret
    exact ⟨rfl, Below.refl _ _⟩
  · obtain ⟨k, rfl⟩ : ∃ k : Nat, i = (k : Int) := ⟨i.toNat, by omega⟩
    have h0 : (k : Int) ≥ 0 := by omega
    by_cases h2 : k < gs.length
    · have hv : gAt gs (k : Int) = gs[k] := by unfold gAt; rw [if_pos (by omega), Int.toNat_natCast, List.getD_eq_getElem?_getD, List.getElem?_eq_getElem h2]; rfl
      have hk := ht.at h2
      have h2' : (k : Int) < (gs.length : Int) := by omega
      rw [hv]
      clear hv ht
      go_enter Try.func91, Try.ntmps91
      go_wp2
      go_ret
      exact ⟨rfl, Below.refl _ _⟩
    · have hv : gAt gs (k : Int) = false := by unfold gAt; rw [if_pos (by omega), Int.toNat_natCast, List.getD_eq_getElem?_getD, List.getElem?_eq_none (by omega)]; rfl
      have h2' : ¬ (k : Int) < (gs.length : Int) := by omega
      rw [hv]
      clear hv ht
      go_enter Try.func91, Try.ntmps91
      go_wp2
      go_ret
      exact ⟨rfl, Below.refl _ _⟩
theorem otBl : OneT Try.prog 4 := ⟨⟨_, Try.underlying4, rfl⟩, by kernel_rfl⟩
/-- the members among the first k -/
def memI (gs : List Bool) (k : Nat) : List Int := ((List.range k).filter fun i => gs.getD i false).map Int.ofNat
theorem memI_yes {gs : List Bool} {k : Nat} (h : gs.getD k false = true) : memI gs (k + 1) = memI gs k ++ [(k : Int)] := by
  simp only [memI, List.range_succ, List.filter_append, List.map_append]
  rw [List.filter_cons, if_pos h]; simp
theorem memI_no {gs : List Bool} {k : Nat} (h : gs.getD k false = false) : memI gs (k + 1) = memI gs k := by
  simp only [memI, List.range_succ, List.filter_append, List.map_append]
  rw [List.filter_cons, if_neg (by rw [h]; simp)]; simp
theorem memI_len (gs : List Bool) (k : Nat) : (memI gs k).length ≤ k := by
  simp only [memI, List.length_map]
  exact Nat.le_trans (List.length_filter_le _ _) (by simp)
/-- a list of numbers that stays -/
def MemP (Γ : Gam) (w : World) (l : List Int) (e : Ending) (w' : World) : Prop := ∃ (A : Option Addr) (c : Nat) (Γ' : Gam), e = .returned (.slice A l.length c) ∧ CapOk A l.length c ∧ SlG Γ' A l.length (ints .i64 l) ∧ Ext Γ w Γ' w'
theorem ints_snoc (l : List Int) (x : Int) : ints .i64 (l ++ [x]) = ints .i64 l ++ [.int .i64 x] := by simp [ints]
set_option maxRecDepth 20000 in
set_option maxHeartbeats 1000000 in
theorem members_any (Γ : Gam) {s q : Nat} {gs : List Bool} (w : World) (ok : Ok Γ w) (ht : SetB w s q gs) (hn : gs.length ≤ 1024) :
    Calls Try.prog 96 #[.pointer (some ⟨s, 0, none⟩)] w (MemP Γ w (memI gs gs.length)) := by
  have M := bx (MM.start ok)
  have HT := bx ht
  have HN := bx hn
  have hc : w.cell? ⟨s, 0, none⟩ = some (.slice (some ⟨q, 0, none⟩) gs.length gs.length) := by rw [ht.1.cell]; rfl
  clear ht ok hn
  go_enter Try.func96, Try.ntmps96
  go_wp2_with fail
  go_loopw [3, 11] (fun sv i wr => ∃ (k : Nat) (A3 : Option Addr) (c3 : Nat), k ≤ gs.length ∧ i = .int .i64 k ∧ sv = .slice A3 (memI gs k).length c3 ∧ MM Γ w Γ wr [] [⟨.slice A3 (memI gs k).length c3, 3, 1, (memI gs k).length, ints .i64 (memI gs k)⟩]) (fun _ i _ => gs.length - (intOf i).toNat)
  case atStart => exact ⟨0, none, 0, Nat.zero_le _, rfl, rfl, M.out.row0 _ _⟩
  case round =>
    obtain ⟨k, A3, c3, hk, rfl, rfl, hM⟩ := hrel
    clear M hc
    have M := bx hM
    clear hM
    by_cases hkn : k < gs.length
    · have hki : (k : Int) < (gs.length : Int) := by omega
      have hk0 : (0 : Int) ≤ (k : Int) := by omega
      have T2 := bx (HT.out.below M.out.ext.bel HT.out.1.lt HT.out.2.1.lt)
      have hb := T2.out.at hkn
      have HL := bx (memI_len gs k)
      have hk5 : k + 1 ≤ 65535 := by have := HN.out; omega
      have HGD : gs.getD k false = gs[k] := by rw [List.getD_eq_getElem?_getD, List.getElem?_eq_getElem hkn]; rfl
      have hl5 : (memI gs k).length + 1 ≤ 65535 := by have := HL.out; have := HN.out; omega
      cases hg : gs[k] with
      | false =>
        have HM := bx (memI_no (HGD.trans hg))
        rw [hg] at hb
        clear hg HGD
        go_wp2_with fail
        go_roundw
        case rel => exact ⟨k + 1, A3, c3, by omega, by go_num, by rw [HM.out], by rw [HM.out]; exact M.out⟩
        case measure => simp [intOf]; omega
      | true =>
        have HM := bx (memI_yes (HGD.trans hg))
        rw [hg] at hb
        clear hg HGD
        go_wp2_with (first | ((with_reducible apply wpList_bs1 M.out elInt); rfl; rfl; rfl; rfl; intro w' g M' hb'; (clear M; have M := bx M'; clear M'); clear hb') | (at_builtin; (with_reducible apply wpList_pushE M.out elInt); rfl; exact One.v rfl; (unfold maxLen; omega); omega; rfl; rfl; rfl; rfl; intro A' c' w' M'; (clear M; have M := bx M'; clear M')))
        go_roundw
        case rel => exact ⟨k + 1, A', c', by omega, by go_num, by rw [HM.out, List.length_append]; rfl, by rw [HM.out, ints_snoc, List.length_append]; exact M.out⟩
        case measure => simp [intOf]; omega
    · obtain rfl : k = gs.length := by omega
      go_wp2_with fail
      obtain ⟨Γ', h1, h2, h3, h4⟩ := M.out.frz
      go_ret
      exact ⟨A3, c3, Γ', rfl, h1, h2, h4.ext⟩
theorem _root_.Go.Proofs.Ytekikfdlnkcenaa.SetB.grown {w w' : World} {s q : Nat} {gs : List Bool} {row : Option Nat} (t : SetB w s q gs) (hb : w.grownBy w' row) (hg : some s ≠ row) (hh : some q ≠ row) : SetB w' s q gs := ⟨t.1.grown hb hg, t.2.1.grown hb hh, t.2.2⟩
theorem gsv_set (gs : List Bool) (j : Nat) (b : Bool) : (gsv gs).set j (.bool b) = gsv (gs.set j b) := by
  unfold gsv gc
  rw [← List.map_eq_flatMap, ← List.map_eq_flatMap, List.map_set]
theorem gsv_len (gs : List Bool) : (gsv gs).length = gs.length := by unfold gsv gc; rw [← List.map_eq_flatMap, List.length_map]
theorem SetB.setE {w w' : World} {s q : Nat} {gs : List Bool} {j : Nat} {b : Bool} (t : SetB w s q gs) (hh : Has w' q (gsv (gs.set j b))) (hg : w.grownBy w' (some q)) : SetB w' s q (gs.set j b) :=
  ⟨by rw [List.length_set]; exact t.1.grown hg (fun e => t.2.2 (by injection e)), hh, t.2.2⟩
/-- the set after punishments, and how many were added -/
def punGo : List Bool → List Int → Nat → List Bool × Nat
  | gs, [], c => (gs, c)
  | gs, v :: l, c => if gs.getD v.toNat false = true then punGo gs l c else punGo (gs.set v.toNat true) l (c + 1)
theorem punGo_len : ∀ (l : List Int) (gs : List Bool) (c : Nat), (punGo gs l c).1.length = gs.length
  | [], gs, c => rfl
  | v :: l, gs, c => by unfold punGo; split <;> rw [punGo_len l]; simp
def punV (gs : List Bool) (l : List Int) : List Bool := if vErr l gs.length = 0 then (punGo gs l 0).1 else gs
def punN (gs : List Bool) (l : List Int) : Nat := if vErr l gs.length = 0 then (punGo gs l 0).2 else 0
def PunP (gs : List Bool) (l : List Int) (s q : Nat) (w : World) (e : Ending) (w' : World) : Prop :=
  e = .returned (.tuple #[.int .i64 (punN gs l), .int .i64 (vErr l gs.length)]) ∧ SetB w' s q (punV gs l) ∧ w.grownBy w' (some q)
set_option maxRecDepth 20000 in
set_option maxHeartbeats 1000000 in
theorem punish_any {s q : Nat} {gs : List Bool} (A : Option Addr) (n c : Nat) (l : List Int) (w : World) (ht : SetB w s q gs) (hr : Row w w.heap.size 1 A n (ints .i64 l))
    (hne : ∀ ad, A = some ad → ad.block ≠ q) (hn : n ≤ 9223372036854775807) :
    Calls Try.prog 59 #[.pointer (some ⟨s, 0, none⟩), .slice A n c] w (PunP gs l s q w) := by
  have hlen : l.length = n := by have := hr.1; simpa [ints] using this
  have hgh := ht.2.2
  have hc : w.cell? ⟨s, 0, none⟩ = some (.slice (some ⟨q, 0, none⟩) gs.length gs.length) := by rw [ht.1.cell]; rfl
  have HV := Lib.hid (Vv.validate_any w.heap.size A n c l gs.length w hr hn)
  have HT := Lib.hid ht
  have HLEN := Lib.hid hlen
  have hr1 : Hid (∀ wr, w.grownBy wr (some q) → Row wr w.heap.size 1 A n (ints .i64 l)) := fun wr hw => hr.apart hw (Nat.le_refl _) hne
  clear ht hr hne hlen
  by_cases hv : vErr l gs.length = 0
  · have hmem := Lib.hid (vErr_mem hv)
    have hvv := Lib.hid hv
    rw [hv] at HV
    clear hv
    go_enter Try.func59, Try.ntmps59
    go_wp2_with (go_at_call 89; refine HV.out.mono ?_; rintro e w' ⟨rfl, rfl⟩)
    go_loopw [4, 21] (fun qv i wr => ∃ (k : Nat) (cur : List Bool) (cnt : Nat), k ≤ n ∧ i = .int .i64 k ∧ qv = .int .i64 cnt ∧ cnt ≤ k ∧ punGo gs l 0 = punGo cur (l.drop k) cnt ∧ SetB wr s q cur ∧ cur.length = gs.length ∧ w.grownBy wr (some q)) (fun _ i _ => n - (intOf i).toNat)
    case atStart => exact ⟨0, gs, 0, Nat.zero_le _, rfl, rfl, Nat.le_refl _, rfl, HT.out, rfl, ⟨rfl, rfl, rfl, Nat.le_refl _, fun _ _ _ => rfl⟩⟩
    case round =>
      obtain ⟨k, cur, cnt, hk, rfl, rfl, hck, hgo, htab, hcl, hgr⟩ := hrel
      have HGO := Lib.hid hgo
      have HTAB := Lib.hid htab
      have HGR := Lib.hid hgr
      have hc1 : wr.cell? ⟨s, 0, none⟩ = some (.slice (some ⟨q, 0, none⟩) gs.length gs.length) := by rw [htab.1.cell, hcl]; rfl
      have hrow := hr1.out wr hgr
      clear hgo htab hgr
      by_cases hkn : k < n
      · have hkl : k < l.length := by rw [HLEN.out]; exact hkn
        have hu : (ints .i64 l)[k]? = some (.int .i64 l[k]) := by unfold ints; rw [List.getElem?_map, List.getElem?_eq_getElem hkl]; rfl
        obtain ⟨ad, rfl, hb, hca⟩ := hrow.at_ hu
        obtain ⟨hm0, hm1⟩ := hmem.out l[k] (List.getElem_mem hkl)
        have hd := Lib.hid (drop_at hkl)
        clear hrow hu
        generalize l[k] = x at *
        obtain ⟨j, rfl⟩ : ∃ j : Nat, x = (j : Int) := ⟨x.toNat, by omega⟩
        have hjl : j < cur.length := by omega
        have hgd : Hid (cur.getD (j : Int).toNat false = cur[j]) := by show _ = _; rw [Int.toNat_natCast, List.getD_eq_getElem?_getD, List.getElem?_eq_getElem hjl]; rfl
        have hcj := HTAB.out.at hjl
        have hki : (k : Int) < (n : Int) := by omega
        have hji : (j : Int) < (gs.length : Int) := by omega
        cases ho : cur[j] with
        | true =>
          rw [ho] at hcj
          have HGD := Lib.hid (hgd.out.trans ho)
          clear ho
          go_wp2
          go_roundw
          case rel =>
            refine ⟨k + 1, cur, cnt, by omega, by go_num, rfl, by omega, ?_, HTAB.out, hcl, HGR.out⟩
            rw [HGO.out, hd.out, punGo, if_pos HGD.out]
          case measure => simp [intOf]; omega
        | false =>
          rw [ho] at hcj
          have HGD := Lib.hid (hgd.out.trans ho)
          clear ho
          have HST := Lib.hid HTAB.out.2.1
          have HJL : Hid (j < (gsv cur).length) := by show _ < _; rw [gsv_len]; exact hjl
          go_wp2_with (first | ((with_reducible apply wpList_stc otBl HST.out HJL.out (.bool true)); rfl; rfl; rfl; rfl; rfl; rfl; intro w2 hw2 hg2; have HS2 := Lib.hid hw2; have HG2 := Lib.hid hg2; clear hw2 hg2))
          go_roundw
          case rel =>
            refine ⟨k + 1, cur.set j true, cnt + 1, by omega, by go_num, by go_num, by omega, ?_, HTAB.out.setE (by rw [← gsv_set]; exact HS2.out) HG2.out, by rw [List.length_set]; exact hcl, HGR.out.trans HG2.out⟩
            rw [HGO.out, hd.out, punGo, if_neg (by rw [HGD.out]; decide), Int.toNat_natCast]
          case measure => simp [intOf]; omega
      · obtain rfl : n = k := by omega
        go_wp2
        go_ret2
        have e1 : punGo gs l 0 = (cur, cnt) := by rw [HGO.out, List.drop_eq_nil_of_le (by rw [HLEN.out]; exact Nat.le_refl _)]; rfl
        refine ⟨?_, ?_, HGR.out⟩
        · unfold punN; rw [if_pos hvv.out, e1, hvv.out]; rfl
        · unfold punV; rw [if_pos hvv.out, e1]; exact HTAB.out
  · have hvv := Lib.hid hv
    have hvn : ¬ vErr l gs.length = 0 := hv
    have E1 : Hid (punN gs l = 0) := if_neg hv
    have E2 : Hid (punV gs l = gs) := if_neg hv
    go_enter Try.func59, Try.ntmps59
    go_wp2_with (go_at_call 89; refine HV.out.mono ?_; rintro e w' ⟨rfl, rfl⟩)
    go_ret2
    exact ⟨by rw [E1.out]; rfl, by rw [E2.out]; exact HT.out, World.grownBy.refl w _⟩
def pt (g : Nat) : Value := .pointer (some ⟨g, 0, none⟩)
/-- a registry in memory -/
structure RegW (w : World) (r g h s q B Mb : Nat) (vs : List Vt) (gs : List Bool) (lim : Int) (T : List Tbl) : Prop where
  hr : Has w r [.pointer (some ⟨g, 0, none⟩), .pointer (some ⟨s, 0, none⟩), .pointer (some ⟨B, 0, none⟩)]
  hv : Tab w g h vs
  hs : SetB w s q gs
  hk : Bk (fun b => b ≠ h ∧ b ≠ q) w B Mb (vs.length : Int) lim (T.map oldT)
  eq : gs.length = vs.length
  nd : r ≠ h ∧ r ≠ q ∧ g ≠ h ∧ g ≠ q ∧ s ≠ h ∧ s ≠ q ∧ q ≠ h ∧ B ≠ h ∧ B ≠ q
theorem RegW.below {w w' : World} {r g h s q B Mb : Nat} {vs : List Vt} {gs : List Bool} {lim : Int} {T : List Tbl} (x : RegW w r g h s q B Mb vs gs lim T) (hb : Below w.heap.size w w') : RegW w' r g h s q B Mb vs gs lim T :=
  ⟨x.hr.below hb x.hr.lt, x.hv.below hb x.hv.1.lt x.hv.2.1.lt, x.hs.below hb x.hs.1.lt x.hs.2.1.lt, x.hk.below hb, x.eq, x.nd⟩
theorem RegW.drew {w : World} {r g h s q B Mb : Nat} {vs : List Vt} {gs : List Bool} {lim : Int} {T : List Tbl} (x : RegW w r g h s q B Mb vs gs lim T) : RegW w.drew r g h s q B Mb vs gs lim T := x.below (Below.refl _ _).drew
theorem RegW.cast {w w' : World} {r g h s q B Mb : Nat} {vs vs' : List Vt} {gs : List Bool} {lim : Int} {T : List Tbl} (x : RegW w r g h s q B Mb vs gs lim T) (hg : w.grownBy w' (some h)) (ht : Tab w' g h vs') (hl : vs'.length = vs.length) : RegW w' r g h s q B Mb vs' gs lim T := by
  obtain ⟨n1, n2, n3, n4, n5, n6, n7, n8, n9⟩ := x.nd
  refine ⟨x.hr.grown hg (ne_som n1), ht, x.hs.grown hg (ne_som n5) (ne_som n7), ?_, by rw [hl]; exact x.eq, x.nd⟩
  rw [hl]
  exact x.hk.far hg n8 (fun e => x.hk.m.ne x.hv.2.1 e.symm) (fun h => h.1 rfl)
theorem RegW.punish {w w' : World} {r g h s q B Mb : Nat} {vs : List Vt} {gs gs' : List Bool} {lim : Int} {T : List Tbl} (x : RegW w r g h s q B Mb vs gs lim T) (hg : w.grownBy w' (some q)) (ht : SetB w' s q gs') (hl : gs'.length = gs.length) : RegW w' r g h s q B Mb vs gs' lim T := by
  obtain ⟨n1, n2, n3, n4, n5, n6, n7, n8, n9⟩ := x.nd
  exact ⟨x.hr.grown hg (ne_som n2), x.hv.grown hg (ne_som n4) (ne_som (fun e => n7 e.symm)), ht, x.hk.far hg n9 (fun e => x.hk.m.ne x.hs.2.1 e.symm) (fun h => h.2 rfl), by rw [hl]; exact x.eq, x.nd⟩
theorem RegW.register {w w' : World} {r g h s q B Mb : Nat} {vs : List Vt} {gs : List Bool} {lim : Int} {T T' : List Tbl} (x : RegW w r g h s q B Mb vs gs lim T) (hg : w.grownBy w' (some Mb)) (hk : Bk (fun b => b ≠ h ∧ b ≠ q) w' B Mb (vs.length : Int) lim (T'.map oldT)) : RegW w' r g h s q B Mb vs gs lim T' :=
  ⟨x.hr.grown hg (ne_som (x.hk.m.ne x.hr)), x.hv.grown hg (ne_som (x.hk.m.ne x.hv.1)) (ne_som (x.hk.m.ne x.hv.2.1)), x.hs.grown hg (ne_som (x.hk.m.ne x.hs.1)) (ne_som (x.hk.m.ne x.hs.2.1)), hk, x.eq, x.nd⟩
theorem RegW.hP {w : World} {r g h s q B Mb : Nat} {vs : List Vt} {gs : List Bool} {lim : Int} {T : List Tbl} (x : RegW w r g h s q B Mb vs gs lim T) (k : Nat) (hk : w.heap.size ≤ k) : k ≠ h ∧ k ≠ q := ⟨fun e => by have := x.hv.2.1.lt; omega, fun e => by have := x.hs.2.1.lt; omega⟩
theorem newTable_ex (n : Nat) (hn : n ≤ 1024) (w : World) :
    Calls Try.prog 93 #[.int .i64 n] w fun e w' => ∃ g h : Nat, e = .returned (.tuple #[.pointer (some ⟨g, 0, none⟩), .int .i64 0]) ∧ w.heap.size ≤ g ∧ w.heap.size ≤ h ∧ Tab w' g h (List.replicate n zv) ∧ Below w.heap.size w w' :=
  (newTable_any n hn w).mono fun e w' ⟨h1, h2, h3⟩ => ⟨_, _, h1, Nat.le_succ _, Nat.le_refl _, h2, h3⟩
theorem newSet_ex (n : Nat) (hn : n ≤ 1024) (w : World) :
    Calls Try.prog 94 #[.int .i64 n] w fun e w' => ∃ s q : Nat, e = .returned (.tuple #[.pointer (some ⟨s, 0, none⟩), .int .i64 0]) ∧ w.heap.size ≤ s ∧ w.heap.size ≤ q ∧ SetB w' s q (List.replicate n false) ∧ Below w.heap.size w w' :=
  (newSet_any n hn w).mono fun e w' ⟨h1, h2, h3⟩ => ⟨_, _, h1, Nat.le_succ _, Nat.le_refl _, h2, h3⟩
/-- what empty answers -/
def EmP (n : Nat) (tl : Int) (w : World) (e : Ending) (w' : World) : Prop :=
  (((1024 < n ∨ tl < 1 ∨ 64 < tl) ∧ e = .returned (.tuple #[.pointer none, .int .i64 3])) ∨
   (n ≤ 1024 ∧ 1 ≤ tl ∧ tl ≤ 64 ∧ ∃ r g h s q B Mb : Nat, e = .returned (.tuple #[.pointer (some ⟨r, 0, none⟩), .int .i64 0]) ∧ w.heap.size ≤ r ∧ w.heap.size ≤ Mb ∧ w.heap.size ≤ h ∧ w.heap.size ≤ q ∧ RegW w' r g h s q B Mb (List.replicate n zv) (List.replicate n false) tl [])) ∧ Below w.heap.size w w'
set_option maxRecDepth 20000 in
set_option maxHeartbeats 1000000 in
theorem empty_any (c : Cf) (A : Option Addr) (n k : Nat) (hn9 : n ≤ 65535) (w : World) :
    Calls Try.prog 61 #[.agg (fl (cfP c ⟨A, n, k⟩)).toArray] w (EmP n c.tl w) := by
  have M := bx (MM.start (ok_g0 w))
  by_cases h1 : n ≤ 1024
  · have NT := bx (newTable_ex n h1)
    have NS := bx (newSet_ex n h1)
    have NB := bx (newBook_any (n : Int) c.tl)
    go_enter Try.func61, Try.ntmps61
    go_wp2_with (first | ((with_reducible apply wpList_box M.out); rfl; rfl; rfl; exact cfP_len _ _; intro w' g M' hb'; (clear M; have M := bx M'; clear M'); clear hb') | ((with_reducible apply wpList_ldp M.out.at0); rfl; rfl; rfl; (first | exact rtRoot | exact rtCk | exact rtTb | exact rtCf | exact rtVotes); rfl; rfl) | ((with_reducible apply wpList_ld1 M.out.at0); rfl; rfl; rfl; (first | exact otInt | exact otU64 | exact otU64s | exact otPt | exact otPs | exact otPb | exact otIs | exact otVs); rfl; rfl) | ((with_reducible apply wpList_lds M.out.at0); rfl; rfl; rfl; (first | exact rtRoot | exact rtCk | exact rtTb | exact rtCf | exact rtVotes); rfl; (try simp only [Nat.reduceAdd, List.drop_zero, cut_cp, cut_tb, cut_tb_c, cut_cf])))
    obtain ⟨gx, hgx⟩ : ∃ x, x = g := ⟨_, rfl⟩
    subst hgx
    have S0 := bx M.out.ext.bel.size
    refine (NT.out _).mono ?_; rintro e w1 ⟨g, h, rfl, hg, hh, ht, hb⟩
    have HT := bx ht
    have HG := bx hg
    have HH := bx hh
    have S1 := bx hb.size
    have M' := M.out.below hb
    (clear M; have M := bx M'; clear M')
    clear ht hg hh hb
    go_wp2_with fail
    refine (NS.out _).mono ?_; rintro e w2 ⟨s, q, rfl, hs, hq, ht, hb⟩
    have HS := bx ht
    have HSG := bx hs
    have HQ := bx hq
    have T2 := bx (HT.out.below hb HT.out.1.lt HT.out.2.1.lt)
    have S2 := bx hb.size
    have M' := M.out.below hb
    (clear M; have M := bx M'; clear M')
    clear ht hs hq hb
    go_wp2_with (first | ((with_reducible apply wpList_ldp M.out.at0); rfl; rfl; rfl; (first | exact rtRoot | exact rtCk | exact rtTb | exact rtCf | exact rtVotes); rfl; rfl) | ((with_reducible apply wpList_ld1 M.out.at0); rfl; rfl; rfl; (first | exact otInt | exact otU64 | exact otU64s | exact otPt | exact otPs | exact otPb | exact otIs | exact otVs); rfl; rfl) | ((with_reducible apply wpList_lds M.out.at0); rfl; rfl; rfl; (first | exact rtRoot | exact rtCk | exact rtTb | exact rtCf | exact rtVotes); rfl; (try simp only [Nat.reduceAdd, List.drop_zero, cut_cp, cut_tb, cut_tb_c, cut_cf])))
    refine (NB.out _).mono ?_; rintro e w3 ⟨hcase, hb⟩
    have T3 := bx (T2.out.below hb T2.out.1.lt T2.out.2.1.lt)
    have U3 := bx (HS.out.below hb HS.out.1.lt HS.out.2.1.lt)
    have S3 := bx hb.size
    have M' := M.out.below hb
    (clear M; have M := bx M'; clear M')
    clear hb
    rcases hcase with ⟨hc, rfl⟩ | ⟨hc, B, Mb, hM1, hB1, rfl, hK⟩
    · go_wp2_with fail
      go_ret2
      exact ⟨.inl ⟨by omega, rfl⟩, M.out.ext.bel⟩
    · have HK := bx hK
      clear hK
      go_wp2_with fail
      go_ret2
      have EA := ext_alloc w3 (.cells #[.pointer (some ⟨g, 0, none⟩), .pointer (some ⟨s, 0, none⟩), .pointer (some ⟨B, 0, none⟩)] 112)
      refine ⟨.inr ⟨h1, by omega, by omega, w3.heap.size, g, h, s, q, B, Mb, rfl, ?_, ?_, ?_, ?_, ?_⟩, M.out.ext.bel.trans (EA.mono M.out.ext.bel.size)⟩
      · have := S0.out; have := S1.out; have := S2.out; have := S3.out; omega
      · have := S0.out; have := S1.out; have := S2.out; omega
      · have := S0.out; have := HH.out; omega
      · have := S0.out; have := S1.out; have := HQ.out; omega
      · have l1 := HT.out.1.lt; have l2 := HT.out.2.1.lt; have l3 := HS.out.1.lt; have l4 := HS.out.2.1.lt; have e1 := HSG.out; have e2 := HQ.out; have e3 := S2.out; have e4 := S3.out
        have n1 := T3.out.2.2.2
        have n2 := U3.out.2.2
        refine ⟨Has.new w3 [.pointer (some ⟨g, 0, none⟩), .pointer (some ⟨s, 0, none⟩), .pointer (some ⟨B, 0, none⟩)] 112, T3.out.below EA T3.out.1.lt T3.out.2.1.lt, U3.out.below EA U3.out.1.lt U3.out.2.1.lt, ?_, by rw [List.length_replicate, List.length_replicate], ?_⟩
        · rw [List.length_replicate]
          exact (HK.out _).below EA
        · refine ⟨?_, ?_, n1, ?_, ?_, n2, ?_, ?_, ?_⟩ <;> omega
  · have NT := bx (newTable_bad (n : Int) (.inr (by omega)))
    go_enter Try.func61, Try.ntmps61
    go_wp2_with (first | ((with_reducible apply wpList_box M.out); rfl; rfl; rfl; exact cfP_len _ _; intro w' g M' hb'; (clear M; have M := bx M'; clear M'); clear hb') | ((with_reducible apply wpList_ldp M.out.at0); rfl; rfl; rfl; (first | exact rtRoot | exact rtCk | exact rtTb | exact rtCf | exact rtVotes); rfl; rfl) | ((with_reducible apply wpList_ld1 M.out.at0); rfl; rfl; rfl; (first | exact otInt | exact otU64 | exact otU64s | exact otPt | exact otPs | exact otPb | exact otIs | exact otVs); rfl; rfl) | ((with_reducible apply wpList_lds M.out.at0); rfl; rfl; rfl; (first | exact rtRoot | exact rtCk | exact rtTb | exact rtCf | exact rtVotes); rfl; (try simp only [Nat.reduceAdd, List.drop_zero, cut_cp, cut_tb, cut_tb_c, cut_cf])))
    refine (NT.out _).mono ?_; rintro e w1 ⟨rfl, hb⟩
    have M' := M.out.below hb
    (clear M; have M := bx M'; clear M')
    go_wp2_with fail
    go_ret2
    exact ⟨.inl ⟨.inl (by omega), rfl⟩, M.out.ext.bel⟩
theorem otPt : OneT Try.prog 109 := ⟨⟨_, Try.underlying109, rfl⟩, by kernel_rfl⟩
theorem otPs : OneT Try.prog 110 := ⟨⟨_, Try.underlying110, rfl⟩, by kernel_rfl⟩
theorem otPb : OneT Try.prog 23 := ⟨⟨_, Try.underlying23, rfl⟩, by kernel_rfl⟩
theorem built_cpG (r : Rt) : Try.prog.built 35 [(1, .agg (rc r).toArray)] = some (fl (cpP ⟨u0, r⟩)).toArray := by
  have := fillC_r (c := zck) (r := r.l) (ps := []) rfl r.len
  rw [built_ck_fill]
  exact this
/-- a registry's variable -/
def rgP (g s B : Nat) : List (List Value) := [[.pointer (some ⟨g, 0, none⟩)], [.pointer (some ⟨s, 0, none⟩)], [.pointer (some ⟨B, 0, none⟩)]]
theorem RegW.hl {w : World} {r g h s q B Mb : Nat} {vs : List Vt} {gs : List Bool} {lim : Int} {T : List Tbl} (x : RegW w r g h s q B Mb vs gs lim T) : HL w r (rgP g s B) [1, 1, 1] := ⟨x.hr, rfl⟩
/-- the error number of a new registry -/
def nwE (tl : Int) (b : List U) : Int := if 1024 < b.length ∨ tl < 1 ∨ 64 < tl then 3 else tbE b b.length
def NwP (c : Cf) (b : List U) (w : World) (e : Ending) (w' : World) : Prop :=
  ((nwE c.tl b ≠ 0 ∧ e = .returned (.tuple #[.pointer none, .int .i64 (nwE c.tl b)])) ∨
   (nwE c.tl b = 0 ∧ b.length ≤ 1024 ∧ ∃ r g h s q B Mb : Nat, e = .returned (.tuple #[.pointer (some ⟨r, 0, none⟩), .int .i64 0]) ∧ w.heap.size ≤ r ∧ w.heap.size ≤ Mb ∧ w.heap.size ≤ h ∧ w.heap.size ≤ q ∧ RegW w' r g h s q B Mb (List.replicate b.length zv) (List.replicate b.length false) c.tl [⟨⟨u0, c.gen⟩, b⟩])) ∧ Below w.heap.size w w'
theorem reg_new (c : Cp) (b : List U) (lim : Int) (h2 : 1 ≤ lim) : regM [] ⟨c, b⟩ b.length lim = (tbE b b.length, if tbE b b.length = 0 then [⟨c, b⟩] else []) := by
  unfold regM
  by_cases h : tbE b b.length = 0
  · rw [if_neg (fun e => e h), show findT ([] : List Tbl) (Tbl.mk c b).c = -1 from rfl, if_neg (show ¬ (0 : Int) ≤ -1 by decide), if_neg (by simp; omega), if_pos h, h]
    rfl
  · rw [if_pos h, if_neg h]
set_option maxRecDepth 20000 in
set_option maxHeartbeats 1000000 in
theorem new_anyR (c : Cf) (A : Option Addr) (k : Nat) (b : List U) (hn9 : b.length ≤ 65535) (hA : A = none → k = 0) (w : World) (hr : Row w w.heap.size 1 A b.length (us b)) :
    Calls Try.prog 25 #[.agg (fl (cfP c ⟨A, b.length, k⟩)).toArray] w (NwP c b w) := by
  have M := bx (MM.start (ok_g0 w))
  have EM := bx (empty_any c A b.length k hn9)
  have HR := bx hr
  have HA := bx hA
  have BC := bx (built_cpG c.gen)
  have BT := bx (fun p => built_tbN p A b.length k)
  clear hr hA
  go_enter Try.func25, Try.ntmps25
  go_wp2_with (first | ((with_reducible apply wpList_box M.out); rfl; rfl; rfl; exact cfP_len _ _; intro w' g M' hb'; (clear M; have M := bx M'; clear M'); clear hb') | ((with_reducible apply wpList_ldp M.out.at0); rfl; rfl; rfl; (first | exact rtRoot | exact rtCk | exact rtTb | exact rtCf | exact rtVotes); rfl; rfl) | ((with_reducible apply wpList_ld1 M.out.at0); rfl; rfl; rfl; (first | exact otInt | exact otU64 | exact otU64s | exact otPt | exact otPs | exact otPb | exact otIs | exact otVs); rfl; rfl) | ((with_reducible apply wpList_lds M.out.at0); rfl; rfl; rfl; (first | exact rtRoot | exact rtCk | exact rtTb | exact rtCf | exact rtVotes); rfl; (try simp only [Nat.reduceAdd, List.drop_zero, cut_cp, cut_tb, cut_tb_c, cut_cf])))
  obtain ⟨gx, hgx⟩ : ∃ x, x = g := ⟨_, rfl⟩
  subst hgx
  have S0 := bx M.out.ext.bel.size
  have HGX := bx M.out.at0.has.lt
  refine (EM.out _).mono ?_; rintro e w1 ⟨hcase, hb⟩
  have M' := M.out.below hb
  (clear M; have M := bx M'; clear M')
  clear hb
  rcases hcase with ⟨hc, rfl⟩ | ⟨h1, h2, h3, r, g, h, s, q, B, Mb, rfl, hrr, hmb, hhh, hqq, hW⟩
  · have hE : nwE c.tl b = 3 := if_pos hc
    go_wp2_with fail
    go_ret2
    exact ⟨.inl ⟨by rw [hE]; decide, by rw [hE]; rfl⟩, M.out.ext.bel⟩
  · have hE : nwE c.tl b = tbE b b.length := if_neg (by omega)
    have HE := bx hE
    have HW := bx hW
    have HRR := bx hrr
    have HMB := bx hmb
    have HHH := bx hhh
    have HQQ := bx hqq
    clear hE hW hrr hmb hhh hqq
    have HX := bx (reg_new ⟨u0, c.gen⟩ b c.tl h2)
    have RN := bx (fun w' hh => registerN_any (P := fun k => k ≠ h ∧ k ≠ q) B Mb (b.length : Int) c.tl h3 [] ⟨⟨u0, c.gen⟩, b⟩ A k hn9 w' hh)
    rw [HX.out] at RN
    clear HX
    go_wp2_with fail
    refine wp_region_mix7 (fun w' => (HL w' gx (cfP c ⟨A, b.length, k⟩) cfL ∧ HL w' r (rgP g s B) [1, 1, 1])) (.steps [(1, 0), (1, 1), (1, 2), (0, 3), (1, 4), (0, 5), (1, 6), (1, 7), (0, 8), (1, 9), (2, 10), (1, 11)] .leaf) (by kernel_rfl) (by kernel_rfl) ⟨M.out.drew.at0, HW.out.drew.hl⟩ ?_; (simp only [MixT7, MT.steps, stepI, List.getD_cons_zero, List.getD_cons_succ])
    simp only [Act.put, List.setIfInBounds_toArray, List.set_cons_succ, List.set_cons_zero]
    (repeat (first | (with_reducible refine wpQuiet_nil ?_) | (first | go_big_quiet_skip | (go_big_quiet_want; first | (first | ((with_reducible apply quiet_ldp (fun _ h => h.1) (cfP_len _ _)); rfl; rfl; (first | exact rtRoot | exact rtCk | exact rtTb | exact rtCf | exact rtVotes); rfl; rfl; go_big_quiet_on; (simp only [Act.put, List.setIfInBounds_toArray, List.set_cons_succ, List.set_cons_zero])) | ((with_reducible apply quiet_ld1 (fun _ h => h.1)); rfl; rfl; (first | exact otInt | exact otU64 | exact otU64s | exact otPt | exact otPs | exact otPb | exact otIs | exact otVs); rfl; rfl; go_big_quiet_on; (simp only [Act.put, List.setIfInBounds_toArray, List.set_cons_succ, List.set_cons_zero])) | ((with_reducible apply quiet_lds (fun _ h => h.1) (cfP_len _ _)); rfl; rfl; (first | exact rtRoot | exact rtCk | exact rtTb | exact rtCf | exact rtVotes); rfl; (try simp only [Nat.reduceAdd, List.drop_zero, cut_cp, cut_tb, cut_tb_c, cut_cf]); go_big_quiet_on; (simp only [Act.put, List.setIfInBounds_toArray, List.set_cons_succ, List.set_cons_zero])) | ((with_reducible apply quiet_ldp (fun _ h => h.2) rfl); rfl; rfl; (first | exact rtRoot | exact rtCk | exact rtTb | exact rtCf | exact rtVotes); rfl; rfl; go_big_quiet_on; (simp only [Act.put, List.setIfInBounds_toArray, List.set_cons_succ, List.set_cons_zero])) | ((with_reducible apply quiet_ld1 (fun _ h => h.2)); rfl; rfl; (first | exact otInt | exact otU64 | exact otU64s | exact otPt | exact otPs | exact otPb | exact otIs | exact otVs); rfl; rfl; go_big_quiet_on; (simp only [Act.put, List.setIfInBounds_toArray, List.set_cons_succ, List.set_cons_zero])) | ((with_reducible apply quiet_lds (fun _ h => h.2) rfl); rfl; rfl; (first | exact rtRoot | exact rtCk | exact rtTb | exact rtCf | exact rtVotes); rfl; (try simp only [Nat.reduceAdd, List.drop_zero, cut_cp, cut_tb, cut_tb_c, cut_cf]); go_big_quiet_on; (simp only [Act.put, List.setIfInBounds_toArray, List.set_cons_succ, List.set_cons_zero])) | ((with_reducible refine quiet_build 35 _ rfl [(1, .agg (rc c.gen).toArray)] (fl (cpP ⟨u0, c.gen⟩)) ?_ BC.out ?_); rfl; go_big_quiet_on; (simp only [Act.put, List.setIfInBounds_toArray, List.set_cons_succ, List.set_cons_zero])) | ((with_reducible refine quiet_build 38 _ rfl [(0, .agg (fl (cpP ⟨u0, c.gen⟩)).toArray), (1, .slice A b.length k)] (fl (tbP ⟨u0, c.gen⟩ (.slice A b.length k))) ?_ (BT.out _) ?_); rfl; go_big_quiet_on; (simp only [Act.put, List.setIfInBounds_toArray, List.set_cons_succ, List.set_cons_zero]))) | (go_big_quiet_op; first | go_big_quiet_on | ((with_reducible refine ⟨_, fun _ _ => rfl, ?_⟩); go_big_quiet_on))))))
    have HM1 : Bx (gx ≠ Mb) := ⟨fun e => by have := HMB.out; have := HGX.out; omega⟩
    have M' := M.out.drew
    (clear M; have M := bx M'; clear M')
    have K1 := bx HW.out.drew
    have BK := K1.out.hk
    rw [List.length_replicate] at BK
    refine mix_call5 (RN.out _ BK (fun k hk => K1.out.hP k hk) ((HR.out.below (M.out.ext.bel)).more M.out.ext.bel.size) HA.out) Try.func13 rfl rfl _ _ rfl rfl rfl ?_
    rintro e w4 ⟨rfl, hb4, hg4⟩
    refine ⟨_, rfl, ⟨⟨M.out.at0.has.grown hg4 (ne_som HM1.out), M.out.at0.len⟩, ?_⟩, ?_⟩
    · exact ⟨K1.out.hr.grown hg4 (ne_som (K1.out.hk.m.ne K1.out.hr)), rfl⟩
    · have K4 := bx (K1.out.register hg4 (by rw [List.length_replicate]; exact hb4))
      have B4 := bx (M.out.ext.bel.grown hg4 M.out.ext.bel.size (fun k hk => by cases hk; have := HMB.out; have := S0.out; omega))
      clear hb4 hg4 BK
      simp only [Act.put, List.setIfInBounds_toArray, List.set_cons_succ, List.set_cons_zero]
      (repeat (first | (with_reducible refine wpQuiet_nil ?_) | (first | go_big_quiet_skip | (go_big_quiet_want; first | (first | fail) | (go_big_quiet_op; first | go_big_quiet_on | ((with_reducible refine ⟨_, fun _ _ => rfl, ?_⟩); go_big_quiet_on))))))
      refine NoPanic.normal ?_
      by_cases ht : tbE b b.length = 0
      · have HT := bx ht
        have HE0 := bx (HE.out.trans ht)
        rw [ht]
        go_wp2_with fail
        go_ret2
        refine ⟨.inr ⟨HE0.out, h1, r, g, h, s, q, B, Mb, rfl, ?_, ?_, ?_, ?_, ?_⟩, B4.out⟩
        · have := HRR.out; have := S0.out; omega
        · have := HMB.out; have := S0.out; omega
        · have := HHH.out; have := S0.out; omega
        · have := HQQ.out; have := S0.out; omega
        · have := K4.out
          rw [if_pos HT.out] at this
          exact this
      · have HT := bx ht
        have HE0 : Bx (nwE c.tl b ≠ 0) := ⟨by rw [HE.out]; exact ht⟩
        go_wp2_with fail
        go_ret2
        exact ⟨.inl ⟨HE0.out, by rw [HE.out]; rfl⟩, B4.out⟩
theorem ready_anyR {w : World} {r g h s q B Mb : Nat} {vs : List Vt} {gs : List Bool} {lim : Int} {T : List Tbl} (x : RegW w r g h s q B Mb vs gs lim T) :
    Calls Try.prog 26 #[.pointer (some ⟨r, 0, none⟩)] w fun e w' => e = .returned (.bool true) ∧ Below w.heap.size w w' := by
  have c0 : w.cell? ⟨r, 0, none⟩ = some (.pointer (some ⟨g, 0, none⟩)) := by rw [x.hr.cell]; rfl
  have c1 : w.cell? ⟨r, 1, none⟩ = some (.pointer (some ⟨s, 0, none⟩)) := by rw [x.hr.cell]; rfl
  have c2 : w.cell? ⟨r, 2, none⟩ = some (.pointer (some ⟨B, 0, none⟩)) := by rw [x.hr.cell]; rfl
  clear x
  go_enter Try.func26, Try.ntmps26
  go_wp2_with fail
  go_ret
  exact ⟨rfl, Below.refl _ _⟩
theorem otIs : OneT Try.prog 22 := ⟨⟨_, Try.underlying22, rfl⟩, by kernel_rfl⟩
theorem otVs : OneT Try.prog 66 := ⟨⟨_, Try.underlying66, rfl⟩, by kernel_rfl⟩
theorem ztVs : ZeroT Try.prog 68 [[.slice none 0 0], [.slice none 0 0]] [1, 1] := ⟨fun w => by kernel_rfl, rfl⟩
theorem built_vs (A A' : Option Addr) (n c n' c' : Nat) : Try.prog.built 68 [(0, .slice A n c), (1, .slice A' n' c')] = some #[.slice A n c, .slice A' n' c'] := by kernel_rfl
def SnP (Γ : Gam) (w : World) (vs : List Vt) (gs : List Bool) (T : List Tbl) (e : Ending) (w' : World) : Prop :=
  ∃ (A1 : Option Addr) (c1 : Nat) (A2 : Option Addr) (c2 : Nat) (A3 : Option Addr) (c3 : Nat) (Γ' : Gam),
    e = .returned (.tuple #[.agg #[.slice A1 vs.length c1, .slice A2 (memI gs gs.length).length c2], .slice A3 T.length c3]) ∧ SlG Γ' A1 vs.length (vs.flatMap vc) ∧
    SlG Γ' A2 (memI gs gs.length).length (ints .i64 (memI gs gs.length)) ∧ TsG Γ' A3 T.length T ∧ Ext Γ w Γ' w'
set_option maxRecDepth 20000 in
set_option maxHeartbeats 1000000 in
theorem snapshot_anyR (Γ : Gam) {w : World} {r v1 v2 s1 s2 B Mb : Nat} {vs : List Vt} {gs : List Bool} {lim : Int} {T : List Tbl} (ok : Ok Γ w) (x : RegW w r v1 v2 s1 s2 B Mb vs gs lim T) (hn : vs.length ≤ 1024) (hT : T.length ≤ 64) (hb : ∀ t ∈ T, t.b.length ≤ 1024) (hs : Asc T) :
    Calls Try.prog 62 #[.pointer (some ⟨r, 0, none⟩)] w (SnP Γ w vs gs T) := by
  have M := bx (MM.start ok)
  have X := bx x
  have HN := bx hn
  have HGN : Bx (gs.length ≤ 1024) := ⟨by rw [x.eq]; exact hn⟩
  have TB := bx (fun Γ' w' ok' hk => tables_any (P := fun b => b ≠ v2 ∧ b ≠ s2) Γ' B Mb (vs.length : Int) lim T (by omega) (fun t ht => by have := hb t ht; omega) hs w' ok' hk)
  have BV := bx built_vs
  clear ok x hn hT hb hs
  go_enter Try.func62, Try.ntmps62
  go_upto_region 1 with (first | ((with_reducible apply wpList_alc M.out); rfl; rfl; exact ztVs; intro w' g M' hb'; (clear M; have M := bx M'; clear M'); clear hb'))
  obtain ⟨gx, hgx⟩ : ∃ x, x = g := ⟨_, rfl⟩
  subst hgx
  have X1 := bx ((X.out.below M.out.ext.bel).drew)
  refine wp_region_mix7 (fun w' => HL w' r (rgP v1 s1 B) [1, 1, 1]) (.steps [(1, 0), (1, 1), (1, 2), (0, 3), (1, 5), (1, 6), (1, 7), (0, 8), (1, 11), (1, 12), (1, 13), (0, 14), (2, 4), (2, 9), (1, 10), (2, 15), (3, 16), (1, 17)] .leaf) (by kernel_rfl) (by kernel_rfl) X1.out.hl ?_; (simp only [MixT7, MT.steps, stepI, List.getD_cons_zero, List.getD_cons_succ])
  simp only [Act.put, List.setIfInBounds_toArray, List.set_cons_succ, List.set_cons_zero]
  (repeat (first | (with_reducible refine wpQuiet_nil ?_) | (first | go_big_quiet_skip | (go_big_quiet_want; first | (first | ((with_reducible apply quiet_ldp (fun _ h => h) rfl); rfl; rfl; (first | exact rtRoot | exact rtCk | exact rtTb | exact rtCf | exact rtVotes); rfl; rfl; go_big_quiet_on; (simp only [Act.put, List.setIfInBounds_toArray, List.set_cons_succ, List.set_cons_zero])) | ((with_reducible apply quiet_ld1 (fun _ h => h)); rfl; rfl; (first | exact otInt | exact otU64 | exact otU64s | exact otPt | exact otPs | exact otPb | exact otIs | exact otVs); rfl; rfl; go_big_quiet_on; (simp only [Act.put, List.setIfInBounds_toArray, List.set_cons_succ, List.set_cons_zero])) | ((with_reducible apply quiet_lds (fun _ h => h) rfl); rfl; rfl; (first | exact rtRoot | exact rtCk | exact rtTb | exact rtCf | exact rtVotes); rfl; (try simp only [Nat.reduceAdd, List.drop_zero, cut_cp, cut_tb, cut_tb_c, cut_cf]); go_big_quiet_on; (simp only [Act.put, List.setIfInBounds_toArray, List.set_cons_succ, List.set_cons_zero]))) | (go_big_quiet_op; first | go_big_quiet_on | ((with_reducible refine ⟨_, fun _ _ => rfl, ?_⟩); go_big_quiet_on))))))
  have M' := M.out.drew
  (clear M; have M := bx M'; clear M')
  refine mix_call5 (Vv.votes_any _ X1.out.hv HN.out) Try.func95 rfl rfl _ _ rfl rfl rfl ?_
  rintro e w2 ⟨v, rfl, ho, hb⟩
  have X2 := bx (X1.out.below hb)
  have M' := M.out.rowNew hb ho
  (clear M; have M := bx M'; clear M')
  obtain ⟨A1, c1, rfl⟩ := own_slice ho
  clear ho hb
  obtain ⟨Γ1, hc1, hs1, hl1, hM1⟩ := M.out.frz
  have SV := bx hs1
  clear M
  have M := bx hM1
  clear hM1 hl1 hs1 hc1
  refine ⟨_, rfl, X2.out.hl, ?_⟩
  simp only [Act.put, List.setIfInBounds_toArray, List.set_cons_succ, List.set_cons_zero]
  refine mix_call5 (members_any Γ1 _ M.out.ext.ok X2.out.hs HGN.out) Try.func96 rfl rfl _ _ rfl rfl rfl ?_
  rintro e w3 ⟨A2, c2, Γ2, rfl, _, hm2, hx2⟩
  have SM := bx hm2
  have L2 := bx hx2.le
  have X3 := bx (X2.out.below hx2.bel)
  have M' := M.out.call hx2
  (clear M; have M := bx M'; clear M')
  clear hm2 hx2
  refine ⟨_, rfl, X3.out.hl, ?_⟩
  simp only [Act.put, List.setIfInBounds_toArray, List.set_cons_succ, List.set_cons_zero]
  (repeat (first | (with_reducible refine wpQuiet_nil ?_) | (first | go_big_quiet_skip | (go_big_quiet_want; first | (first | ((with_reducible refine quiet_build 68 _ rfl [(0, .slice A1 vs.length c1), (1, .slice A2 (memI gs gs.length).length c2)] [.slice A1 vs.length c1, .slice A2 (memI gs gs.length).length c2] ?_ (BV.out _ _ _ _ _ _) ?_); rfl; go_big_quiet_on; (simp only [Act.put, List.setIfInBounds_toArray, List.set_cons_succ, List.set_cons_zero]))) | (go_big_quiet_op; first | go_big_quiet_on | ((with_reducible refine ⟨_, fun _ _ => rfl, ?_⟩); go_big_quiet_on))))))
  refine mix_call5 (TB.out Γ2 _ M.out.ext.ok X3.out.hk) Try.func43 rfl rfl _ _ rfl rfl rfl ?_
  rintro e w4 ⟨A3, c3, Γ3, rfl, _, ht3, hx3⟩
  have ST := bx ht3
  have L3 := bx hx3.le
  have X4 := bx (X3.out.below hx3.bel)
  have M' := M.out.call hx3
  (clear M; have M := bx M'; clear M')
  clear ht3 hx3
  refine ⟨_, rfl, X4.out.hl, ?_⟩
  simp only [Act.put, List.setIfInBounds_toArray, List.set_cons_succ, List.set_cons_zero]
  (repeat (first | (with_reducible refine wpQuiet_nil ?_) | (first | go_big_quiet_skip | (go_big_quiet_want; first | (first | fail) | (go_big_quiet_op; first | go_big_quiet_on | ((with_reducible refine ⟨_, fun _ _ => rfl, ?_⟩); go_big_quiet_on))))))
  refine mix_sts M.out 0 [[.slice A1 vs.length c1], [.slice A2 (memI gs gs.length).length c2]] [[.slice A1 vs.length c1], [.slice A2 (memI gs gs.length).length c2]] rfl rfl rfl rfl rtVotes rfl rfl (One.cons (One.v rfl) (One.v rfl)) rfl rfl ?_; intro w7 M'; (simp only [List.set_cons_zero, List.set_cons_succ] at M'); (clear M; have M := bx M'; clear M'); simp only [Act.put, List.setIfInBounds_toArray, List.set_cons_succ, List.set_cons_zero]
  refine ⟨(X.out.below M.out.ext.bel).hl, ?_⟩
  (repeat (first | (with_reducible refine wpQuiet_nil ?_) | (first | go_big_quiet_skip | (go_big_quiet_want; first | (first | fail) | (go_big_quiet_op; first | go_big_quiet_on | ((with_reducible refine ⟨_, fun _ _ => rfl, ?_⟩); go_big_quiet_on))))))
  refine NoPanic.normal ?_
  go_wp2_with fail
  exact bodyPost_ret (results_Lt (by rfl) _ M.out.at0 (by rfl) rtVotes rfl) rfl ⟨A1, c1, A2, c2, A3, c3, Γ3, rfl, (SV.out.mono L2.out).mono L3.out, SM.out.mono L3.out, ST.out, M.out.ext⟩
theorem vrow_of {Γ : Gam} {A : Option Addr} {vs : List Vt} (h : SlG Γ A vs.length (vs.flatMap vc)) (hv : VL vs) {w : World} (ok : Ok Γ w) : VRow w A vs.length vs := ⟨rfl, hv, fun h0 => by
  obtain ⟨g, post, e, hg⟩ := h h0
  obtain ⟨p2, hh⟩ := ok g _ hg
  exact ⟨g, post ++ p2, e, by rw [← List.append_assoc]; exact hh⟩⟩
def vtP (A1 : Option Addr) (n1 c1 : Nat) (A2 : Option Addr) (n2 c2 : Nat) : List (List Value) := [[.slice A1 n1 c1], [.slice A2 n2 c2]]
theorem vtP_len (A1 : Option Addr) (n1 c1 : Nat) (A2 : Option Addr) (n2 c2 : Nat) : (vtP A1 n1 c1 A2 n2 c2).map List.length = [1, 1] := rfl
theorem vt_one (A1 : Option Addr) (n1 c1 : Nat) (A2 : Option Addr) (n2 c2 : Nat) : One (fl (vtP A1 n1 c1 A2 n2 c2)) := One.cons (One.v rfl) (One.v rfl)
theorem memI_r (gs : List Bool) : (memI gs gs.length).length ≤ 9223372036854775807 ∨ True := .inr trivial
set_option maxRecDepth 20000 in
set_option maxHeartbeats 1000000 in
theorem same_anyR (Γ : Gam) {w : World} {r v1 v2 s1 s2 B Mb : Nat} {vs : List Vt} {gs : List Bool} {lim : Int} {T : List Tbl} (ok : Ok Γ w) (x : RegW w r v1 v2 s1 s2 B Mb vs gs lim T) (hn : vs.length ≤ 1024) (hT : T.length ≤ 64) (hb : ∀ t ∈ T, t.b.length ≤ 1024) (hs : Asc T)
    (A1 : Option Addr) (c1 : Nat) (A2 : Option Addr) (c2 : Nat) (A3 : Option Addr) (c3 : Nat) (h1 : SlG Γ A1 vs.length (vs.flatMap vc)) (h2 : SlG Γ A2 (memI gs gs.length).length (ints .i64 (memI gs gs.length))) (h3 : ∀ (Γ' : Gam) (B3 : Option Addr) (d3 : Nat) (w' : World), Ok Γ' w' → Le Γ Γ' → Below w.heap.size w w' → TsG Γ' B3 T.length T → Calls Try.prog 42 #[.slice B3 T.length d3, .slice A3 T.length c3] w' fun e w'' => e = .returned (.bool true) ∧ Ext Γ' w' Γ' w'') :
    Calls Try.prog 27 #[.pointer (some ⟨r, 0, none⟩), .agg (fl (vtP A1 vs.length c1 A2 (memI gs gs.length).length c2)).toArray, .slice A3 T.length c3] w fun e w' => e = .returned (.bool true) ∧ Ext Γ w Γ w' := by
  have M := bx (MM.start ok)
  have X := bx x
  have HN := bx hn
  have HV := bx x.hv.2.2.1
  have HML : Bx ((memI gs gs.length).length ≤ 1024) := ⟨by have := memI_len gs gs.length; have := x.eq; omega⟩
  have SN := bx (fun w' ok' (hb' : Below w.heap.size w w') => snapshot_anyR Γ (w := w') ok' (x.below hb') hn hT hb hs)
  have H1 := bx h1
  have H2 := bx h2
  have H3 := bx h3
  have OK := bx ok
  have SV := bx (fun A A' c c' w' ha hb => Vv.sameVotes_any A A' vs.length vs.length c c' vs vs w' ha hb hn hn)
  have SI := bx (fun A A' c c' w' ha hb => Vv.sameInts_any A A' (memI gs gs.length).length (memI gs gs.length).length c c' (memI gs gs.length) (memI gs gs.length) w' ha hb (by have := HML.out; omega) (by have := HML.out; omega))
  rw [decide_eq_true (rfl : vs = vs)] at SV
  rw [decide_eq_true (rfl : memI gs gs.length = memI gs gs.length)] at SI
  clear ok x hn hT hb hs h1 h2 h3
  go_enter Try.func27, Try.ntmps27
  go_wp2_with (first | ((with_reducible apply wpList_box M.out); rfl; rfl; rfl; exact vtP_len _ _ _ _ _ _; intro w' g M' hb'; (clear M; have M := bx M'; clear M'); clear hb'))
  obtain ⟨g4, hg4⟩ : ∃ x, x = g := ⟨_, rfl⟩
  subst hg4
  refine (SN.out _ M.out.ext.ok M.out.ext.bel).mono ?_
  rintro e w2 ⟨B1, d1, B2, d2, B3, d3, Γ', rfl, q1, q2, q3, hx⟩
  have Q1 := bx q1
  have Q2 := bx q2
  have Q3 := bx q3
  have LE := bx hx.le
  have BEL := bx hx.bel
  have M' := M.out.call hx
  (clear M; have M := bx M'; clear M')
  clear q1 q2 q3 hx
  go_wp2_with (first | ((with_reducible apply wpList_alc M.out); rfl; rfl; exact ztVs; intro w' g M' hb'; (clear M; have M := bx M'; clear M'); clear hb') | ((with_reducible apply wpList_sts M.out 0 (vtP B1 vs.length d1 B2 (memI gs gs.length).length d2) (vtP B1 vs.length d1 B2 (memI gs gs.length).length d2)); rfl; rfl; rfl; rfl; rfl; (first | exact rtRoot | exact rtCk | exact rtTb | exact rtCf | exact rtVotes); rfl; exact vtP_len _ _ _ _ _ _; exact vt_one _ _ _ _ _ _; rfl; intro w' M' hg'; (simp only [List.set_cons_zero, List.set_cons_succ] at M'); (clear M; have M := bx M'; clear M'); clear hg') | ((with_reducible apply wpList_ldp M.out.at0); rfl; rfl; rfl; (first | exact rtRoot | exact rtCk | exact rtTb | exact rtCf | exact rtVotes); rfl; rfl) | ((with_reducible apply wpList_ld1 M.out.at0); rfl; rfl; rfl; (first | exact otInt | exact otU64 | exact otU64s | exact otPt | exact otPs | exact otPb | exact otIs | exact otVs); rfl; rfl) | ((with_reducible apply wpList_lds M.out.at0); rfl; rfl; rfl; (first | exact rtRoot | exact rtCk | exact rtTb | exact rtCf | exact rtVotes); rfl; (try simp only [Nat.reduceAdd, List.drop_zero, cut_cp, cut_tb, cut_tb_c, cut_cf])) | ((with_reducible apply wpList_ldp M.out.at1); rfl; rfl; rfl; (first | exact rtRoot | exact rtCk | exact rtTb | exact rtCf | exact rtVotes); rfl; rfl) | ((with_reducible apply wpList_ld1 M.out.at1); rfl; rfl; rfl; (first | exact otInt | exact otU64 | exact otU64s | exact otPt | exact otPs | exact otPb | exact otIs | exact otVs); rfl; rfl) | ((with_reducible apply wpList_lds M.out.at1); rfl; rfl; rfl; (first | exact rtRoot | exact rtCk | exact rtTb | exact rtCf | exact rtVotes); rfl; (try simp only [Nat.reduceAdd, List.drop_zero, cut_cp, cut_tb, cut_tb_c, cut_cf])))
  refine (SV.out _ _ _ _ _ (vrow_of Q1.out HV.out M.out.ext.ok) (vrow_of (H1.out.mono LE.out) HV.out M.out.ext.ok)).mono ?_; rintro e w3 ⟨rfl, hb3⟩
  have M' := M.out.below hb3
  (clear M; have M := bx M'; clear M')
  clear hb3
  go_wp2_with (first | ((with_reducible apply wpList_ldp M.out.at0); rfl; rfl; rfl; (first | exact rtRoot | exact rtCk | exact rtTb | exact rtCf | exact rtVotes); rfl; rfl) | ((with_reducible apply wpList_ld1 M.out.at0); rfl; rfl; rfl; (first | exact otInt | exact otU64 | exact otU64s | exact otPt | exact otPs | exact otPb | exact otIs | exact otVs); rfl; rfl) | ((with_reducible apply wpList_lds M.out.at0); rfl; rfl; rfl; (first | exact rtRoot | exact rtCk | exact rtTb | exact rtCf | exact rtVotes); rfl; (try simp only [Nat.reduceAdd, List.drop_zero, cut_cp, cut_tb, cut_tb_c, cut_cf])) | ((with_reducible apply wpList_ldp M.out.at1); rfl; rfl; rfl; (first | exact rtRoot | exact rtCk | exact rtTb | exact rtCf | exact rtVotes); rfl; rfl) | ((with_reducible apply wpList_ld1 M.out.at1); rfl; rfl; rfl; (first | exact otInt | exact otU64 | exact otU64s | exact otPt | exact otPs | exact otPb | exact otIs | exact otVs); rfl; rfl) | ((with_reducible apply wpList_lds M.out.at1); rfl; rfl; rfl; (first | exact rtRoot | exact rtCk | exact rtTb | exact rtCf | exact rtVotes); rfl; (try simp only [Nat.reduceAdd, List.drop_zero, cut_cp, cut_tb, cut_tb_c, cut_cf])))
  refine (SI.out _ _ _ _ _ (Q2.out.row (size := 1) (by rw [ints_len, Nat.mul_one]) M.out.ext.ok) ((H2.out.mono LE.out).row (size := 1) (by rw [ints_len, Nat.mul_one]) M.out.ext.ok)).mono ?_; rintro e w4 ⟨rfl, hb4⟩
  have M' := M.out.below hb4
  (clear M; have M := bx M'; clear M')
  clear hb4
  go_wp2_with (first | ((with_reducible apply wpList_ldp M.out.at0); rfl; rfl; rfl; (first | exact rtRoot | exact rtCk | exact rtTb | exact rtCf | exact rtVotes); rfl; rfl) | ((with_reducible apply wpList_ld1 M.out.at0); rfl; rfl; rfl; (first | exact otInt | exact otU64 | exact otU64s | exact otPt | exact otPs | exact otPb | exact otIs | exact otVs); rfl; rfl) | ((with_reducible apply wpList_lds M.out.at0); rfl; rfl; rfl; (first | exact rtRoot | exact rtCk | exact rtTb | exact rtCf | exact rtVotes); rfl; (try simp only [Nat.reduceAdd, List.drop_zero, cut_cp, cut_tb, cut_tb_c, cut_cf])) | ((with_reducible apply wpList_ldp M.out.at1); rfl; rfl; rfl; (first | exact rtRoot | exact rtCk | exact rtTb | exact rtCf | exact rtVotes); rfl; rfl) | ((with_reducible apply wpList_ld1 M.out.at1); rfl; rfl; rfl; (first | exact otInt | exact otU64 | exact otU64s | exact otPt | exact otPs | exact otPb | exact otIs | exact otVs); rfl; rfl) | ((with_reducible apply wpList_lds M.out.at1); rfl; rfl; rfl; (first | exact rtRoot | exact rtCk | exact rtTb | exact rtCf | exact rtVotes); rfl; (try simp only [Nat.reduceAdd, List.drop_zero, cut_cp, cut_tb, cut_tb_c, cut_cf])))
  refine (H3.out Γ' _ _ _ M.out.ext.ok LE.out M.out.ext.bel Q3.out).mono ?_; rintro e w5 ⟨rfl, hx5⟩
  have M' := M.out.call hx5
  (clear M; have M := bx M'; clear M')
  clear hx5
  go_wp2_with fail
  go_ret
  exact ⟨rfl, Ext.below OK.out M.out.ext.bel⟩
def wOne (gs : List Bool) (T : List Tb) (c : Ck) : List Int → Int → Int
  | [], s => s
  | v :: l, s => wOne gs T c l (if gAt gs v = true then s else IntKind.u64.wrap (s + balV T c v))
def wAll (vs : List Vt) (gs : List Bool) (T : List Tb) (c : Ck) : List Rt → Int → Int
  | [], s => s
  | x :: X, s => wAll vs gs T c X (wOne gs T c (supI vs x.l vs.length) s)
theorem rootsAtR {Γ : Gam} {A : Option Addr} {U : List Rt} (h : SlG Γ A U.length (rts U)) (i : Nat) (hi : i < U.length) : ∃ g, A = some ⟨g, 0, none⟩ ∧ Fz Γ g (i * 32) [rc U[i]] [32] := by
  obtain ⟨g, h1, h2⟩ := SlG.at (f := rc) (k := 32) h (fun x _ => rc_len x) rfl i hi
  exact ⟨g, h1, by simpa [fl] using h2, lenR _⟩
set_option maxRecDepth 20000 in
set_option maxHeartbeats 1000000 in
theorem weight_anyR {w : World} {r v1 v2 s1 s2 B Mb : Nat} {vs : List Vt} {gs : List Bool} {lim : Int} {T : List Tbl} (x : RegW w r v1 v2 s1 s2 B Mb vs gs lim T) (hn : vs.length ≤ 1024) (c : Cp) (hbl : (bal (T.map oldT) (oldC c)).length ≤ 65535) (A : Option Addr) (n k : Nat) (L : List Rt) (hn5 : n ≤ 60000) (hl : RtRow w A n L) (hrs : (rsU L).length ≤ 65535) :
    Calls Try.prog 58 #[.pointer (some ⟨r, 0, none⟩), .agg (fl (cpP c)).toArray, .slice A n k] w fun e w' => e = .returned (.int .u64 (wAll vs gs (T.map oldT) (oldC c) (rsU L) 0)) ∧ Below w.heap.size w w' := by
  have M := bx (MM.start (ok_g0 w))
  have X := bx x
  have HN := bx hn
  have BA := bx (fun w' v hk => balance_any (P := fun b => b ≠ v2 ∧ b ≠ s2) B Mb (vs.length : Int) lim (T.map oldT) (oldC c) (oldC_ok c) v hbl w' hk)
  have SO := bx (fun w' ok' hl' => sortR_any g0 A n k L (by omega) w' ok' hl')
  have HL := bx hl
  have HRS := bx hrs
  clear x hn hbl hl hrs
  go_enter Try.func58, Try.ntmps58
  go_wp2_with (first | ((with_reducible apply wpList_box M.out); rfl; rfl; rfl; exact cpP_len _; intro w' g M' hb'; (clear M; have M := bx M'; clear M'); clear hb'))
  obtain ⟨g4, hg4⟩ : ∃ x, x = g := ⟨_, rfl⟩
  subst hg4
  refine (SO.out _ M.out.ext.ok (HL.out.below M.out.ext.bel)).mono ?_; rintro e w1 ⟨A1, c1, Γ1, rfl, _, hs1, hx⟩
  have M' := M.out.call hx
  (clear M; have M := bx M'; clear M')
  have SU := bx hs1
  have EU : Bx (∃ U, rsU L = U) := ⟨_, rfl⟩
  obtain ⟨U, hU⟩ := EU.out
  rw [hU] at SU HRS
  replace EU := bx hU
  have EL : Bx ((rsU L).length = U.length) := ⟨by rw [hU]⟩
  clear hs1 hx SO HL
  rw [hU]
  clear hU
  go_wp2_with fail
  go_loopw [7, 15] (fun sv i wr => ∃ (k : Nat) (s : Int) (Γ2 : Gam), k ≤ U.length ∧ i = .int .i64 k ∧ sv = .int .u64 s ∧ wAll vs gs (T.map oldT) (oldC c) U 0 = wAll vs gs (T.map oldT) (oldC c) (U.drop k) s ∧ Le Γ1 Γ2 ∧ MM g0 w Γ2 wr [⟨g4, cpP c, [1, 32]⟩] []) (fun _ i _ => U.length - (intOf i).toNat)
  case atStart => exact ⟨0, 0, Γ1, Nat.zero_le _, rfl, rfl, rfl, Le.refl _, M.out⟩
  case round =>
    obtain ⟨k, s, Γ2, hk, rfl, rfl, hrun, hle, hM⟩ := hrel
    clear M
    have M := bx hM
    have RUN := bx hrun
    have LE := bx hle
    clear hM hrun hle
    have hk5 : k ≤ 65535 := by have := HRS.out; omega
    by_cases hkn : k < U.length
    · obtain ⟨gk, rfl, hF⟩ := rootsAtR (SU.out.mono LE.out) k hkn
      have F1 := bx hF
      have hki : (k : Int) < (U.length : Int) := by omega
      have hk0 : (0 : Int) ≤ (k : Int) := by omega
      have HD := bx (List.drop_eq_getElem_cons hkn)
      clear hF
      generalize U[k] = y at *
      go_upto_region 5 with (first | ((with_reducible apply wpList_rdp (F1.out.cl M.out.ext.ok)); rfl; rfl; rfl; (first | exact rtRoot | exact rtCk | exact rtTb | exact rtCf | exact rtVotes); rfl; rfl) | ((with_reducible apply wpList_rd1 (F1.out.cl M.out.ext.ok)); rfl; rfl; rfl; (first | exact otInt | exact otU64 | exact otU64s | exact otPt | exact otPs | exact otPb | exact otIs | exact otVs); rfl; rfl) | ((with_reducible apply wpList_rds (F1.out.cl M.out.ext.ok)); rfl; rfl; rfl; (first | exact rtRoot | exact rtCk | exact rtTb | exact rtCf | exact rtVotes); rfl; (try simp only [Nat.reduceAdd, List.drop_zero, cut_cp, cut_tb, cut_tb_c, cut_cf])) | ((with_reducible apply wpList_rdp0 (F1.out.cl M.out.ext.ok)); rfl; rfl; rfl; (first | exact rtRoot | exact rtCk | exact rtTb | exact rtCf | exact rtVotes); rfl; rfl) | ((with_reducible apply wpList_rd10 (F1.out.cl M.out.ext.ok)); rfl; rfl; rfl; (first | exact otInt | exact otU64 | exact otU64s | exact otPt | exact otPs | exact otPb | exact otIs | exact otVs); rfl; rfl) | ((with_reducible apply wpList_rds0 (F1.out.cl M.out.ext.ok)); rfl; rfl; rfl; (first | exact rtRoot | exact rtCk | exact rtTb | exact rtCf | exact rtVotes); rfl; (try simp only [Nat.reduceAdd, List.drop_zero, cut_cp, cut_tb, cut_tb_c, cut_cf])) | ((with_reducible apply wpList_alc M.out); rfl; rfl; exact ztRt; intro w' g M' hb'; (clear M; have M := bx M'; clear M'); clear hb') | ((with_reducible apply wpList_sts M.out 0 [rc y] [rc y]); rfl; rfl; rfl; rfl; rfl; (first | exact rtRoot | exact rtCk | exact rtTb | exact rtCf | exact rtVotes); rfl; exact lenR y; exact rc_one y; rfl; intro w' M' hg'; (simp only [List.set_cons_zero, List.set_cons_succ] at M'); (clear M; have M := bx M'; clear M'); clear hg'))
      obtain ⟨g9, hg9⟩ : ∃ x, x = g := ⟨_, rfl⟩
      subst hg9
      have X1 := bx ((X.out.below M.out.ext.bel).drew)
      refine wp_region_mix7 (fun w' => (HL w' r (rgP v1 s1 B) [1, 1, 1] ∧ HL w' g9 [rc y] [32])) (.steps [(1, 0), (1, 1), (1, 2), (0, 3), (0, 4), (1, 7), (2, 5), (1, 6)] .leaf) (by kernel_rfl) (by kernel_rfl) ⟨X1.out.hl, M.out.drew.at0⟩ ?_; (simp only [MixT7, MT.steps, stepI, List.getD_cons_zero, List.getD_cons_succ])
      simp only [Act.put, List.setIfInBounds_toArray, List.set_cons_succ, List.set_cons_zero]
      (repeat (first | (with_reducible refine wpQuiet_nil ?_) | (first | go_big_quiet_skip | (go_big_quiet_want; first | (first | ((with_reducible apply quiet_ldp (fun _ h => h.1) rfl); rfl; rfl; (first | exact rtRoot | exact rtCk | exact rtTb | exact rtCf | exact rtVotes); rfl; rfl; go_big_quiet_on; (simp only [Act.put, List.setIfInBounds_toArray, List.set_cons_succ, List.set_cons_zero])) | ((with_reducible apply quiet_ld1 (fun _ h => h.1)); rfl; rfl; (first | exact otInt | exact otU64 | exact otU64s | exact otPt | exact otPs | exact otPb | exact otIs | exact otVs); rfl; rfl; go_big_quiet_on; (simp only [Act.put, List.setIfInBounds_toArray, List.set_cons_succ, List.set_cons_zero])) | ((with_reducible apply quiet_lds (fun _ h => h.1) rfl); rfl; rfl; (first | exact rtRoot | exact rtCk | exact rtTb | exact rtCf | exact rtVotes); rfl; (try simp only [Nat.reduceAdd, List.drop_zero, cut_cp, cut_tb, cut_tb_c, cut_cf]); go_big_quiet_on; (simp only [Act.put, List.setIfInBounds_toArray, List.set_cons_succ, List.set_cons_zero])) | ((with_reducible apply quiet_ldp (fun _ h => h.2) (lenR y)); rfl; rfl; (first | exact rtRoot | exact rtCk | exact rtTb | exact rtCf | exact rtVotes); rfl; rfl; go_big_quiet_on; (simp only [Act.put, List.setIfInBounds_toArray, List.set_cons_succ, List.set_cons_zero])) | ((with_reducible apply quiet_ld1 (fun _ h => h.2)); rfl; rfl; (first | exact otInt | exact otU64 | exact otU64s | exact otPt | exact otPs | exact otPb | exact otIs | exact otVs); rfl; rfl; go_big_quiet_on; (simp only [Act.put, List.setIfInBounds_toArray, List.set_cons_succ, List.set_cons_zero])) | ((with_reducible apply quiet_lds (fun _ h => h.2) (lenR y)); rfl; rfl; (first | exact rtRoot | exact rtCk | exact rtTb | exact rtCf | exact rtVotes); rfl; (try simp only [Nat.reduceAdd, List.drop_zero, cut_cp, cut_tb, cut_tb_c, cut_cf]); go_big_quiet_on; (simp only [Act.put, List.setIfInBounds_toArray, List.set_cons_succ, List.set_cons_zero]))) | (go_big_quiet_op; first | go_big_quiet_on | ((with_reducible refine ⟨_, fun _ _ => rfl, ?_⟩); go_big_quiet_on))))))
      have M' := M.out.drew
      (clear M; have M := bx M'; clear M')
      refine mix_call5 (Vv.supporters_any y.l y.len _ X1.out.hv HN.out) Try.func90 rfl rfl _ _ rfl rfl rfl ?_
      rintro e w2 ⟨v, rfl, ho, hb⟩
      have X2 := bx (X1.out.below hb)
      have M' := M.out.rowNew hb ho
      (clear M; have M := bx M'; clear M')
      obtain ⟨A2, c2, rfl⟩ := own_slice ho
      clear ho hb
      have LS : Bx ((supI vs y.l vs.length).length ≤ 1024) := ⟨Nat.le_trans (supI_len _ _ _) HN.out⟩
      obtain ⟨Γ3, _, hs3, hl3, hM3⟩ := M.out.frz
      have SS := bx hs3
      have L3 := bx (LE.out.trans hl3)
      clear M
      have M := bx hM3
      clear hM3 hl3 hs3
      refine ⟨_, rfl, ⟨X2.out.hl, M.out.at0⟩, ?_⟩
      simp only [Act.put, List.setIfInBounds_toArray, List.set_cons_succ, List.set_cons_zero]
      (repeat (first | (with_reducible refine wpQuiet_nil ?_) | (first | go_big_quiet_skip | (go_big_quiet_want; first | (first | fail) | (go_big_quiet_op; first | go_big_quiet_on | ((with_reducible refine ⟨_, fun _ _ => rfl, ?_⟩); go_big_quiet_on))))))
      obtain ⟨S, hS⟩ : ∃ S, supI vs y.l vs.length = S := ⟨_, rfl⟩
      rw [hS] at SS LS ⊢
      have ES := bx hS
      clear hS
      refine NoPanic.normal ?_
      go_wp2_with fail
      go_loopw [7, 26] (fun sv i wr => ∃ (j : Nat) (s' : Int), j ≤ S.length ∧ i = .int .i64 j ∧ sv = .int .u64 s' ∧ wOne gs (T.map oldT) (oldC c) S s = wOne gs (T.map oldT) (oldC c) (S.drop j) s' ∧ MM g0 w Γ3 wr [⟨g9, [rc y], [32]⟩, ⟨g4, cpP c, [1, 32]⟩] []) (fun _ i _ => S.length - (intOf i).toNat)
      case atStart => exact ⟨0, s, Nat.zero_le _, rfl, rfl, rfl, M.out⟩
      case round =>
        obtain ⟨j, s', hj, rfl, rfl, hrun2, hM⟩ := hrel
        clear M
        have M := bx hM
        have RUN2 := bx hrun2
        clear hM hrun2
        have hj5 : j ≤ 65535 := by have := LS.out; omega
        by_cases hjn : j < S.length
        · have hu : (ints .i64 S)[j]? = some (.int .i64 S[j]) := by unfold ints; rw [List.getElem?_map, List.getElem?_eq_getElem hjn]; rfl
          obtain ⟨ad, rfl, hb, hca⟩ := (SS.out.row (size := 1) (by rw [ints_len, Nat.mul_one]) M.out.ext.ok).at_ hu
          have hji : (j : Int) < (S.length : Int) := by omega
          have hj0 : (0 : Int) ≤ (j : Int) := by omega
          have HD2 := bx (List.drop_eq_getElem_cons hjn)
          clear hb hu
          generalize S[j] = z at *
          go_wp2_with (first | ((with_reducible apply wpList_ldp (X.out.below M.out.ext.bel).hl); rfl; rfl; rfl; (first | exact rtRoot | exact rtCk | exact rtTb | exact rtCf | exact rtVotes); rfl; rfl) | ((with_reducible apply wpList_ld1 (X.out.below M.out.ext.bel).hl); rfl; rfl; rfl; (first | exact otInt | exact otU64 | exact otU64s | exact otPt | exact otPs | exact otPb | exact otIs | exact otVs); rfl; rfl) | ((with_reducible apply wpList_lds (X.out.below M.out.ext.bel).hl); rfl; rfl; rfl; (first | exact rtRoot | exact rtCk | exact rtTb | exact rtCf | exact rtVotes); rfl; (try simp only [Nat.reduceAdd, List.drop_zero, cut_cp, cut_tb, cut_tb_c, cut_cf])))
          refine (guilty_any z _ (X.out.below M.out.ext.bel).hs).mono ?_; rintro e w3 ⟨rfl, hb3⟩
          have M' := M.out.below hb3
          (clear M; have M := bx M'; clear M')
          clear hb3 hca
          cases hg : gAt gs z with
          | true =>
            have HG := bx hg
            clear hg
            go_wp2_with fail
            go_roundw
            case rel => exact ⟨j + 1, s', by omega, by go_num, rfl, by rw [RUN2.out, HD2.out, wOne, if_pos HG.out], M.out⟩
            case measure => simp [intOf]; omega
          | false =>
            have HG := bx hg
            clear hg
            have X3 := bx ((X.out.below M.out.ext.bel).drew)
            go_wp2_with fail
            refine wp_region_mix7 (fun w' => (HL w' r (rgP v1 s1 B) [1, 1, 1] ∧ HL w' g4 (cpP c) [1, 32])) (.steps [(1, 0), (1, 1), (1, 2), (1, 3), (0, 4), (0, 5), (1, 6), (2, 7), (1, 8), (1, 9)] .leaf) (by kernel_rfl) (by kernel_rfl) ⟨X3.out.hl, M.out.drew.at1⟩ ?_; (simp only [MixT7, MT.steps, stepI, List.getD_cons_zero, List.getD_cons_succ])
            simp only [Act.put, List.setIfInBounds_toArray, List.set_cons_succ, List.set_cons_zero]
            (repeat (first | (with_reducible refine wpQuiet_nil ?_) | (first | go_big_quiet_skip | (go_big_quiet_want; first | (first | ((with_reducible apply quiet_ldp (fun _ h => h.1) rfl); rfl; rfl; (first | exact rtRoot | exact rtCk | exact rtTb | exact rtCf | exact rtVotes); rfl; rfl; go_big_quiet_on; (simp only [Act.put, List.setIfInBounds_toArray, List.set_cons_succ, List.set_cons_zero])) | ((with_reducible apply quiet_ld1 (fun _ h => h.1)); rfl; rfl; (first | exact otInt | exact otU64 | exact otU64s | exact otPt | exact otPs | exact otPb | exact otIs | exact otVs); rfl; rfl; go_big_quiet_on; (simp only [Act.put, List.setIfInBounds_toArray, List.set_cons_succ, List.set_cons_zero])) | ((with_reducible apply quiet_lds (fun _ h => h.1) rfl); rfl; rfl; (first | exact rtRoot | exact rtCk | exact rtTb | exact rtCf | exact rtVotes); rfl; (try simp only [Nat.reduceAdd, List.drop_zero, cut_cp, cut_tb, cut_tb_c, cut_cf]); go_big_quiet_on; (simp only [Act.put, List.setIfInBounds_toArray, List.set_cons_succ, List.set_cons_zero])) | ((with_reducible apply quiet_ldp (fun _ h => h.2) (cpP_len c)); rfl; rfl; (first | exact rtRoot | exact rtCk | exact rtTb | exact rtCf | exact rtVotes); rfl; rfl; go_big_quiet_on; (simp only [Act.put, List.setIfInBounds_toArray, List.set_cons_succ, List.set_cons_zero])) | ((with_reducible apply quiet_ld1 (fun _ h => h.2)); rfl; rfl; (first | exact otInt | exact otU64 | exact otU64s | exact otPt | exact otPs | exact otPb | exact otIs | exact otVs); rfl; rfl; go_big_quiet_on; (simp only [Act.put, List.setIfInBounds_toArray, List.set_cons_succ, List.set_cons_zero])) | ((with_reducible apply quiet_lds (fun _ h => h.2) (cpP_len c)); rfl; rfl; (first | exact rtRoot | exact rtCk | exact rtTb | exact rtCf | exact rtVotes); rfl; (try simp only [Nat.reduceAdd, List.drop_zero, cut_cp, cut_tb, cut_tb_c, cut_cf]); go_big_quiet_on; (simp only [Act.put, List.setIfInBounds_toArray, List.set_cons_succ, List.set_cons_zero]))) | (go_big_quiet_op; first | go_big_quiet_on | ((with_reducible refine ⟨_, fun _ _ => rfl, ?_⟩); go_big_quiet_on))))))
            have M' := M.out.drew
            (clear M; have M := bx M'; clear M')
            refine mix_call5 (BA.out _ z X3.out.hk) Try.func44 rfl rfl _ _ rfl rfl rfl ?_
            rintro e w4 ⟨rfl, hb4⟩
            have X4 := bx (X3.out.below hb4)
            have M' := M.out.below hb4
            (clear M; have M := bx M'; clear M')
            clear hb4
            refine ⟨_, rfl, ⟨X4.out.hl, M.out.at1⟩, ?_⟩
            simp only [Act.put, List.setIfInBounds_toArray, List.set_cons_succ, List.set_cons_zero]
            (repeat (first | (with_reducible refine wpQuiet_nil ?_) | (first | go_big_quiet_skip | (go_big_quiet_want; first | (first | fail) | (go_big_quiet_op; first | go_big_quiet_on | ((with_reducible refine ⟨_, fun _ _ => rfl, ?_⟩); go_big_quiet_on))))))
            refine NoPanic.normal ?_
            go_wp2_with fail
            go_roundw
            case rel => exact ⟨j + 1, _, by omega, by go_num, rfl, by rw [RUN2.out, HD2.out, wOne, if_neg (by rw [HG.out]; decide)], M.out⟩
            case measure => simp [intOf]; omega
        · obtain rfl : j = S.length := by omega
          go_wp2_with fail
          go_roundw
          case rel => exact ⟨k + 1, s', Γ3, by omega, by go_num, rfl, by rw [RUN.out, HD.out, wAll, ES.out, RUN2.out, List.drop_eq_nil_of_le (Nat.le_refl _)]; rfl, L3.out, M.out.tail⟩
          case measure => simp [intOf]; omega
    · obtain rfl : k = U.length := by omega
      go_wp2_with fail
      go_ret
      exact ⟨by rw [EU.out, RUN.out, List.drop_eq_nil_of_le (Nat.le_refl _)]; rfl, M.out.ext.bel⟩
def rt1 : Rt := ⟨rootL 1, by decide, by decide +kernel⟩
def rt2 : Rt := ⟨rootL 2, by decide, by decide +kernel⟩
def u7 : U := ⟨7, by decide⟩
def wdZ : Wd := ⟨[0, 0, 0, 0], rfl, by decide⟩
def cA : Cf := ⟨0, 0, 0, 2, 0, u0, u0, u0, wdZ, rt1⟩
def ckA : Cp := ⟨u0, rt1⟩
def tA : Tbl := ⟨ckA, [u5, u7]⟩
def lmA : List Value := [.int .i64 0, .int .i64 0, .int .i64 0, .int .i64 2, .int .i64 0, .int .u64 0]
theorem built_lmA : Try.prog.built 55 [(3, .int .i64 2)] = some lmA.toArray := by kernel_rfl
theorem built_cfA (A : Option Addr) : Try.prog.built 59 [(0, .agg lmA.toArray), (4, .agg (rc rt1).toArray), (5, .slice A 2 2)] = some (fl (cfP cA ⟨A, 2, 2⟩)).toArray := by kernel_rfl
theorem bs_57 : Try.prog.builtSlice 30 2 [(0, .int .u64 5), (1, .int .u64 7)] = some (fl [us [u5, u7]]).toArray := by kernel_rfl
theorem bs_01 : Try.prog.builtSlice 3 2 [(0, .int .i64 0), (1, .int .i64 1)] = some (fl [ints .i64 [0, 1]]).toArray := by kernel_rfl
theorem bs_0 : Try.prog.builtSlice 3 1 [(0, .int .i64 0)] = some (fl [ints .i64 [0]]).toArray := by kernel_rfl
theorem bs_rr : Try.prog.builtSlice 33 2 [(0, .agg (rc rt2).toArray), (1, .agg (rc rt2).toArray)] = some (fl [rc rt2, rc rt2]).toArray := by kernel_rfl
theorem bs_r : Try.prog.builtSlice 33 1 [(0, .agg (rc rt2).toArray)] = some (fl [rc rt2]).toArray := by kernel_rfl
theorem aw_nw : nwE 2 [u5, u7] = 0 := by decide
theorem aw_u2 : rsU [rt2, rt2] = [rt2] := (rsU_uniq (a := [rt2]) (List.pairwise_singleton _ _) (fun y => by simp)).symm
theorem aw_u1 : rsU [rt2] = [rt2] := (rsU_uniq (a := [rt2]) (List.pairwise_singleton _ _) (fun y => by simp)).symm
def vsA : List Vt := [(true, 1, rootL 2), (true, 1, rootL 2)]
theorem aw_cast : Vv.castV 1 rt2.l (List.replicate 2 zv) [0, 1] = vsA ∧ Vv.vErr [0, 1] 2 = 0 := by decide +kernel
theorem aw_pun : punV [false, false] [0] = [true, false] ∧ Vv.vErr [0] 2 = 0 := by decide +kernel
theorem aw_w12 : wAll vsA [false, false] ([tA].map oldT) (oldC ckA) [rt2] 0 = 12 := by decide +kernel
theorem aw_w7 : wAll vsA [true, false] ([tA].map oldT) (oldC ckA) [rt2] 0 = 7 := by decide +kernel
theorem aw_bal : (bal ([tA].map oldT) (oldC ckA)).length ≤ 65535 := by decide +kernel
theorem MM.otherH {Γ0 Γ : Gam} {w0 w w' : World} {L : List Ent} (M : MM Γ0 w0 Γ w L []) {g : Nat} (hg : w.grownBy w' (some g)) (hlo : w0.heap.size ≤ g) (hΓ : Γ g = none) {cs : List Value} (hh : Has w g cs) {k : Nat} (hk : cs.length = k) (hne : ∀ p ∈ L, p.ls.sum ≠ k) : MM Γ0 w0 Γ w' L [] :=
  M.other hg hlo hΓ (fun p hp e => hne p hp (by have := M.has p hp; rw [e] at this; rw [← fl_len (M.len p hp), this.inj hh, hk])) (fun r hr => by cases hr)
section
variable {Pg : Program} {w : World} {op : Oper} {a : Act}
theorem run_bsF {t e : TypeId} (hu : Pg.underlying t = some (.slice e)) (ps : List (Nat × Value)) (P : List (List Value)) {n : Nat} {parts : Array (Nat × Operand)} (ho : op.op = .buildSlice t n parts)
    (hps : parts.toList.map (fun x => (x.1, a.eval x.2)) = ps) (hf : Pg.builtSlice e n ps = some (fl P).toArray) : (execOp a.eval op).run Pg w = .ok (.value (.slice (some ⟨w.heap.size, 0, none⟩) n n)) (w.alloc (.cells (fl P).toArray e)) := by
  have e1 : (parts.map fun (i, x) => (i, a.eval x)) = ps.toArray := Array.ext' (by rw [Array.toList_map]; exact hps)
  have hr := run_sliceTo (P := Pg) w t e n ps.toArray _ hu hf
  unfold execOp
  simp only [ho, e1, hr, Sem.run_bind, Result.andThen_ok]
  rfl
end
theorem wpList_bsG {Pg : Program} {ops : Array Oper} {rest : List Oper} {op : Oper} {a : Act} {w w0 : World} {Γ0 Γ : Gam} {L : List Ent} {R : List RowE} {Q : Exit → Act → World → Prop} (M : MM Γ0 w0 Γ w L R) {t e : TypeId} (hu : Pg.underlying t = some (.slice e)) (ps : List (Nat × Value)) (P : List (List Value)) {ls : List Nat} {n : Nat} {parts : Array (Nat × Operand)} (ho : op.op = .buildSlice t n parts) (hgd : Region.wanted op (yielded ops a.tmps) = true)
    (hps : parts.toList.map (fun x => (x.1, a.eval x.2)) = ps) (hf : Pg.builtSlice e n ps = some (fl P).toArray) (hl : P.map List.length = ls)
    (h : ∀ w' g, MM Γ0 w0 Γ w' (⟨g, P, ls⟩ :: L) R → (Below w.heap.size w w' ∧ g = w.heap.size) → wpList Pg ops Q rest (a.put op.dst (.slice (some ⟨g, 0, none⟩) n n)) w') : wpList Pg ops Q (op :: rest) a w :=
  wpList_go hgd fun K hK => by
    have hr := run_bsF (Pg := Pg) (w := w) hu ps P ho hps hf
    unfold Oper.wp
    rw [hr, Oper.upon_value]
    exact hK _ _ (h _ _ (M.alloc hl rfl e) ⟨ext_alloc _ _, rfl⟩)
theorem castA {w : World} {r v1 v2 s1 s2 B Mb : Nat} {gs : List Bool} {lim : Int} {T : List Tbl} (x : RegW w r v1 v2 s1 s2 B Mb (List.replicate 2 zv) gs lim T) {ga : Nat} (hh : HL w ga [ints .i64 [0, 1]] [2]) :
    Calls Try.prog 57 #[.pointer (some ⟨v1, 0, none⟩), .int .u64 1, .agg (rc rt2).toArray, .slice (some ⟨ga, 0, none⟩) 2 2] w fun e w' => (∃ n : Int, e = .returned (.tuple #[.int .i64 n, .int .i64 0])) ∧ RegW w' r v1 v2 s1 s2 B Mb vsA gs lim T ∧ w.grownBy w' (some v2) :=
  (Vv.cast_any 1 rt2.l rt2.len (some ⟨ga, 0, none⟩) 2 2 [0, 1] w x.hv (row_of_HL hh (m := 2) (size := 1) rfl) (fun ad e h => by
    injection e with e
    subst e
    have h' : ga = v2 := h
    subst h'
    have := congrArg List.length (hh.has.inj x.hv.2.1)
    simp [fl, ints, vc, zv, zroot] at this) (by decide)).mono fun e w' h => by
    obtain ⟨h1, h2, h3⟩ := h
    rw [aw_cast.1] at h2
    exact ⟨⟨_, h1.trans (by rw [show (List.replicate 2 zv).length = 2 from rfl]; rw [show ((2 : Nat) : Int) = 2 from rfl, aw_cast.2])⟩, x.cast h3 h2 rfl, h3⟩
theorem punA {w : World} {r v1 v2 s1 s2 B Mb : Nat} {vs : List Vt} {lim : Int} {T : List Tbl} (x : RegW w r v1 v2 s1 s2 B Mb vs [false, false] lim T) {ga : Nat} (hh : HL w ga [ints .i64 [0]] [1]) :
    Calls Try.prog 59 #[.pointer (some ⟨s1, 0, none⟩), .slice (some ⟨ga, 0, none⟩) 1 1] w fun e w' => (∃ n : Int, e = .returned (.tuple #[.int .i64 n, .int .i64 0])) ∧ RegW w' r v1 v2 s1 s2 B Mb vs [true, false] lim T ∧ w.grownBy w' (some s2) :=
  (punish_any (some ⟨ga, 0, none⟩) 1 1 [0] w x.hs (row_of_HL hh (m := 1) (size := 1) rfl) (fun ad e h => by
    injection e with e
    subst e
    have h' : ga = s2 := h
    subst h'
    have := congrArg List.length (hh.has.inj x.hs.2.1)
    simp [fl, ints, gsv, gc] at this) (by decide)).mono fun e w' h => by
    obtain ⟨h1, h2, h3⟩ := h
    rw [aw_pun.1] at h2
    exact ⟨⟨_, h1.trans (by rw [show (([false, false] : List Bool).length : Int) = 2 from rfl, aw_pun.2])⟩, x.punish h3 h2 rfl, h3⟩
theorem wgtA {w : World} {r v1 v2 s1 s2 B Mb : Nat} {gs : List Bool} {lim : Int} (x : RegW w r v1 v2 s1 s2 B Mb vsA gs lim [tA]) (n : Nat) (hn : n = 1 ∨ n = 2) {ga : Nat} {P : List (List Value)} {ls : List Nat} (hh : HL w ga P ls) (hP : fl P = (List.replicate n rt2).flatMap rc) (hl : ls.sum = n * 32) (v : Int) (hv : wAll vsA gs ([tA].map oldT) (oldC ckA) [rt2] 0 = v) :
    Calls Try.prog 58 #[.pointer (some ⟨r, 0, none⟩), .agg (fl (cpP ckA)).toArray, .slice (some ⟨ga, 0, none⟩) n n] w fun e w' => e = .returned (.int .u64 v) ∧ Below w.heap.size w w' := by
  have hu : rsU (List.replicate n rt2) = [rt2] := by
    rcases hn with rfl | rfl
    · exact aw_u1
    · exact aw_u2
  have h := weight_anyR x (by decide) ckA aw_bal (some ⟨ga, 0, none⟩) n n (List.replicate n rt2) (by omega) ⟨List.length_replicate, by rw [← hP]; exact row_of_HL hh (m := n) (size := 32) hl⟩ (by rw [hu]; decide)
  rw [hu, hv] at h
  exact h
theorem root_rt1 (w : World) : Calls Try.prog 56 #[.int .i64 1] w fun e w' => e = .returned (.agg (rc rt1).toArray) ∧ Below w.heap.size w w' := root_any 1 w
theorem root_rt2 (w : World) : Calls Try.prog 56 #[.int .i64 2] w fun e w' => e = .returned (.agg (rc rt2).toArray) ∧ Below w.heap.size w w' := root_any 2 w
theorem newA (A : Option Addr) (w : World) (hA : A = none → 2 = 0) (hr : Row w w.heap.size 1 A 2 (us [u5, u7])) : Calls Try.prog 25 #[.agg (fl (cfP cA ⟨A, 2, 2⟩)).toArray] w fun e w' =>
    (∃ r v1 v2 s1 s2 B Mb : Nat, e = .returned (.tuple #[.pointer (some ⟨r, 0, none⟩), .int .i64 0]) ∧ w.heap.size ≤ v2 ∧ w.heap.size ≤ s2 ∧ RegW w' r v1 v2 s1 s2 B Mb (List.replicate 2 zv) [false, false] 2 [tA]) ∧ Below w.heap.size w w' :=
  (new_anyR cA A 2 [u5, u7] (by decide) hA w hr).mono fun e w' ⟨h, hb⟩ => by
    rcases h with ⟨h, _⟩ | ⟨_, _, r, g, h, s, q, B, Mb, e, _, _, h1, h2, h3⟩
    · exact absurd aw_nw h
    · exact ⟨⟨r, g, h, s, q, B, Mb, e, h1, h2, h3⟩, hb⟩
set_option maxRecDepth 20000 in
set_option maxHeartbeats 1000000 in
theorem awake10_any (w : World) : Calls Try.prog 23 #[] w fun e w' => e = .returned (.bool true) ∧ Below w.heap.size w w' := by
  have M := bx (MM.start (ok_g0 w))
  have BL := bx built_lmA
  have BC := bx built_cfA
  have BS := bx bs_57
  have BI := bx bs_01
  have BI0 := bx bs_0
  have BR2 := bx bs_rr
  have BR1 := bx bs_r
  have NW := bx newA
  have CA := bx (fun {w} {r} {v1} {v2} {s1} {s2} {B} {Mb} {gs} {lim} {T} => @castA w r v1 v2 s1 s2 B Mb gs lim T)
  have WA := bx (fun {w} {r} {v1} {v2} {s1} {s2} {B} {Mb} {gs} {lim} => @wgtA w r v1 v2 s1 s2 B Mb gs lim)
  have PA := bx (fun {w} {r} {v1} {v2} {s1} {s2} {B} {Mb} {vs} {lim} {T} => @punA w r v1 v2 s1 s2 B Mb vs lim T)
  have HW12 := bx aw_w12
  have HW7 := bx aw_w7
  have HRP2 : Bx (fl [rc rt2, rc rt2] = (List.replicate 2 rt2).flatMap rc) := ⟨by simp [fl, List.replicate]⟩
  have HRP1 : Bx (fl [rc rt2] = (List.replicate 1 rt2).flatMap rc) := ⟨by simp [fl, List.replicate]⟩
  have R1 := bx root_rt1
  have R2 := bx root_rt2
  have BG := bx (show Try.prog.built 35 [(1, .agg (rc rt1).toArray)] = some (fl (cpP ckA)).toArray from built_cpG rt1)
  generalize cA = ca at *
  generalize ckA = ck at *
  generalize tA = ta at *
  generalize vsA = va at *
  generalize rt1 = r1 at *
  generalize rt2 = r2 at *
  go_enter Try.func23, Try.ntmps23
  go_wp2_with (first | ((with_reducible refine wpList_buildTo rfl 55 _ rfl [(3, .int .i64 2)] lmA ?_ BL.out ?_); rfl))
  refine (R1.out _).mono ?_; rintro e w1 ⟨rfl, hb⟩
  have M' := M.out.below hb
  (clear M; have M := bx M'; clear M')
  clear hb
  go_wp2_with (first | ((with_reducible apply wpList_bsF M.out Try.underlying36 [(0, .int .u64 5), (1, .int .u64 7)] [us [u5, u7]]); rfl; rfl; rfl; exact BS.out; rfl; intro w' g M' hb'; (clear M; have M := bx M'; clear M'); clear hb') | ((with_reducible refine wpList_buildTo rfl 59 _ rfl [(0, .agg lmA.toArray), (4, .agg (rc r1).toArray), (5, .slice (some ⟨g, 0, none⟩) 2 2)] (fl (cfP ca ⟨some ⟨g, 0, none⟩, 2, 2⟩)) ?_ (BC.out _) ?_); rfl))
  obtain ⟨gb, hgb⟩ : ∃ x, x = g := ⟨_, rfl⟩
  subst hgb
  refine (NW.out (some ⟨gb, 0, none⟩) _ (fun h => by cases h) (row_of_HL M.out.at0 (m := 2) (size := 1) rfl)).mono ?_; rintro e w2 ⟨⟨r, v1, v2, s1, s2, B, Mb, rfl, hv2, hs2, hx⟩, hb⟩
  have HV2 : Bx (w.heap.size ≤ v2) := ⟨Nat.le_trans M.out.ext.bel.size hv2⟩
  have HS2 : Bx (w.heap.size ≤ s2) := ⟨Nat.le_trans M.out.ext.bel.size hs2⟩
  have X := bx hx
  have M' := (M.out.below hb).tail
  (clear M; have M := bx M'; clear M')
  clear hb hv2 hs2 hx
  go_wp2_with fail
  refine (ready_anyR X.out).mono ?_; rintro e w3 ⟨rfl, hb⟩
  have X' := X.out.below hb
  clear X
  have X := bx X'
  have M' := M.out.below hb
  (clear M; have M := bx M'; clear M')
  clear hb X'
  go_wp2_with fail
  refine (R1.out _).mono ?_; rintro e w4 ⟨rfl, hb⟩
  have X' := X.out.below hb
  clear X
  have X := bx X'
  have M' := M.out.below hb
  (clear M; have M := bx M'; clear M')
  clear hb X'
  go_wp2_with (first | ((with_reducible refine wpList_buildTo rfl 35 _ rfl [(1, .agg (rc r1).toArray)] (fl (cpP ck)) ?_ BG.out ?_); rfl))
  refine (R2.out _).mono ?_; rintro e w5 ⟨rfl, hb⟩
  have X' := X.out.below hb
  clear X
  have X := bx X'
  have BO := bx (M.out.below hb).ext.bel
  clear M
  have M := bx (MM.start (ok_g0 w5))
  clear hb X'
  go_upto_region 5 with (first | (((with_reducible apply wpList_alc M.out); rfl; rfl; exact ztCk; intro w' g M' hb'; (clear M; have M := bx M'; clear M'); clear hb'); (obtain ⟨g3, h⟩ : ∃ y, y = g := ⟨_, rfl⟩); subst h) | (((with_reducible apply wpList_alc M.out); rfl; rfl; exact ztRt; intro w' g M' hb'; (clear M; have M := bx M'; clear M'); clear hb'); (obtain ⟨g4, h⟩ : ∃ y, y = g := ⟨_, rfl⟩); subst h) | ((with_reducible apply wpList_sts M.out 1 (cpP ck) (cpP ck)); rfl; rfl; rfl; rfl; rfl; (first | exact rtRoot | exact rtCk | exact rtTb | exact rtCf | exact rtVotes); rfl; exact cpP_len _; exact cp_one _; rfl; intro w' M' hg'; (simp only [List.set_cons_zero, List.set_cons_succ] at M'); (clear M; have M := bx M'; clear M'); clear hg') | ((with_reducible apply wpList_sts M.out 0 [rc r2] [rc r2]); rfl; rfl; rfl; rfl; rfl; (first | exact rtRoot | exact rtCk | exact rtTb | exact rtCf | exact rtVotes); rfl; exact lenR _; exact rc_one _; rfl; intro w' M' hg'; (simp only [List.set_cons_zero, List.set_cons_succ] at M'); (clear M; have M := bx M'; clear M'); clear hg'))
  have XL := bx X.out.hv.2.1.lt
  have XS := bx X.out.hs.2.1.lt
  have X1 := bx ((X.out.below M.out.ext.bel).drew)
  clear X
  refine wp_region_mix7 (fun w' => (HL w' r (rgP v1 s1 B) [1, 1, 1] ∧ HL w' g4 [rc r2] [32])) (.steps [(1, 0), (1, 1), (1, 2), (0, 3), (0, 4), (2, 5), (2, 6), (1, 7), (1, 8), (1, 9), (1, 10), (1, 11)] .leaf) (by kernel_rfl) (by kernel_rfl) ⟨X1.out.hl, M.out.drew.at0⟩ ?_; (simp only [MixT7, MT.steps, stepI, List.getD_cons_zero, List.getD_cons_succ])
  simp only [Act.put, List.setIfInBounds_toArray, List.set_cons_succ, List.set_cons_zero]
  (repeat (first | (with_reducible refine wpQuiet_nil ?_) | (first | go_big_quiet_skip | (go_big_quiet_want; first | (first | ((with_reducible apply quiet_ldp (fun _ h => h.1) rfl); rfl; rfl; (first | exact rtRoot | exact rtCk | exact rtTb | exact rtCf | exact rtVotes); rfl; rfl; go_big_quiet_on; (simp only [Act.put, List.setIfInBounds_toArray, List.set_cons_succ, List.set_cons_zero])) | ((with_reducible apply quiet_ld1 (fun _ h => h.1)); rfl; rfl; (first | exact otInt | exact otU64 | exact otU64s | exact otPt | exact otPs | exact otPb | exact otIs | exact otVs); rfl; rfl; go_big_quiet_on; (simp only [Act.put, List.setIfInBounds_toArray, List.set_cons_succ, List.set_cons_zero])) | ((with_reducible apply quiet_lds (fun _ h => h.1) rfl); rfl; rfl; (first | exact rtRoot | exact rtCk | exact rtTb | exact rtCf | exact rtVotes); rfl; (try simp only [Nat.reduceAdd, List.drop_zero, cut_cp, cut_tb, cut_tb_c, cut_cf]); go_big_quiet_on; (simp only [Act.put, List.setIfInBounds_toArray, List.set_cons_succ, List.set_cons_zero])) | ((with_reducible apply quiet_ldp (fun _ h => h.2) (lenR r2)); rfl; rfl; (first | exact rtRoot | exact rtCk | exact rtTb | exact rtCf | exact rtVotes); rfl; rfl; go_big_quiet_on; (simp only [Act.put, List.setIfInBounds_toArray, List.set_cons_succ, List.set_cons_zero])) | ((with_reducible apply quiet_ld1 (fun _ h => h.2)); rfl; rfl; (first | exact otInt | exact otU64 | exact otU64s | exact otPt | exact otPs | exact otPb | exact otIs | exact otVs); rfl; rfl; go_big_quiet_on; (simp only [Act.put, List.setIfInBounds_toArray, List.set_cons_succ, List.set_cons_zero])) | ((with_reducible apply quiet_lds (fun _ h => h.2) (lenR r2)); rfl; rfl; (first | exact rtRoot | exact rtCk | exact rtTb | exact rtCf | exact rtVotes); rfl; (try simp only [Nat.reduceAdd, List.drop_zero, cut_cp, cut_tb, cut_tb_c, cut_cf]); go_big_quiet_on; (simp only [Act.put, List.setIfInBounds_toArray, List.set_cons_succ, List.set_cons_zero]))) | (go_big_quiet_op; first | go_big_quiet_on | ((with_reducible refine ⟨_, fun _ _ => rfl, ?_⟩); go_big_quiet_on))))))
  have M' := M.out.drew
  (clear M; have M := bx M'; clear M')
  refine mix_run5 (run_bsF Try.underlying22 [(0, .int .i64 0), (1, .int .i64 1)] [ints .i64 [0, 1]] rfl rfl BI.out) rfl ?_
  have M' := M.out.alloc (P := [ints .i64 [0, 1]]) (ls := [2]) rfl rfl 3
  have X' := X1.out.below (ext_alloc _ (.cells (fl [ints .i64 [0, 1]]).toArray 3))
  clear X1
  have X := bx X'
  (clear M; have M := bx M'; clear M')
  clear X'
  refine ⟨⟨X.out.hl, M.out.at1⟩, ?_⟩
  simp only [Act.put, List.setIfInBounds_toArray, List.set_cons_succ, List.set_cons_zero]
  refine mix_call5 (CA.out X.out M.out.at0) Try.func57 rfl rfl _ _ rfl rfl rfl ?_
  rintro e w6 ⟨⟨n1, rfl⟩, hx, hg⟩
  have LO4 : w5.heap.size ≤ g4 := M.out.lo ⟨g4, [rc r2], [32]⟩ (by simp)
  have LO3 : w5.heap.size ≤ g3 := M.out.lo ⟨g3, cpP ck, [1, 32]⟩ (by simp)
  have N34 : g4 ≠ g3 := by
    have := M.out.tail.nd
    simp only [List.pairwise_cons, List.mem_cons, forall_eq_or_imp] at this
    exact this.1.1
  have hxl := XL.out
  have hxs := XS.out
  have H4 : HL w6 g4 [rc r2] [32] := ⟨M.out.at1.has.grown hg (ne_som (by omega)), lenR r2⟩
  have H3 : HL w6 g3 (cpP ck) [1, 32] := ⟨M.out.at2.has.grown hg (ne_som (by omega)), cpP_len ck⟩
  have B6 := (BO.out.trans (M.out.ext.bel.mono BO.out.size)).grown hg (Nat.le_trans BO.out.size M.out.ext.bel.size) (fun k hk => by cases hk; exact HV2.out)
  obtain ⟨Γ6, ok6, F3', F4', hs6⟩ : ∃ Γ6 : Gam, Ok Γ6 w6 ∧ Fz Γ6 g3 0 (cpP ck) [1, 32] ∧ Fz Γ6 g4 0 [rc r2] [32] ∧ Γ6 s2 = none := by
    refine ⟨fun k => if k = g4 then some (rc r2) else if k = g3 then some (fl (cpP ck)) else none, ?_, ?_, ?_, ?_⟩
    · intro k cs h
      simp only at h
      split at h
      · next e => injection h with h; subst e h; exact ⟨[], by rw [List.append_nil]; exact H4.has⟩
      · split at h
        · next e => injection h with h; subst e h; exact ⟨[], by rw [List.append_nil]; exact H3.has⟩
        · cases h
    · exact ⟨⟨fl (cpP ck), by simp only; rw [if_neg (fun e => N34 e.symm)]; simp, fun j u h => by rw [Nat.zero_add]; exact h⟩, cpP_len ck⟩
    · exact ⟨⟨rc r2, by simp, fun j u h => by rw [Nat.zero_add]; exact h⟩, lenR r2⟩
    · simp only; rw [if_neg (by omega), if_neg (by omega)]
  have F3 := bx F3'
  have F4 := bx F4'
  have HS6 := bx hs6
  have OK := bx ok6
  clear BO
  have BO := bx B6
  clear M X
  have X := bx hx
  have HC := bx H4
  clear hx hg H3 H4 B6 F3' F4' ok6 hs6 N34 LO3 LO4 hxl hxs XL XS
  refine ⟨_, rfl, ⟨X.out.hl, HC.out⟩, ?_⟩
  simp only [Act.put, List.setIfInBounds_toArray, List.set_cons_succ, List.set_cons_zero]
  (repeat (first | (with_reducible refine wpQuiet_nil ?_) | (first | go_big_quiet_skip | (go_big_quiet_want; first | (first | fail) | (go_big_quiet_op; first | go_big_quiet_on | ((with_reducible refine ⟨_, fun _ _ => rfl, ?_⟩); go_big_quiet_on))))))
  refine NoPanic.normal ?_
  have M := bx (MM.start OK.out)
  go_wp2_with (first | ((with_reducible apply wpList_rdp (F3.out.cl M.out.ext.ok)); rfl; rfl; rfl; (first | exact rtRoot | exact rtCk | exact rtTb | exact rtCf | exact rtVotes); rfl; rfl) | ((with_reducible apply wpList_rd1 (F3.out.cl M.out.ext.ok)); rfl; rfl; rfl; (first | exact otInt | exact otU64 | exact otU64s | exact otPt | exact otPs | exact otPb | exact otIs | exact otVs); rfl; rfl) | ((with_reducible apply wpList_rds (F3.out.cl M.out.ext.ok)); rfl; rfl; rfl; (first | exact rtRoot | exact rtCk | exact rtTb | exact rtCf | exact rtVotes); rfl; (try simp only [Nat.reduceAdd, List.drop_zero, cut_cp, cut_tb, cut_tb_c, cut_cf])) | ((with_reducible apply wpList_rdp0 (F3.out.cl M.out.ext.ok)); rfl; rfl; rfl; (first | exact rtRoot | exact rtCk | exact rtTb | exact rtCf | exact rtVotes); rfl; rfl) | ((with_reducible apply wpList_rd10 (F3.out.cl M.out.ext.ok)); rfl; rfl; rfl; (first | exact otInt | exact otU64 | exact otU64s | exact otPt | exact otPs | exact otPb | exact otIs | exact otVs); rfl; rfl) | ((with_reducible apply wpList_rds0 (F3.out.cl M.out.ext.ok)); rfl; rfl; rfl; (first | exact rtRoot | exact rtCk | exact rtTb | exact rtCf | exact rtVotes); rfl; (try simp only [Nat.reduceAdd, List.drop_zero, cut_cp, cut_tb, cut_tb_c, cut_cf])) | ((with_reducible apply wpList_rdp (F4.out.cl M.out.ext.ok)); rfl; rfl; rfl; (first | exact rtRoot | exact rtCk | exact rtTb | exact rtCf | exact rtVotes); rfl; rfl) | ((with_reducible apply wpList_rd1 (F4.out.cl M.out.ext.ok)); rfl; rfl; rfl; (first | exact otInt | exact otU64 | exact otU64s | exact otPt | exact otPs | exact otPb | exact otIs | exact otVs); rfl; rfl) | ((with_reducible apply wpList_rds (F4.out.cl M.out.ext.ok)); rfl; rfl; rfl; (first | exact rtRoot | exact rtCk | exact rtTb | exact rtCf | exact rtVotes); rfl; (try simp only [Nat.reduceAdd, List.drop_zero, cut_cp, cut_tb, cut_tb_c, cut_cf])) | ((with_reducible apply wpList_rdp0 (F4.out.cl M.out.ext.ok)); rfl; rfl; rfl; (first | exact rtRoot | exact rtCk | exact rtTb | exact rtCf | exact rtVotes); rfl; rfl) | ((with_reducible apply wpList_rd10 (F4.out.cl M.out.ext.ok)); rfl; rfl; rfl; (first | exact otInt | exact otU64 | exact otU64s | exact otPt | exact otPs | exact otPb | exact otIs | exact otVs); rfl; rfl) | ((with_reducible apply wpList_rds0 (F4.out.cl M.out.ext.ok)); rfl; rfl; rfl; (first | exact rtRoot | exact rtCk | exact rtTb | exact rtCf | exact rtVotes); rfl; (try simp only [Nat.reduceAdd, List.drop_zero, cut_cp, cut_tb, cut_tb_c, cut_cf])) | (((with_reducible apply wpList_bsF M.out Try.underlying46 [(0, .agg (rc r2).toArray), (1, .agg (rc r2).toArray)] [rc r2, rc r2]); rfl; rfl; rfl; exact BR2.out; rfl; intro w' g M' hb'; (clear M; have M := bx M'; clear M'); clear hb')))
  refine (WA.out (X.out.below M.out.ext.bel) 2 (.inr rfl) M.out.at0 HRP2.out (by simp [rc_len]) 12 HW12.out).mono ?_; rintro e w7 ⟨rfl, hb⟩
  have M' := (M.out.below hb).tail
  (clear M; have M := bx M'; clear M')
  clear hb
  go_wp2_with (first | ((with_reducible apply wpList_ldp (X.out.below M.out.ext.bel).hl); rfl; rfl; rfl; (first | exact rtRoot | exact rtCk | exact rtTb | exact rtCf | exact rtVotes); rfl; rfl) | ((with_reducible apply wpList_ld1 (X.out.below M.out.ext.bel).hl); rfl; rfl; rfl; (first | exact otInt | exact otU64 | exact otU64s | exact otPt | exact otPs | exact otPb | exact otIs | exact otVs); rfl; rfl) | ((with_reducible apply wpList_lds (X.out.below M.out.ext.bel).hl); rfl; rfl; rfl; (first | exact rtRoot | exact rtCk | exact rtTb | exact rtCf | exact rtVotes); rfl; (try simp only [Nat.reduceAdd, List.drop_zero, cut_cp, cut_tb, cut_tb_c, cut_cf])) | (((with_reducible apply wpList_bsF M.out Try.underlying22 [(0, .int .i64 0)] [ints .i64 [0]]); rfl; rfl; rfl; exact BI0.out; rfl; intro w' g M' hb'; (clear M; have M := bx M'; clear M'); clear hb')))
  refine (PA.out (X.out.below M.out.ext.bel) M.out.at0).mono ?_; rintro e w8 ⟨⟨n2, rfl⟩, hx, hg⟩
  have ok8 := M.out.ext.ok.grown hg (fun k hk => by cases hk; exact HS6.out)
  have B8 := (BO.out.trans (M.out.ext.bel.mono BO.out.size)).grown hg (Nat.le_trans BO.out.size M.out.ext.bel.size) (fun k hk => by cases hk; exact HS2.out)
  clear BO M X
  have BO := bx B8
  have X := bx hx
  have M := bx (MM.start ok8)
  clear hx hg ok8 B8
  go_wp2_with (first | ((with_reducible apply wpList_rdp (F3.out.cl M.out.ext.ok)); rfl; rfl; rfl; (first | exact rtRoot | exact rtCk | exact rtTb | exact rtCf | exact rtVotes); rfl; rfl) | ((with_reducible apply wpList_rd1 (F3.out.cl M.out.ext.ok)); rfl; rfl; rfl; (first | exact otInt | exact otU64 | exact otU64s | exact otPt | exact otPs | exact otPb | exact otIs | exact otVs); rfl; rfl) | ((with_reducible apply wpList_rds (F3.out.cl M.out.ext.ok)); rfl; rfl; rfl; (first | exact rtRoot | exact rtCk | exact rtTb | exact rtCf | exact rtVotes); rfl; (try simp only [Nat.reduceAdd, List.drop_zero, cut_cp, cut_tb, cut_tb_c, cut_cf])) | ((with_reducible apply wpList_rdp0 (F3.out.cl M.out.ext.ok)); rfl; rfl; rfl; (first | exact rtRoot | exact rtCk | exact rtTb | exact rtCf | exact rtVotes); rfl; rfl) | ((with_reducible apply wpList_rd10 (F3.out.cl M.out.ext.ok)); rfl; rfl; rfl; (first | exact otInt | exact otU64 | exact otU64s | exact otPt | exact otPs | exact otPb | exact otIs | exact otVs); rfl; rfl) | ((with_reducible apply wpList_rds0 (F3.out.cl M.out.ext.ok)); rfl; rfl; rfl; (first | exact rtRoot | exact rtCk | exact rtTb | exact rtCf | exact rtVotes); rfl; (try simp only [Nat.reduceAdd, List.drop_zero, cut_cp, cut_tb, cut_tb_c, cut_cf])) | ((with_reducible apply wpList_rdp (F4.out.cl M.out.ext.ok)); rfl; rfl; rfl; (first | exact rtRoot | exact rtCk | exact rtTb | exact rtCf | exact rtVotes); rfl; rfl) | ((with_reducible apply wpList_rd1 (F4.out.cl M.out.ext.ok)); rfl; rfl; rfl; (first | exact otInt | exact otU64 | exact otU64s | exact otPt | exact otPs | exact otPb | exact otIs | exact otVs); rfl; rfl) | ((with_reducible apply wpList_rds (F4.out.cl M.out.ext.ok)); rfl; rfl; rfl; (first | exact rtRoot | exact rtCk | exact rtTb | exact rtCf | exact rtVotes); rfl; (try simp only [Nat.reduceAdd, List.drop_zero, cut_cp, cut_tb, cut_tb_c, cut_cf])) | ((with_reducible apply wpList_rdp0 (F4.out.cl M.out.ext.ok)); rfl; rfl; rfl; (first | exact rtRoot | exact rtCk | exact rtTb | exact rtCf | exact rtVotes); rfl; rfl) | ((with_reducible apply wpList_rd10 (F4.out.cl M.out.ext.ok)); rfl; rfl; rfl; (first | exact otInt | exact otU64 | exact otU64s | exact otPt | exact otPs | exact otPb | exact otIs | exact otVs); rfl; rfl) | ((with_reducible apply wpList_rds0 (F4.out.cl M.out.ext.ok)); rfl; rfl; rfl; (first | exact rtRoot | exact rtCk | exact rtTb | exact rtCf | exact rtVotes); rfl; (try simp only [Nat.reduceAdd, List.drop_zero, cut_cp, cut_tb, cut_tb_c, cut_cf])) | (((with_reducible apply wpList_bsG M.out Try.underlying46 [(0, .agg (rc r2).toArray)] [rc r2]); rfl; rfl; rfl; exact BR1.out; rfl; intro w' g M' hb'; (clear M; have M := bx M'; clear M'); clear hb')))
  refine (WA.out (X.out.below M.out.ext.bel) 1 (.inl rfl) M.out.at0 HRP1.out (by simp [rc_len]) 7 HW7.out).mono ?_; rintro e w9 ⟨rfl, hb⟩
  have M' := M.out.below hb
  (clear M; have M := bx M'; clear M')
  clear hb
  go_wp2_with fail
  go_ret
  exact ⟨rfl, BO.out.trans (M.out.ext.bel.mono BO.out.size)⟩
set_option maxRecDepth 20000 in
set_option maxHeartbeats 1000000 in
theorem sameTbR_any (Γ : Gam) (t : Tbl) (s : Value) (A' : Option Addr) (k' : Nat) (hb : t.b.length ≤ 65535) (w : World) (ok : Ok Γ w) (h : TbG Γ (t.c, s) t) (h' : Row w w.heap.size 1 A' t.b.length (us t.b)) :
    Calls Try.prog 79 #[.agg (fl (tbP t.c s)).toArray, .agg (fl (tbP t.c (.slice A' t.b.length k'))).toArray] w fun e w' => e = .returned (.bool true) ∧ Ext Γ w Γ w' := by
  have M := bx (MM.start ok)
  obtain ⟨A, k, hs, hA, hr⟩ := h.s
  simp only at hs
  subst hs
  have HR := bx hr
  have HR' := bx h'
  have HB := bx hb
  have HS := bx (cp_same t.c t.c)
  have hq := HS.out
  rw [decide_eq_true rfl] at hq
  clear h h' hA hr hb ok
  go_enter Try.func79, Try.ntmps79
  go_wp2_with (first | ((with_reducible apply wpList_box M.out); rfl; rfl; rfl; exact tbP_len _ _; intro w' g M' hb'; (clear M; have M := bx M'; clear M'); clear hb') | ((with_reducible apply wpList_ldp M.out.at0); rfl; rfl; rfl; (first | exact rtRoot | exact rtCk | exact rtTb | exact rtCf | exact rtVotes); rfl; rfl) | ((with_reducible apply wpList_ld1 M.out.at0); rfl; rfl; rfl; (first | exact otInt | exact otU64 | exact otU64s | exact otPt | exact otPs | exact otPb | exact otIs | exact otVs); rfl; rfl) | ((with_reducible apply wpList_lds M.out.at0); rfl; rfl; rfl; (first | exact rtRoot | exact rtCk | exact rtTb | exact rtCf | exact rtVotes); rfl; (try simp only [Nat.reduceAdd, List.drop_zero, cut_cp, cut_tb, cut_tb_c, cut_cf])) | ((with_reducible apply wpList_ldp M.out.at1); rfl; rfl; rfl; (first | exact rtRoot | exact rtCk | exact rtTb | exact rtCf | exact rtVotes); rfl; rfl) | ((with_reducible apply wpList_ld1 M.out.at1); rfl; rfl; rfl; (first | exact otInt | exact otU64 | exact otU64s | exact otPt | exact otPs | exact otPb | exact otIs | exact otVs); rfl; rfl) | ((with_reducible apply wpList_lds M.out.at1); rfl; rfl; rfl; (first | exact rtRoot | exact rtCk | exact rtTb | exact rtCf | exact rtVotes); rfl; (try simp only [Nat.reduceAdd, List.drop_zero, cut_cp, cut_tb, cut_tb_c, cut_cf])))
  refine (sameNumbers_any _ A A' t.b.length t.b.length k k' (t.b.map fun x => (x.n : Int)) (t.b.map fun x => (x.n : Int)) _ (Nat.le_refl _) ((us_ints t.b) ▸ HR.out.row (size := 1) (by rw [us_len, Nat.mul_one]) M.out.ext.ok) ((us_ints t.b) ▸ ((HR'.out.below M.out.ext.bel).more M.out.ext.bel.size)) (by have := HB.out; omega) (by have := HB.out; omega)).mono ?_; rintro e w1 ⟨rfl, hb1⟩
  have M' := M.out.below hb1
  (clear M; have M := bx M'; clear M')
  clear hb1
  go_wp2_with fail
  go_ret
  exact ⟨by simp, M.out.ext⟩
set_option maxRecDepth 20000 in
set_option maxHeartbeats 1000000 in
theorem sameOne_any (Γ : Gam) (t : Tbl) (A A3 A' : Option Addr) (c c3 k' : Nat) (hb : t.b.length ≤ 65535) (w : World) (ok : Ok Γ w) (h : TsG Γ A 1 [t]) (h3 : SlG Γ A3 1 (fl (tbP t.c (.slice A' t.b.length k')))) (h' : Row w w.heap.size 1 A' t.b.length (us t.b)) :
    Calls Try.prog 42 #[.slice A 1 c, .slice A3 1 c3] w fun e w' => e = .returned (.bool true) ∧ Ext Γ w Γ w' := by
  have M := bx (MM.start ok)
  have HT := bx h
  have HB := bx hb
  have HR := bx h'
  obtain ⟨g3, p3, rfl, hg3⟩ := h3 (by decide)
  have H3 : Bx (Chk Γ g3 0 (fl (tbP t.c (.slice A' t.b.length k')))) := ⟨⟨_, hg3, fun j u hu => by rw [Nat.zero_add, List.getElem?_append_left (List.getElem?_eq_some_iff.1 hu).1]; exact hu⟩⟩
  clear h ok hb h' h3 hg3
  go_enter Try.func42, Try.ntmps42
  go_wp2_with fail
  go_loopw [5] (fun i wr => ∃ k : Nat, k ≤ 1 ∧ i = .int .i64 k ∧ MM Γ w Γ wr [] []) (fun i _ => 1 - (intOf i).toNat)
  case atStart => exact ⟨0, Nat.zero_le _, rfl, M.out⟩
  case round =>
    obtain ⟨k, hk, rfl, hM⟩ := hrel
    clear M
    have M := bx hM
    clear hM
    by_cases hkn : k < 1
    · obtain rfl : k = 0 := by omega
      obtain ⟨g1, s1, rfl, hs1, hc1⟩ := HT.out.at 0 (by decide)
      have Q1 := bx (CL.cls hc1 (tbP_len _ _) M.out.ext.ok)
      have Q2 := bx (CL.cls H3.out (tbP_len _ _) M.out.ext.ok)
      have SM := bx (fun w1 (h1 : Cls wr.heap.size wr w1) => sameTbR_any Γ t s1 A' k' HB.out w1 (M.out.ext.ok.below h1.out) hs1 (((HR.out.below M.out.ext.bel).below (h1.out.mono M.out.ext.bel.size)).more (Nat.le_trans M.out.ext.bel.size h1.out.size)))
      clear hs1 hc1
      go_wp2_with fail
      refine region_cls wr.heap.size (by kernel_rfl) (by kernel_rfl) ?_
      repeat (first | go_big_quiet_skip | (go_big_quiet_want; first | (first | ((with_reducible apply quiet_rdp Q1.out (tbP_len _ _)); rfl; rfl; (first | exact rtRoot | exact rtCk | exact rtTb | exact rtCf | exact rtVotes); rfl; rfl; go_big_quiet_on; (simp only [Act.put, List.setIfInBounds_toArray, List.set_cons_succ, List.set_cons_zero])) | ((with_reducible apply quiet_rd1 Q1.out); rfl; rfl; (first | exact otInt | exact otU64 | exact otU64s | exact otPt | exact otPs | exact otPb | exact otIs | exact otVs); rfl; rfl; go_big_quiet_on; (simp only [Act.put, List.setIfInBounds_toArray, List.set_cons_succ, List.set_cons_zero])) | ((with_reducible apply quiet_rds Q1.out (tbP_len _ _)); rfl; rfl; (first | exact rtRoot | exact rtCk | exact rtTb | exact rtCf | exact rtVotes); rfl; (try simp only [Nat.reduceAdd, List.drop_zero, cut_cp, cut_tb, cut_tb_c, cut_cf]); go_big_quiet_on; (simp only [Act.put, List.setIfInBounds_toArray, List.set_cons_succ, List.set_cons_zero])) | ((with_reducible apply quiet_rdp0 Q1.out (tbP_len _ _)); rfl; rfl; (first | exact rtRoot | exact rtCk | exact rtTb | exact rtCf | exact rtVotes); rfl; rfl; go_big_quiet_on; (simp only [Act.put, List.setIfInBounds_toArray, List.set_cons_succ, List.set_cons_zero])) | ((with_reducible apply quiet_rd10 Q1.out); rfl; rfl; (first | exact otInt | exact otU64 | exact otU64s | exact otPt | exact otPs | exact otPb | exact otIs | exact otVs); rfl; rfl; go_big_quiet_on; (simp only [Act.put, List.setIfInBounds_toArray, List.set_cons_succ, List.set_cons_zero])) | ((with_reducible apply quiet_rds0 Q1.out (tbP_len _ _)); rfl; rfl; (first | exact rtRoot | exact rtCk | exact rtTb | exact rtCf | exact rtVotes); rfl; (try simp only [Nat.reduceAdd, List.drop_zero, cut_cp, cut_tb, cut_tb_c, cut_cf]); go_big_quiet_on; (simp only [Act.put, List.setIfInBounds_toArray, List.set_cons_succ, List.set_cons_zero])) | ((with_reducible apply quiet_rdp Q2.out (tbP_len _ _)); rfl; rfl; (first | exact rtRoot | exact rtCk | exact rtTb | exact rtCf | exact rtVotes); rfl; rfl; go_big_quiet_on; (simp only [Act.put, List.setIfInBounds_toArray, List.set_cons_succ, List.set_cons_zero])) | ((with_reducible apply quiet_rd1 Q2.out); rfl; rfl; (first | exact otInt | exact otU64 | exact otU64s | exact otPt | exact otPs | exact otPb | exact otIs | exact otVs); rfl; rfl; go_big_quiet_on; (simp only [Act.put, List.setIfInBounds_toArray, List.set_cons_succ, List.set_cons_zero])) | ((with_reducible apply quiet_rds Q2.out (tbP_len _ _)); rfl; rfl; (first | exact rtRoot | exact rtCk | exact rtTb | exact rtCf | exact rtVotes); rfl; (try simp only [Nat.reduceAdd, List.drop_zero, cut_cp, cut_tb, cut_tb_c, cut_cf]); go_big_quiet_on; (simp only [Act.put, List.setIfInBounds_toArray, List.set_cons_succ, List.set_cons_zero])) | ((with_reducible apply quiet_rdp0 Q2.out (tbP_len _ _)); rfl; rfl; (first | exact rtRoot | exact rtCk | exact rtTb | exact rtCf | exact rtVotes); rfl; rfl; go_big_quiet_on; (simp only [Act.put, List.setIfInBounds_toArray, List.set_cons_succ, List.set_cons_zero])) | ((with_reducible apply quiet_rd10 Q2.out); rfl; rfl; (first | exact otInt | exact otU64 | exact otU64s | exact otPt | exact otPs | exact otPb | exact otIs | exact otVs); rfl; rfl; go_big_quiet_on; (simp only [Act.put, List.setIfInBounds_toArray, List.set_cons_succ, List.set_cons_zero])) | ((with_reducible apply quiet_rds0 Q2.out (tbP_len _ _)); rfl; rfl; (first | exact rtRoot | exact rtCk | exact rtTb | exact rtCf | exact rtVotes); rfl; (try simp only [Nat.reduceAdd, List.drop_zero, cut_cp, cut_tb, cut_tb_c, cut_cf]); go_big_quiet_on; (simp only [Act.put, List.setIfInBounds_toArray, List.set_cons_succ, List.set_cons_zero])) | ((refine quiet_call (quietE SM.out) Try.func79 rfl rfl rfl ?_ ?_); rfl; go_big_quiet_on; (simp only [Act.put, List.setIfInBounds_toArray, List.set_cons_succ, List.set_cons_zero]))) | (go_big_quiet_op; first | go_big_quiet_on | ((with_reducible refine ⟨_, fun _ _ => rfl, ?_⟩); go_big_quiet_on))))
      refine wpQuiet_nil ?_; intro w4 hw4; have M' := M.out.below hw4.out; (clear M; have M := bx M'; clear M'); clear hw4
      go_wp2_with fail
      go_roundw
      case rel => exact ⟨1, by omega, by go_num, M.out⟩
      case measure => simp [intOf]
    · obtain rfl : k = 1 := by omega
      go_wp2_with fail
      go_ret
      exact ⟨rfl, M.out.ext⟩
theorem exec_mkV (n : Nat) (hn : n ≤ 2000) {op : Oper} {a : Act} {w : World} {x y : Operand} {k1 k2 : IntKind} (ho : op.op = .makeSlice 66 x y) (hx : a.eval x = .int k1 (n : Int)) (hy : a.eval y = .int k2 (n : Int)) :
    (execOp a.eval op).run Try.prog w = .ok (.value (.slice (some ⟨w.heap.size, 0, none⟩) n n)) (w.alloc (.cells ((List.replicate n zv).flatMap vc).toArray 170)) := by
  obtain ⟨i0, hi0, hz0, hz1, hz2⟩ := info_parts info_vote
  have hmk := run_make (P := Try.prog) w 66 170 i0 _ Try.underlying66 hi0 hz0 k1 k2 n n (by omega) (Int.le_refl _) (by rw [hz2]; omega) (by omega)
  rw [hz1, Int.toNat_natCast, made_flat vc zv (Value.agg (vc zv).toArray).cells (by simp [Value.cells]) (k := 34) (by rfl) (by omega) n] at hmk
  unfold execOp
  simp only [ho, hx, hy, hmk, Sem.run_bind, Sem.run_pure, Result.andThen_ok]
theorem built_vs0 (A : Option Addr) (n c : Nat) : Try.prog.built 68 [(0, .slice A n c)] = some #[.slice A n c, .slice none 0 0] := by kernel_rfl
theorem memI_rep (n : Nat) : ∀ k, memI (List.replicate n false) k = []
  | 0 => rfl
  | k + 1 => by
    rw [memI_no, memI_rep n k]
    rw [List.getD_eq_getElem?_getD]
    by_cases h : k < n
    · rw [List.getElem?_replicate, if_pos h]; rfl
    · rw [List.getElem?_replicate, if_neg h]; rfl
theorem gam2 {w : World} {g1 g2 : Nat} {c1 c2 : List Value} (h1 : Has w g1 c1) (h2 : Has w g2 c2) (hne : g1 ≠ g2) : ∃ Γ : Gam, Ok Γ w ∧ Γ g1 = some c1 ∧ Γ g2 = some c2 := by
  refine ⟨fun k => if k = g1 then some c1 else if k = g2 then some c2 else none, ?_, by simp, by simp [hne.symm]⟩
  intro k cs h
  simp only at h
  split at h
  · next e => injection h with h; subst e h; exact ⟨[], by rw [List.append_nil]; exact h1⟩
  · split at h
    · next e => injection h with h; subst e h; exact ⟨[], by rw [List.append_nil]; exact h2⟩
    · cases h
theorem sameNew {w : World} {r v1 v2 s1 s2 B Mb : Nat} {lim : Int} {t : Tbl} {n : Nat} (x : RegW w r v1 v2 s1 s2 B Mb (List.replicate n zv) (List.replicate n false) lim [t]) (hn : n ≤ 1024) (htl : t.b.length ≤ 1024) {gv gt : Nat} {A : Option Addr} {k : Nat}
    (hv : Has w gv ((List.replicate n zv).flatMap vc)) (hg : Has w gt (fl (tbP t.c (.slice A t.b.length k)))) (hne : gv ≠ gt) (hr : Row w w.heap.size 1 A t.b.length (us t.b)) :
    Calls Try.prog 27 #[.pointer (some ⟨r, 0, none⟩), .agg #[.slice (some ⟨gv, 0, none⟩) n n, .slice none 0 0], .slice (some ⟨gt, 0, none⟩) 1 1] w fun e w' => e = .returned (.bool true) ∧ Below w.heap.size w w' := by
  obtain ⟨Γ, ok, q1, q2⟩ := gam2 hv hg hne
  have hm : memI (List.replicate n false) (List.replicate n false).length = [] := memI_rep _ _
  have hl : (List.replicate n zv).length = n := List.length_replicate
  have h := same_anyR Γ ok x (by rw [hl]; exact hn) (by simp) (fun t' ht' => by
    have : t' = t := by simpa using ht'
    subst this; exact htl) (List.pairwise_singleton _ _) (some ⟨gv, 0, none⟩) n none 0 (some ⟨gt, 0, none⟩) 1 (fun _ => ⟨gv, [], rfl, by rw [List.append_nil]; exact q1⟩) (fun h => by rw [hm] at h; exact absurd h (Nat.lt_irrefl _))
    (fun Γ' B3 d3 w' ok' le hb hT => sameOne_any Γ' t B3 (some ⟨gt, 0, none⟩) A d3 1 k (by omega) w' ok' hT (fun _ => ⟨gt, [], rfl, by rw [List.append_nil]; exact le _ _ q2⟩) ((hr.below hb).more hb.size))
  rw [hm, hl] at h
  exact h.mono fun e w' ⟨h1, h2⟩ => ⟨h1, h2.bel⟩
set_option maxRecDepth 20000 in
set_option maxHeartbeats 1000000 in
theorem registryNew_walk (c : Cf) (A : Option Addr) (n k : Nat) (l : List Int) (w : World) (hl : Fit .u64 l) (hn : l.length = n) (hr : Row w w.heap.size 1 A n (ints .u64 l)) (hnk : n ≤ k) (hkm : k ≤ maxLen) (hA : A = none → k = 0) :
    Calls Try.prog 6 #[.agg (fl (cfP c ⟨A, n, k⟩)).toArray] w fun e w' => e = .returned (.bool true) ∧ Below w.heap.size w w' := by
  obtain ⟨b, hb, hbl⟩ := us_of hl
  rw [hb] at hr
  rw [hn] at hbl
  subst hbl
  clear hb hl hn
  have hn63 : b.length ≤ 9223372036854775807 := by unfold maxLen at hkm; omega
  clear hnk hkm
  have M := bx (MM.start (ok_g0 w))
  by_cases hbig : 2000 < b.length
  · have hbi : (2000 : Int) < (b.length : Int) := by omega
    go_enter Try.func6, Try.ntmps6
    go_wp2_with (first | ((with_reducible apply wpList_box M.out); rfl; rfl; rfl; exact cfP_len _ _; intro w' g M' hb'; (clear M; have M := bx M'; clear M'); clear hb') | ((with_reducible apply wpList_ldp M.out.at0); rfl; rfl; rfl; (first | exact rtRoot | exact rtCk | exact rtTb | exact rtCf | exact rtVotes); rfl; rfl) | ((with_reducible apply wpList_ld1 M.out.at0); rfl; rfl; rfl; (first | exact otInt | exact otU64 | exact otU64s | exact otPt | exact otPs | exact otPb | exact otIs | exact otVs); rfl; rfl) | ((with_reducible apply wpList_lds M.out.at0); rfl; rfl; rfl; (first | exact rtRoot | exact rtCk | exact rtTb | exact rtCf | exact rtVotes); rfl; (try simp only [Nat.reduceAdd, List.drop_zero, cut_cp, cut_tb, cut_tb_c, cut_cf])))
    refine (awake10_any _).mono ?_; rintro e w1 ⟨rfl, hb1⟩
    have M' := M.out.below hb1
    (clear M; have M := bx M'; clear M')
    clear hb1
    go_wp2_with fail
    go_ret
    exact ⟨rfl, M.out.ext.bel⟩
  · have hbi : ¬ (2000 : Int) < (b.length : Int) := by omega
    have HR := bx hr
    have HA := bx hA
    have BG := bx (built_cpG c.gen)
    have BT := bx (built_tbN ⟨u0, c.gen⟩ A b.length k)
    have RV : Bx (∀ w', Below w.heap.size w w' → Calls Try.prog 24 #[.agg (fl (tbP ⟨u0, c.gen⟩ (.slice A b.length k))).toArray, .int .i64 (b.length : Int)] w' fun e w'' => e = .returned (.int .i64 (tbE b b.length)) ∧ Below w'.heap.size w' w'') :=
      ⟨fun w' hb' => refValidate_any w.heap.size (oldC ⟨u0, c.gen⟩) c.gen.len A b.length k (b.length : Int) (b.map fun x : U => (x.n : Int)) w' hb'.size ((us_ints b ▸ hr).below hb') (u_u64 b) hn63⟩
    have NW : Bx (∀ w', Below w.heap.size w w' → Calls Try.prog 25 #[.agg (fl (cfP c ⟨A, b.length, k⟩)).toArray] w' (NwP c b w')) :=
      ⟨fun w' hb' => new_anyR c A k b (by omega) hA w' ((hr.below hb').more hb'.size)⟩
    have BV := bx built_vs0
    clear hr hA hn63
    go_enter Try.func6, Try.ntmps6
    go_upto_region 4 with (first | (((with_reducible apply wpList_box M.out); rfl; rfl; rfl; exact cfP_len _ _; intro w' g M' hb'; (clear M; have M := bx M'; clear M'); clear hb'); (obtain ⟨g1, h⟩ : ∃ y, y = g := ⟨_, rfl⟩); subst h) | (((with_reducible apply wpList_alc M.out); rfl; rfl; exact ztTb; intro w' g M' hb'; (clear M; have M := bx M'; clear M'); clear hb'); (obtain ⟨g3, h⟩ : ∃ y, y = g := ⟨_, rfl⟩); subst h) | ((with_reducible refine wpList_buildTo rfl 35 _ rfl [(1, .agg (rc c.gen).toArray)] (fl (cpP ⟨u0, c.gen⟩)) ?_ BG.out ?_); rfl) | ((with_reducible refine wpList_buildTo rfl 38 _ rfl [(0, .agg (fl (cpP ⟨u0, c.gen⟩)).toArray), (1, .slice A b.length k)] (fl (tbP ⟨u0, c.gen⟩ (.slice A b.length k))) ?_ BT.out ?_); rfl) | ((with_reducible apply wpList_sts M.out 0 (tbP ⟨u0, c.gen⟩ (.slice A b.length k)) (tbP ⟨u0, c.gen⟩ (.slice A b.length k))); rfl; rfl; rfl; rfl; rfl; (first | exact rtRoot | exact rtCk | exact rtTb | exact rtCf | exact rtVotes); rfl; exact tbP_len _ _; exact tb_one _ _ _ _; rfl; intro w' M' hg'; (simp only [List.set_cons_zero, List.set_cons_succ] at M'); (clear M; have M := bx M'; clear M'); clear hg') | ((with_reducible apply wpList_ldp M.out.at0); rfl; rfl; rfl; (first | exact rtRoot | exact rtCk | exact rtTb | exact rtCf | exact rtVotes); rfl; rfl) | ((with_reducible apply wpList_ld1 M.out.at0); rfl; rfl; rfl; (first | exact otInt | exact otU64 | exact otU64s | exact otPt | exact otPs | exact otPb | exact otIs | exact otVs); rfl; rfl) | ((with_reducible apply wpList_lds M.out.at0); rfl; rfl; rfl; (first | exact rtRoot | exact rtCk | exact rtTb | exact rtCf | exact rtVotes); rfl; (try simp only [Nat.reduceAdd, List.drop_zero, cut_cp, cut_tb, cut_tb_c, cut_cf])) | ((with_reducible apply wpList_ldp M.out.at1); rfl; rfl; rfl; (first | exact rtRoot | exact rtCk | exact rtTb | exact rtCf | exact rtVotes); rfl; rfl) | ((with_reducible apply wpList_ld1 M.out.at1); rfl; rfl; rfl; (first | exact otInt | exact otU64 | exact otU64s | exact otPt | exact otPs | exact otPb | exact otIs | exact otVs); rfl; rfl) | ((with_reducible apply wpList_lds M.out.at1); rfl; rfl; rfl; (first | exact rtRoot | exact rtCk | exact rtTb | exact rtCf | exact rtVotes); rfl; (try simp only [Nat.reduceAdd, List.drop_zero, cut_cp, cut_tb, cut_tb_c, cut_cf])))
    by_cases h1 : 1024 < b.length
    · have h1i : (1024 : Int) < (b.length : Int) := by omega
      have HE : Bx (nwE c.tl b = 3) := ⟨if_pos (.inl h1)⟩
      go_wp2_with (first | ((with_reducible apply wpList_ldp M.out.at0); rfl; rfl; rfl; (first | exact rtRoot | exact rtCk | exact rtTb | exact rtCf | exact rtVotes); rfl; rfl) | ((with_reducible apply wpList_ld1 M.out.at0); rfl; rfl; rfl; (first | exact otInt | exact otU64 | exact otU64s | exact otPt | exact otPs | exact otPb | exact otIs | exact otVs); rfl; rfl) | ((with_reducible apply wpList_lds M.out.at0); rfl; rfl; rfl; (first | exact rtRoot | exact rtCk | exact rtTb | exact rtCf | exact rtVotes); rfl; (try simp only [Nat.reduceAdd, List.drop_zero, cut_cp, cut_tb, cut_tb_c, cut_cf])) | ((with_reducible apply wpList_ldp M.out.at1); rfl; rfl; rfl; (first | exact rtRoot | exact rtCk | exact rtTb | exact rtCf | exact rtVotes); rfl; rfl) | ((with_reducible apply wpList_ld1 M.out.at1); rfl; rfl; rfl; (first | exact otInt | exact otU64 | exact otU64s | exact otPt | exact otPs | exact otPb | exact otIs | exact otVs); rfl; rfl) | ((with_reducible apply wpList_lds M.out.at1); rfl; rfl; rfl; (first | exact rtRoot | exact rtCk | exact rtTb | exact rtCf | exact rtVotes); rfl; (try simp only [Nat.reduceAdd, List.drop_zero, cut_cp, cut_tb, cut_tb_c, cut_cf]))); refine (RV.out _ M.out.ext.bel).mono ?_; rintro e w4 ⟨rfl, hb4⟩; have M' := M.out.below hb4; (clear M; have M := bx M'; clear M'); clear hb4; go_wp2_with (first | ((with_reducible apply wpList_ldp M.out.at0); rfl; rfl; rfl; (first | exact rtRoot | exact rtCk | exact rtTb | exact rtCf | exact rtVotes); rfl; rfl) | ((with_reducible apply wpList_ld1 M.out.at0); rfl; rfl; rfl; (first | exact otInt | exact otU64 | exact otU64s | exact otPt | exact otPs | exact otPb | exact otIs | exact otVs); rfl; rfl) | ((with_reducible apply wpList_lds M.out.at0); rfl; rfl; rfl; (first | exact rtRoot | exact rtCk | exact rtTb | exact rtCf | exact rtVotes); rfl; (try simp only [Nat.reduceAdd, List.drop_zero, cut_cp, cut_tb, cut_tb_c, cut_cf])) | ((with_reducible apply wpList_ldp M.out.at1); rfl; rfl; rfl; (first | exact rtRoot | exact rtCk | exact rtTb | exact rtCf | exact rtVotes); rfl; rfl) | ((with_reducible apply wpList_ld1 M.out.at1); rfl; rfl; rfl; (first | exact otInt | exact otU64 | exact otU64s | exact otPt | exact otPs | exact otPb | exact otIs | exact otVs); rfl; rfl) | ((with_reducible apply wpList_lds M.out.at1); rfl; rfl; rfl; (first | exact rtRoot | exact rtCk | exact rtTb | exact rtCf | exact rtVotes); rfl; (try simp only [Nat.reduceAdd, List.drop_zero, cut_cp, cut_tb, cut_tb_c, cut_cf])))
      refine (NW.out _ M.out.ext.bel).mono ?_; rintro e w5 ⟨hcase, hb5⟩; have M' := M.out.below hb5; (clear M; have M := bx M'; clear M'); clear hb5; rcases hcase with ⟨_, rfl⟩ | ⟨h0, _⟩; rotate_left; exact absurd (HE.out.symm.trans h0) (by decide); rw [HE.out]; go_wp2_with fail; refine (awake10_any _).mono ?_; rintro e w6 ⟨rfl, hb6⟩; have M' := M.out.below hb6; (clear M; have M := bx M'; clear M'); clear hb6; go_wp2_with fail; go_ret; exact ⟨rfl, M.out.ext.bel⟩
    · have h1i : ¬ (1024 : Int) < (b.length : Int) := by omega
      have d1 : decide ((1024 : Int) < (b.length : Int)) = false := decide_eq_false h1i
      by_cases h2 : c.tl < 1
      · have d2 : decide (c.tl < 1) = true := decide_eq_true h2
        have HE : Bx (nwE c.tl b = 3) := ⟨if_pos (.inr (.inl h2))⟩
        go_wp2_with (first | ((with_reducible apply wpList_ldp M.out.at0); rfl; rfl; rfl; (first | exact rtRoot | exact rtCk | exact rtTb | exact rtCf | exact rtVotes); rfl; rfl) | ((with_reducible apply wpList_ld1 M.out.at0); rfl; rfl; rfl; (first | exact otInt | exact otU64 | exact otU64s | exact otPt | exact otPs | exact otPb | exact otIs | exact otVs); rfl; rfl) | ((with_reducible apply wpList_lds M.out.at0); rfl; rfl; rfl; (first | exact rtRoot | exact rtCk | exact rtTb | exact rtCf | exact rtVotes); rfl; (try simp only [Nat.reduceAdd, List.drop_zero, cut_cp, cut_tb, cut_tb_c, cut_cf])) | ((with_reducible apply wpList_ldp M.out.at1); rfl; rfl; rfl; (first | exact rtRoot | exact rtCk | exact rtTb | exact rtCf | exact rtVotes); rfl; rfl) | ((with_reducible apply wpList_ld1 M.out.at1); rfl; rfl; rfl; (first | exact otInt | exact otU64 | exact otU64s | exact otPt | exact otPs | exact otPb | exact otIs | exact otVs); rfl; rfl) | ((with_reducible apply wpList_lds M.out.at1); rfl; rfl; rfl; (first | exact rtRoot | exact rtCk | exact rtTb | exact rtCf | exact rtVotes); rfl; (try simp only [Nat.reduceAdd, List.drop_zero, cut_cp, cut_tb, cut_tb_c, cut_cf]))); refine (RV.out _ M.out.ext.bel).mono ?_; rintro e w4 ⟨rfl, hb4⟩; have M' := M.out.below hb4; (clear M; have M := bx M'; clear M'); clear hb4; go_wp2_with (first | ((with_reducible apply wpList_ldp M.out.at0); rfl; rfl; rfl; (first | exact rtRoot | exact rtCk | exact rtTb | exact rtCf | exact rtVotes); rfl; rfl) | ((with_reducible apply wpList_ld1 M.out.at0); rfl; rfl; rfl; (first | exact otInt | exact otU64 | exact otU64s | exact otPt | exact otPs | exact otPb | exact otIs | exact otVs); rfl; rfl) | ((with_reducible apply wpList_lds M.out.at0); rfl; rfl; rfl; (first | exact rtRoot | exact rtCk | exact rtTb | exact rtCf | exact rtVotes); rfl; (try simp only [Nat.reduceAdd, List.drop_zero, cut_cp, cut_tb, cut_tb_c, cut_cf])) | ((with_reducible apply wpList_ldp M.out.at1); rfl; rfl; rfl; (first | exact rtRoot | exact rtCk | exact rtTb | exact rtCf | exact rtVotes); rfl; rfl) | ((with_reducible apply wpList_ld1 M.out.at1); rfl; rfl; rfl; (first | exact otInt | exact otU64 | exact otU64s | exact otPt | exact otPs | exact otPb | exact otIs | exact otVs); rfl; rfl) | ((with_reducible apply wpList_lds M.out.at1); rfl; rfl; rfl; (first | exact rtRoot | exact rtCk | exact rtTb | exact rtCf | exact rtVotes); rfl; (try simp only [Nat.reduceAdd, List.drop_zero, cut_cp, cut_tb, cut_tb_c, cut_cf])))
        refine (NW.out _ M.out.ext.bel).mono ?_; rintro e w5 ⟨hcase, hb5⟩; have M' := M.out.below hb5; (clear M; have M := bx M'; clear M'); clear hb5; rcases hcase with ⟨_, rfl⟩ | ⟨h0, _⟩; rotate_left; exact absurd (HE.out.symm.trans h0) (by decide); rw [HE.out]; go_wp2_with fail; refine (awake10_any _).mono ?_; rintro e w6 ⟨rfl, hb6⟩; have M' := M.out.below hb6; (clear M; have M := bx M'; clear M'); clear hb6; go_wp2_with fail; go_ret; exact ⟨rfl, M.out.ext.bel⟩
      · have d2 : decide (c.tl < 1) = false := decide_eq_false h2
        by_cases h3 : 64 < c.tl
        · have d3 : decide (64 < c.tl) = true := decide_eq_true h3
          have HE : Bx (nwE c.tl b = 3) := ⟨if_pos (.inr (.inr h3))⟩
          go_wp2_with (first | ((with_reducible apply wpList_ldp M.out.at0); rfl; rfl; rfl; (first | exact rtRoot | exact rtCk | exact rtTb | exact rtCf | exact rtVotes); rfl; rfl) | ((with_reducible apply wpList_ld1 M.out.at0); rfl; rfl; rfl; (first | exact otInt | exact otU64 | exact otU64s | exact otPt | exact otPs | exact otPb | exact otIs | exact otVs); rfl; rfl) | ((with_reducible apply wpList_lds M.out.at0); rfl; rfl; rfl; (first | exact rtRoot | exact rtCk | exact rtTb | exact rtCf | exact rtVotes); rfl; (try simp only [Nat.reduceAdd, List.drop_zero, cut_cp, cut_tb, cut_tb_c, cut_cf])) | ((with_reducible apply wpList_ldp M.out.at1); rfl; rfl; rfl; (first | exact rtRoot | exact rtCk | exact rtTb | exact rtCf | exact rtVotes); rfl; rfl) | ((with_reducible apply wpList_ld1 M.out.at1); rfl; rfl; rfl; (first | exact otInt | exact otU64 | exact otU64s | exact otPt | exact otPs | exact otPb | exact otIs | exact otVs); rfl; rfl) | ((with_reducible apply wpList_lds M.out.at1); rfl; rfl; rfl; (first | exact rtRoot | exact rtCk | exact rtTb | exact rtCf | exact rtVotes); rfl; (try simp only [Nat.reduceAdd, List.drop_zero, cut_cp, cut_tb, cut_tb_c, cut_cf]))); refine (RV.out _ M.out.ext.bel).mono ?_; rintro e w4 ⟨rfl, hb4⟩; have M' := M.out.below hb4; (clear M; have M := bx M'; clear M'); clear hb4; go_wp2_with (first | ((with_reducible apply wpList_ldp M.out.at0); rfl; rfl; rfl; (first | exact rtRoot | exact rtCk | exact rtTb | exact rtCf | exact rtVotes); rfl; rfl) | ((with_reducible apply wpList_ld1 M.out.at0); rfl; rfl; rfl; (first | exact otInt | exact otU64 | exact otU64s | exact otPt | exact otPs | exact otPb | exact otIs | exact otVs); rfl; rfl) | ((with_reducible apply wpList_lds M.out.at0); rfl; rfl; rfl; (first | exact rtRoot | exact rtCk | exact rtTb | exact rtCf | exact rtVotes); rfl; (try simp only [Nat.reduceAdd, List.drop_zero, cut_cp, cut_tb, cut_tb_c, cut_cf])) | ((with_reducible apply wpList_ldp M.out.at1); rfl; rfl; rfl; (first | exact rtRoot | exact rtCk | exact rtTb | exact rtCf | exact rtVotes); rfl; rfl) | ((with_reducible apply wpList_ld1 M.out.at1); rfl; rfl; rfl; (first | exact otInt | exact otU64 | exact otU64s | exact otPt | exact otPs | exact otPb | exact otIs | exact otVs); rfl; rfl) | ((with_reducible apply wpList_lds M.out.at1); rfl; rfl; rfl; (first | exact rtRoot | exact rtCk | exact rtTb | exact rtCf | exact rtVotes); rfl; (try simp only [Nat.reduceAdd, List.drop_zero, cut_cp, cut_tb, cut_tb_c, cut_cf])))
          refine (NW.out _ M.out.ext.bel).mono ?_; rintro e w5 ⟨hcase, hb5⟩; have M' := M.out.below hb5; (clear M; have M := bx M'; clear M'); clear hb5; rcases hcase with ⟨_, rfl⟩ | ⟨h0, _⟩; rotate_left; exact absurd (HE.out.symm.trans h0) (by decide); rw [HE.out]; go_wp2_with fail; refine (awake10_any _).mono ?_; rintro e w6 ⟨rfl, hb6⟩; have M' := M.out.below hb6; (clear M; have M := bx M'; clear M'); clear hb6; go_wp2_with fail; go_ret; exact ⟨rfl, M.out.ext.bel⟩
        · have d3 : decide (64 < c.tl) = false := decide_eq_false h3
          have HE0 : nwE c.tl b = tbE b b.length := if_neg (by omega)
          have ht3 : tbE b b.length = 0 ∨ tbE b b.length = 2 ∨ tbE b b.length = 4 := valE_le
          rcases ht3 with ht | ht | ht
          · have HE := bx (HE0.trans ht)
            simp only [ht] at RV
            clear HE0 ht
            go_wp2_with (first | ((with_reducible apply wpList_ldp M.out.at0); rfl; rfl; rfl; (first | exact rtRoot | exact rtCk | exact rtTb | exact rtCf | exact rtVotes); rfl; rfl) | ((with_reducible apply wpList_ld1 M.out.at0); rfl; rfl; rfl; (first | exact otInt | exact otU64 | exact otU64s | exact otPt | exact otPs | exact otPb | exact otIs | exact otVs); rfl; rfl) | ((with_reducible apply wpList_lds M.out.at0); rfl; rfl; rfl; (first | exact rtRoot | exact rtCk | exact rtTb | exact rtCf | exact rtVotes); rfl; (try simp only [Nat.reduceAdd, List.drop_zero, cut_cp, cut_tb, cut_tb_c, cut_cf])) | ((with_reducible apply wpList_ldp M.out.at1); rfl; rfl; rfl; (first | exact rtRoot | exact rtCk | exact rtTb | exact rtCf | exact rtVotes); rfl; rfl) | ((with_reducible apply wpList_ld1 M.out.at1); rfl; rfl; rfl; (first | exact otInt | exact otU64 | exact otU64s | exact otPt | exact otPs | exact otPb | exact otIs | exact otVs); rfl; rfl) | ((with_reducible apply wpList_lds M.out.at1); rfl; rfl; rfl; (first | exact rtRoot | exact rtCk | exact rtTb | exact rtCf | exact rtVotes); rfl; (try simp only [Nat.reduceAdd, List.drop_zero, cut_cp, cut_tb, cut_tb_c, cut_cf]))); refine (RV.out _ M.out.ext.bel).mono ?_; rintro e w4 ⟨rfl, hb4⟩; have M' := M.out.below hb4; (clear M; have M := bx M'; clear M'); clear hb4; go_wp2_with (first | ((with_reducible apply wpList_ldp M.out.at0); rfl; rfl; rfl; (first | exact rtRoot | exact rtCk | exact rtTb | exact rtCf | exact rtVotes); rfl; rfl) | ((with_reducible apply wpList_ld1 M.out.at0); rfl; rfl; rfl; (first | exact otInt | exact otU64 | exact otU64s | exact otPt | exact otPs | exact otPb | exact otIs | exact otVs); rfl; rfl) | ((with_reducible apply wpList_lds M.out.at0); rfl; rfl; rfl; (first | exact rtRoot | exact rtCk | exact rtTb | exact rtCf | exact rtVotes); rfl; (try simp only [Nat.reduceAdd, List.drop_zero, cut_cp, cut_tb, cut_tb_c, cut_cf])) | ((with_reducible apply wpList_ldp M.out.at1); rfl; rfl; rfl; (first | exact rtRoot | exact rtCk | exact rtTb | exact rtCf | exact rtVotes); rfl; rfl) | ((with_reducible apply wpList_ld1 M.out.at1); rfl; rfl; rfl; (first | exact otInt | exact otU64 | exact otU64s | exact otPt | exact otPs | exact otPb | exact otIs | exact otVs); rfl; rfl) | ((with_reducible apply wpList_lds M.out.at1); rfl; rfl; rfl; (first | exact rtRoot | exact rtCk | exact rtTb | exact rtCf | exact rtVotes); rfl; (try simp only [Nat.reduceAdd, List.drop_zero, cut_cp, cut_tb, cut_tb_c, cut_cf])))
            refine (NW.out _ M.out.ext.bel).mono ?_; rintro e w5 ⟨hcase, hb5⟩
            have M' := M.out.below hb5
            (clear M; have M := bx M'; clear M')
            clear hb5
            rcases hcase with ⟨h0, _⟩ | ⟨_, _, r, v1, v2, s1, s2, B, Mb, rfl, _, _, _, _, hx⟩
            · exact absurd HE.out h0
            · have X := bx hx.drew
              clear hx RV NW BG BT
              go_wp2_with fail
              refine wp_region_mix7 (fun w' => (HL w' g1 (cfP c ⟨A, b.length, k⟩) cfL ∧ HL w' g3 (tbP ⟨u0, c.gen⟩ (.slice A b.length k)) [1, 32, 1])) (.steps [(1, 0), (2, 1), (1, 2), (1, 3), (1, 4), (0, 5), (1, 6), (0, 9)] (.fork 7 (.steps [(1, 8), (2, 10), (2, 11), (1, 12), (1, 13), (2, 14), (1, 15), (1, 16)] .leaf) 10 (.steps [(2, 7), (1, 8), (2, 11), (1, 12), (1, 13), (2, 14), (1, 15), (1, 16)] .leaf))) (by kernel_rfl) (by kernel_rfl) ⟨M.out.drew.at1, M.out.drew.at0⟩ ?_; (simp only [MixT7, MT.steps, stepI, List.getD_cons_zero, List.getD_cons_succ])
              simp only [Act.put, List.setIfInBounds_toArray, List.set_cons_succ, List.set_cons_zero]
              (repeat (first | (with_reducible refine wpQuiet_nil ?_) | (first | go_big_quiet_skip | (go_big_quiet_want; first | (first | fail) | (go_big_quiet_op; first | go_big_quiet_on | ((with_reducible refine ⟨_, fun _ _ => rfl, ?_⟩); go_big_quiet_on))))))
              have M' := M.out.drew
              (clear M; have M := bx M'; clear M')
              refine mix_call5 (ready_anyR X.out) Try.func26 rfl rfl _ _ rfl rfl rfl ?_
              rintro e w6 ⟨rfl, hb6⟩
              have M' := M.out.below hb6
              have X' := X.out.below hb6
              clear X
              have X := bx X'
              (clear M; have M := bx M'; clear M')
              clear hb6 X'
              refine ⟨_, rfl, ⟨M.out.at1, M.out.at0⟩, ?_⟩
              simp only [Act.put, List.setIfInBounds_toArray, List.set_cons_succ, List.set_cons_zero]
              (repeat (first | (with_reducible refine wpQuiet_nil ?_) | (first | go_big_quiet_skip | (go_big_quiet_want; first | (first | ((with_reducible apply quiet_ldp (fun _ h => h.1) (cfP_len _ _)); rfl; rfl; (first | exact rtRoot | exact rtCk | exact rtTb | exact rtCf | exact rtVotes); rfl; rfl; go_big_quiet_on; (simp only [Act.put, List.setIfInBounds_toArray, List.set_cons_succ, List.set_cons_zero])) | ((with_reducible apply quiet_ld1 (fun _ h => h.1)); rfl; rfl; (first | exact otInt | exact otU64 | exact otU64s | exact otPt | exact otPs | exact otPb | exact otIs | exact otVs); rfl; rfl; go_big_quiet_on; (simp only [Act.put, List.setIfInBounds_toArray, List.set_cons_succ, List.set_cons_zero])) | ((with_reducible apply quiet_lds (fun _ h => h.1) (cfP_len _ _)); rfl; rfl; (first | exact rtRoot | exact rtCk | exact rtTb | exact rtCf | exact rtVotes); rfl; (try simp only [Nat.reduceAdd, List.drop_zero, cut_cp, cut_tb, cut_tb_c, cut_cf]); go_big_quiet_on; (simp only [Act.put, List.setIfInBounds_toArray, List.set_cons_succ, List.set_cons_zero])) | ((with_reducible apply quiet_ldp (fun _ h => h.2) (tbP_len _ _)); rfl; rfl; (first | exact rtRoot | exact rtCk | exact rtTb | exact rtCf | exact rtVotes); rfl; rfl; go_big_quiet_on; (simp only [Act.put, List.setIfInBounds_toArray, List.set_cons_succ, List.set_cons_zero])) | ((with_reducible apply quiet_ld1 (fun _ h => h.2)); rfl; rfl; (first | exact otInt | exact otU64 | exact otU64s | exact otPt | exact otPs | exact otPb | exact otIs | exact otVs); rfl; rfl; go_big_quiet_on; (simp only [Act.put, List.setIfInBounds_toArray, List.set_cons_succ, List.set_cons_zero])) | ((with_reducible apply quiet_lds (fun _ h => h.2) (tbP_len _ _)); rfl; rfl; (first | exact rtRoot | exact rtCk | exact rtTb | exact rtCf | exact rtVotes); rfl; (try simp only [Nat.reduceAdd, List.drop_zero, cut_cp, cut_tb, cut_tb_c, cut_cf]); go_big_quiet_on; (simp only [Act.put, List.setIfInBounds_toArray, List.set_cons_succ, List.set_cons_zero]))) | (go_big_quiet_op; first | go_big_quiet_on | ((with_reducible refine ⟨_, fun _ _ => rfl, ?_⟩); go_big_quiet_on))))))
              refine ⟨?_, ?_⟩
              · refine mix_run5 (exec_mkV b.length (by omega) rfl rfl rfl) rfl ?_; have M' := M.out.alloc (P := [(List.replicate b.length zv).flatMap vc]) (ls := [((List.replicate b.length zv).flatMap vc).length]) rfl rfl 170; have X' := X.out.below (ext_alloc _ (.cells ((List.replicate b.length zv).flatMap vc).toArray 170)); clear X; have X := bx X'; (clear M; have M := bx M'; clear M'); clear X'
                refine ⟨⟨M.out.at2, M.out.at1⟩, ?_⟩
                simp only [Act.put, List.setIfInBounds_toArray, List.set_cons_succ, List.set_cons_zero]
                (repeat (first | (with_reducible refine wpQuiet_nil ?_) | (first | go_big_quiet_skip | (go_big_quiet_want; first | (first | ((with_reducible refine quiet_build 68 _ rfl [(0, (.slice (some ⟨w6.heap.size, 0, none⟩) b.length b.length))] [(.slice (some ⟨w6.heap.size, 0, none⟩) b.length b.length), .slice none 0 0] ?_ (BV.out _ _ _) ?_); rfl; go_big_quiet_on; (simp only [Act.put, List.setIfInBounds_toArray, List.set_cons_succ, List.set_cons_zero]))) | (go_big_quiet_op; first | go_big_quiet_on | ((with_reducible refine ⟨_, fun _ _ => rfl, ?_⟩); go_big_quiet_on))))))
                refine mix_run5 (run_bs elTb rfl rfl (v := .agg (fl (tbP ⟨u0, c.gen⟩ (.slice A b.length k))).toArray) (cs := fl (tbP ⟨u0, c.gen⟩ (.slice A b.length k))) rfl (tb_len _ _)) rfl ?_; have M' := M.out.alloc (tbP_len ⟨u0, c.gen⟩ (.slice A b.length k)) rfl 38; have X' := X.out.below (ext_alloc _ (.cells (fl (tbP ⟨u0, c.gen⟩ (.slice A b.length k))).toArray 38)); clear X; have X := bx X'; (clear M; have M := bx M'; clear M'); clear X'
                refine ⟨⟨M.out.at3, M.out.at2⟩, ?_⟩
                simp only [Act.put, List.setIfInBounds_toArray, List.set_cons_succ, List.set_cons_zero]; refine mix_call5 (sameNew X.out (by omega) (by show b.length ≤ 1024; omega) M.out.at1.has M.out.at0.has (fun e => (List.pairwise_cons.1 M.out.nd).1 _ (List.mem_cons_self ..) e.symm) ((HR.out.below M.out.ext.bel).more M.out.ext.bel.size)) Try.func27 rfl rfl _ _ rfl rfl rfl ?_; rintro e w7 ⟨rfl, hb7⟩; have M' := M.out.below hb7; (clear M; have M := bx M'; clear M'); clear hb7 X; refine ⟨_, rfl, ⟨M.out.at3, M.out.at2⟩, ?_⟩; simp only [Act.put, List.setIfInBounds_toArray, List.set_cons_succ, List.set_cons_zero]; (repeat (first | (with_reducible refine wpQuiet_nil ?_) | (first | go_big_quiet_skip | (go_big_quiet_want; first | (first | fail) | (go_big_quiet_op; first | go_big_quiet_on | ((with_reducible refine ⟨_, fun _ _ => rfl, ?_⟩); go_big_quiet_on)))))); refine mix_call5 (awake10_any _) Try.func23 rfl rfl _ _ rfl rfl rfl ?_; rintro e w8 ⟨rfl, hb8⟩; have M' := M.out.below hb8; (clear M; have M := bx M'; clear M'); clear hb8; refine ⟨_, rfl, ⟨M.out.at3, M.out.at2⟩, ?_⟩; simp only [Act.put, List.setIfInBounds_toArray, List.set_cons_succ, List.set_cons_zero]; (repeat (first | (with_reducible refine wpQuiet_nil ?_) | (first | go_big_quiet_skip | (go_big_quiet_want; first | (first | fail) | (go_big_quiet_op; first | go_big_quiet_on | ((with_reducible refine ⟨_, fun _ _ => rfl, ?_⟩); go_big_quiet_on)))))); refine NoPanic.normal ?_; go_wp2_with fail; go_ret; exact ⟨rfl, M.out.ext.bel⟩
              · refine mix_run5 (run_bs elTb rfl rfl (v := .agg (fl (tbP ⟨u0, c.gen⟩ (.slice A b.length k))).toArray) (cs := fl (tbP ⟨u0, c.gen⟩ (.slice A b.length k))) rfl (tb_len _ _)) rfl ?_; have M' := M.out.alloc (tbP_len ⟨u0, c.gen⟩ (.slice A b.length k)) rfl 38; have X' := X.out.below (ext_alloc _ (.cells (fl (tbP ⟨u0, c.gen⟩ (.slice A b.length k))).toArray 38)); clear X; have X := bx X'; (clear M; have M := bx M'; clear M'); clear X'
                refine ⟨⟨M.out.at2, M.out.at1⟩, ?_⟩
                simp only [Act.put, List.setIfInBounds_toArray, List.set_cons_succ, List.set_cons_zero]
                obtain ⟨gT, hgT⟩ : ∃ x, x = w6.heap.size := ⟨_, rfl⟩
                rw [← hgT] at M ⊢
                obtain ⟨w7, hw7⟩ : ∃ x, x = w6.alloc (.cells (fl (tbP ⟨u0, c.gen⟩ (.slice A b.length k))).toArray 38) := ⟨_, rfl⟩
                rw [← hw7] at M X ⊢
                clear hw7 hgT
                refine mix_run5 (exec_mkV b.length (by omega) rfl rfl rfl) rfl ?_; have M' := M.out.alloc (P := [(List.replicate b.length zv).flatMap vc]) (ls := [((List.replicate b.length zv).flatMap vc).length]) rfl rfl 170; have X' := X.out.below (ext_alloc _ (.cells ((List.replicate b.length zv).flatMap vc).toArray 170)); clear X; have X := bx X'; (clear M; have M := bx M'; clear M'); clear X'
                refine ⟨⟨M.out.at3, M.out.at2⟩, ?_⟩
                simp only [Act.put, List.setIfInBounds_toArray, List.set_cons_succ, List.set_cons_zero]
                (repeat (first | (with_reducible refine wpQuiet_nil ?_) | (first | go_big_quiet_skip | (go_big_quiet_want; first | (first | ((with_reducible refine quiet_build 68 _ rfl [(0, (.slice (some ⟨w7.heap.size, 0, none⟩) b.length b.length))] [(.slice (some ⟨w7.heap.size, 0, none⟩) b.length b.length), .slice none 0 0] ?_ (BV.out _ _ _) ?_); rfl; go_big_quiet_on; (simp only [Act.put, List.setIfInBounds_toArray, List.set_cons_succ, List.set_cons_zero]))) | (go_big_quiet_op; first | go_big_quiet_on | ((with_reducible refine ⟨_, fun _ _ => rfl, ?_⟩); go_big_quiet_on))))))
                simp only [Act.put, List.setIfInBounds_toArray, List.set_cons_succ, List.set_cons_zero]; refine mix_call5 (sameNew X.out (by omega) (by show b.length ≤ 1024; omega) M.out.at0.has M.out.at1.has (fun e => (List.pairwise_cons.1 M.out.nd).1 _ (List.mem_cons_self ..) e) ((HR.out.below M.out.ext.bel).more M.out.ext.bel.size)) Try.func27 rfl rfl _ _ rfl rfl rfl ?_; rintro e w7 ⟨rfl, hb7⟩; have M' := M.out.below hb7; (clear M; have M := bx M'; clear M'); clear hb7 X; refine ⟨_, rfl, ⟨M.out.at3, M.out.at2⟩, ?_⟩; simp only [Act.put, List.setIfInBounds_toArray, List.set_cons_succ, List.set_cons_zero]; (repeat (first | (with_reducible refine wpQuiet_nil ?_) | (first | go_big_quiet_skip | (go_big_quiet_want; first | (first | fail) | (go_big_quiet_op; first | go_big_quiet_on | ((with_reducible refine ⟨_, fun _ _ => rfl, ?_⟩); go_big_quiet_on)))))); refine mix_call5 (awake10_any _) Try.func23 rfl rfl _ _ rfl rfl rfl ?_; rintro e w8 ⟨rfl, hb8⟩; have M' := M.out.below hb8; (clear M; have M := bx M'; clear M'); clear hb8; refine ⟨_, rfl, ⟨M.out.at3, M.out.at2⟩, ?_⟩; simp only [Act.put, List.setIfInBounds_toArray, List.set_cons_succ, List.set_cons_zero]; (repeat (first | (with_reducible refine wpQuiet_nil ?_) | (first | go_big_quiet_skip | (go_big_quiet_want; first | (first | fail) | (go_big_quiet_op; first | go_big_quiet_on | ((with_reducible refine ⟨_, fun _ _ => rfl, ?_⟩); go_big_quiet_on)))))); refine NoPanic.normal ?_; go_wp2_with fail; go_ret; exact ⟨rfl, M.out.ext.bel⟩
          · have HE := bx (HE0.trans ht)
            simp only [ht] at RV
            clear HE0 ht
            go_wp2_with (first | ((with_reducible apply wpList_ldp M.out.at0); rfl; rfl; rfl; (first | exact rtRoot | exact rtCk | exact rtTb | exact rtCf | exact rtVotes); rfl; rfl) | ((with_reducible apply wpList_ld1 M.out.at0); rfl; rfl; rfl; (first | exact otInt | exact otU64 | exact otU64s | exact otPt | exact otPs | exact otPb | exact otIs | exact otVs); rfl; rfl) | ((with_reducible apply wpList_lds M.out.at0); rfl; rfl; rfl; (first | exact rtRoot | exact rtCk | exact rtTb | exact rtCf | exact rtVotes); rfl; (try simp only [Nat.reduceAdd, List.drop_zero, cut_cp, cut_tb, cut_tb_c, cut_cf])) | ((with_reducible apply wpList_ldp M.out.at1); rfl; rfl; rfl; (first | exact rtRoot | exact rtCk | exact rtTb | exact rtCf | exact rtVotes); rfl; rfl) | ((with_reducible apply wpList_ld1 M.out.at1); rfl; rfl; rfl; (first | exact otInt | exact otU64 | exact otU64s | exact otPt | exact otPs | exact otPb | exact otIs | exact otVs); rfl; rfl) | ((with_reducible apply wpList_lds M.out.at1); rfl; rfl; rfl; (first | exact rtRoot | exact rtCk | exact rtTb | exact rtCf | exact rtVotes); rfl; (try simp only [Nat.reduceAdd, List.drop_zero, cut_cp, cut_tb, cut_tb_c, cut_cf]))); refine (RV.out _ M.out.ext.bel).mono ?_; rintro e w4 ⟨rfl, hb4⟩; have M' := M.out.below hb4; (clear M; have M := bx M'; clear M'); clear hb4; go_wp2_with (first | ((with_reducible apply wpList_ldp M.out.at0); rfl; rfl; rfl; (first | exact rtRoot | exact rtCk | exact rtTb | exact rtCf | exact rtVotes); rfl; rfl) | ((with_reducible apply wpList_ld1 M.out.at0); rfl; rfl; rfl; (first | exact otInt | exact otU64 | exact otU64s | exact otPt | exact otPs | exact otPb | exact otIs | exact otVs); rfl; rfl) | ((with_reducible apply wpList_lds M.out.at0); rfl; rfl; rfl; (first | exact rtRoot | exact rtCk | exact rtTb | exact rtCf | exact rtVotes); rfl; (try simp only [Nat.reduceAdd, List.drop_zero, cut_cp, cut_tb, cut_tb_c, cut_cf])) | ((with_reducible apply wpList_ldp M.out.at1); rfl; rfl; rfl; (first | exact rtRoot | exact rtCk | exact rtTb | exact rtCf | exact rtVotes); rfl; rfl) | ((with_reducible apply wpList_ld1 M.out.at1); rfl; rfl; rfl; (first | exact otInt | exact otU64 | exact otU64s | exact otPt | exact otPs | exact otPb | exact otIs | exact otVs); rfl; rfl) | ((with_reducible apply wpList_lds M.out.at1); rfl; rfl; rfl; (first | exact rtRoot | exact rtCk | exact rtTb | exact rtCf | exact rtVotes); rfl; (try simp only [Nat.reduceAdd, List.drop_zero, cut_cp, cut_tb, cut_tb_c, cut_cf])))
            refine (NW.out _ M.out.ext.bel).mono ?_; rintro e w5 ⟨hcase, hb5⟩; have M' := M.out.below hb5; (clear M; have M := bx M'; clear M'); clear hb5; rcases hcase with ⟨_, rfl⟩ | ⟨h0, _⟩; rotate_left; exact absurd (HE.out.symm.trans h0) (by decide); rw [HE.out]; go_wp2_with fail; refine (awake10_any _).mono ?_; rintro e w6 ⟨rfl, hb6⟩; have M' := M.out.below hb6; (clear M; have M := bx M'; clear M'); clear hb6; go_wp2_with fail; go_ret; exact ⟨rfl, M.out.ext.bel⟩
          · have HE := bx (HE0.trans ht)
            simp only [ht] at RV
            clear HE0 ht
            go_wp2_with (first | ((with_reducible apply wpList_ldp M.out.at0); rfl; rfl; rfl; (first | exact rtRoot | exact rtCk | exact rtTb | exact rtCf | exact rtVotes); rfl; rfl) | ((with_reducible apply wpList_ld1 M.out.at0); rfl; rfl; rfl; (first | exact otInt | exact otU64 | exact otU64s | exact otPt | exact otPs | exact otPb | exact otIs | exact otVs); rfl; rfl) | ((with_reducible apply wpList_lds M.out.at0); rfl; rfl; rfl; (first | exact rtRoot | exact rtCk | exact rtTb | exact rtCf | exact rtVotes); rfl; (try simp only [Nat.reduceAdd, List.drop_zero, cut_cp, cut_tb, cut_tb_c, cut_cf])) | ((with_reducible apply wpList_ldp M.out.at1); rfl; rfl; rfl; (first | exact rtRoot | exact rtCk | exact rtTb | exact rtCf | exact rtVotes); rfl; rfl) | ((with_reducible apply wpList_ld1 M.out.at1); rfl; rfl; rfl; (first | exact otInt | exact otU64 | exact otU64s | exact otPt | exact otPs | exact otPb | exact otIs | exact otVs); rfl; rfl) | ((with_reducible apply wpList_lds M.out.at1); rfl; rfl; rfl; (first | exact rtRoot | exact rtCk | exact rtTb | exact rtCf | exact rtVotes); rfl; (try simp only [Nat.reduceAdd, List.drop_zero, cut_cp, cut_tb, cut_tb_c, cut_cf]))); refine (RV.out _ M.out.ext.bel).mono ?_; rintro e w4 ⟨rfl, hb4⟩; have M' := M.out.below hb4; (clear M; have M := bx M'; clear M'); clear hb4; go_wp2_with (first | ((with_reducible apply wpList_ldp M.out.at0); rfl; rfl; rfl; (first | exact rtRoot | exact rtCk | exact rtTb | exact rtCf | exact rtVotes); rfl; rfl) | ((with_reducible apply wpList_ld1 M.out.at0); rfl; rfl; rfl; (first | exact otInt | exact otU64 | exact otU64s | exact otPt | exact otPs | exact otPb | exact otIs | exact otVs); rfl; rfl) | ((with_reducible apply wpList_lds M.out.at0); rfl; rfl; rfl; (first | exact rtRoot | exact rtCk | exact rtTb | exact rtCf | exact rtVotes); rfl; (try simp only [Nat.reduceAdd, List.drop_zero, cut_cp, cut_tb, cut_tb_c, cut_cf])) | ((with_reducible apply wpList_ldp M.out.at1); rfl; rfl; rfl; (first | exact rtRoot | exact rtCk | exact rtTb | exact rtCf | exact rtVotes); rfl; rfl) | ((with_reducible apply wpList_ld1 M.out.at1); rfl; rfl; rfl; (first | exact otInt | exact otU64 | exact otU64s | exact otPt | exact otPs | exact otPb | exact otIs | exact otVs); rfl; rfl) | ((with_reducible apply wpList_lds M.out.at1); rfl; rfl; rfl; (first | exact rtRoot | exact rtCk | exact rtTb | exact rtCf | exact rtVotes); rfl; (try simp only [Nat.reduceAdd, List.drop_zero, cut_cp, cut_tb, cut_tb_c, cut_cf])))
            refine (NW.out _ M.out.ext.bel).mono ?_; rintro e w5 ⟨hcase, hb5⟩; have M' := M.out.below hb5; (clear M; have M := bx M'; clear M'); clear hb5; rcases hcase with ⟨_, rfl⟩ | ⟨h0, _⟩; rotate_left; exact absurd (HE.out.symm.trans h0) (by decide); rw [HE.out]; go_wp2_with fail; refine (awake10_any _).mono ?_; rintro e w6 ⟨rfl, hb6⟩; have M' := M.out.below hb6; (clear M; have M := bx M'; clear M'); clear hb6; go_wp2_with fail; go_ret; exact ⟨rfl, M.out.ext.bel⟩
end Go.Proofs.Ytekikfdlnkcenaa
