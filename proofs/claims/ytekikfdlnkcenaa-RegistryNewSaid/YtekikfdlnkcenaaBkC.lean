/- Copies of tables, walked. -/
import Derived.Test.YtekikfdlnkcenaaBkW
import Derived.Deep.CutRange
namespace Go.Proofs.Ytekikfdlnkcenaa
open Go.RowKit Go.Maps
theorem info_u64 : (Try.prog.info? 30).map (fun i => (i.zero, i.size, i.bytes)) = some (some (.int .u64 0), 1, 8) := by kernel_rfl
/-- a copy of a row of numbers -/
def UP (n : Nat) (xs : List Int) (w : World) (e : Ending) (w' : World) : Prop :=
  ∃ (A : Option Addr) (c : Nat), e = .returned (.slice A n c) ∧ w'.ownsRow w.heap.size 30 1 (.slice A n c) n (ints .u64 xs) ∧ Below w.heap.size w w'
set_option maxRecDepth 20000 in
set_option maxHeartbeats 1000000 in
theorem cloneU_any (B : Nat) (A : Option Addr) (n c : Nat) (xs : List Int) (hn : n ≤ 65535) (w : World) (hB : B ≤ w.heap.size) (hr : Row w B 1 A n (ints .u64 xs)) (hA : A = none → c = 0) :
    Calls Try.prog 78 #[.slice A n c] w (UP n xs w) := by
  have hl : xs.length = n := by have := hr.1; rwa [ints_len, Nat.mul_one] at this
  rcases Nat.eq_zero_or_pos n with h0 | hpos
  · subst h0
    obtain rfl : xs = [] := List.eq_nil_of_length_eq_zero hl
    cases A with
    | none =>
      obtain rfl := hA rfl
      have he : ∀ (w : World), (binOp .eql 36 (.slice none 0 0) (.slice none 0 0)).run Try.prog w = .ok (.bool true) w := fun _ => rfl
      go_enter Try.func78, Try.ntmps78
      go_wp2_with fail
      go_ret
      exact ⟨none, 0, rfl, World.ownsRow_nil _ _ _ _, Below.refl _ _⟩
    | some ad =>
      have he : ∀ (n c : Nat) (w : World), (binOp .eql 36 (.slice (some ad) n c) (.slice none 0 0)).run Try.prog w = .ok (.bool false) w := fun _ _ _ => rfl
      go_enter Try.func78, Try.ntmps78
      go_wp2_with fail
      go_ret
      exact ⟨_, _, rfl, World.ownsRow_made w #[] 0 (Nat.le_refl _) (Nat.zero_le _) rfl, (Below.refl _ _).alloc (Nat.le_refl _) _⟩
  · obtain ⟨ad, rfl, _, _⟩ := hr.at_ (k := 0) (u := .int .u64 (xs[0]'(by omega))) (by unfold ints; rw [List.getElem?_map, List.getElem?_eq_getElem (by omega)]; rfl)
    obtain ⟨i0, hi0, hz0, hz1, hz2⟩ := info_parts info_u64
    have HI := bx (show Try.prog.info? 30 = some i0 from hi0)
    have HL : Bx ((ints .u64 xs).length = n * 1) := ⟨by rw [ints_len, hl, Nat.mul_one]⟩
    have H1 := bx (one_ints .u64 xs)
    have he : ∀ (n c : Nat) (w : World), (binOp .eql 36 (.slice (some ad) n c) (.slice none 0 0)).run Try.prog w = .ok (.bool false) w := fun _ _ _ => rfl
    have HO := bx (Apd.drew (.inl (World.ownsRow_made (base := w.heap.size) (e := 30) (size := 1) w #[] 0 (Nat.le_refl _) (Nat.zero_le _) rfl) : Apd (w.alloc (.cells #[] 30)) w.heap.size 30 1 (.slice (some ⟨w.heap.size, 0, none⟩) 0 0) 0 []))
    have HO' : Bx (Apd (w.alloc (.cells #[] 30)) w.heap.size 30 1 (.slice (some ⟨w.heap.size, 0, none⟩) 0 0) 0 []) := ⟨HO.out⟩
    have HR := bx (hr.alloc hB (.cells #[] 30))
    have HC : Bx (∀ j u, (ints .u64 xs)[j]? = some u → (w.alloc (.cells #[] 30)).cell? (ad.add j) = some u) := ⟨fun j u hu => by
      obtain ⟨ad', e, _, h⟩ := HR.out.at_ hu
      cases e; exact h⟩
    have HM : Bx (0 + n ≤ maxLen) := ⟨by unfold maxLen; omega⟩
    have HM2 : Bx ((0 + n) * 8 ≤ 140737488355328) := ⟨by omega⟩
    have HB : Bx (w.heap.size ≤ (w.alloc (.cells #[] 30)).heap.size) := ⟨by simp⟩
    have HB0 := bx ((Below.refl w.heap.size w).alloc (Nat.le_refl _) (.cells #[] 30))
    clear hi0 HR
    go_enter Try.func78, Try.ntmps78
    go_wp2_with (at_builtin; (with_reducible refine wpList_pushAt rfl (.tmp 5) (.tmp 6) 36 rfl i0 _ 8 Try.underlying36 HI.out hz0 hz1 hz2 ?_ ?_ ?_ HO'.out ad n c (ints .u64 xs) ?_ hpos HL.out HC.out H1.out HM.out HM2.out HB.out ?_); rfl; omega; rfl; rfl; intro v' w' hown' _ hbel' _; have HW := bx hown'; have HB1 := bx hbel'; clear hown' hbel')
    go_ret
    have hw := HW.out
    rw [Nat.zero_add, List.nil_append] at hw
    obtain ⟨A2, c2, rfl⟩ := own_slice hw
    exact ⟨A2, c2, rfl, hw, HB0.out.trans HB1.out⟩
theorem own_nil {w : World} {base : Nat} {e : TypeId} {size n c : Nat} {A : Option Addr} {xs : List Value} (h : w.ownsRow base e size (.slice A n c) n xs) : A = none → c = 0 := fun hA => by
  rcases h.2 with ⟨h1, h2⟩ | ⟨g, cap, cur, h1, _⟩
  · injection h1 with _ _ h3
  · injection h1 with h3
    rw [hA] at h3; cases h3
theorem tbc_set {c : Ck} (h : c.2.length = 32) (s s' : Value) : (tbc c s).set 33 s' = tbc c s' := by
  unfold tbc
  rw [List.set_append, if_neg (by rw [ckc_len h]; decide), ckc_len h]; rfl
theorem URow.far {w w' : World} {A : Option Addr} {n k : Nat} {xs : List Int} (h : URow w A n xs) (hg : w.grownBy w' (some k)) (hne : ∀ g, A = some ⟨g, 0, none⟩ → 0 < n → k < g) : URow w' A n xs := ⟨h.1, fun hn => by
  obtain ⟨g, post, e, hx⟩ := h.2 hn
  exact ⟨g, post, e, hx.grown hg (ne_som (Nat.ne_of_gt (hne g e hn)))⟩⟩
theorem cells_u64s : Try.prog.cellsOf 36 = 1 := by kernel_rfl
/-- a copy of a table -/
def TbP (c : Ck) (n : Nat) (xs : List Int) (w : World) (e : Ending) (w' : World) : Prop :=
  ∃ (A : Option Addr) (cap : Nat), e = .returned (.agg (tbc c (.slice A n cap)).toArray) ∧ URow w' A n xs ∧ (A = none → cap = 0) ∧ (∀ ad, A = some ad → w.heap.size ≤ ad.block) ∧ Below w.heap.size w w'
set_option maxRecDepth 20000 in
set_option maxHeartbeats 1000000 in
theorem copyTable_any (B : Nat) (ck : Ck) (hck : ck.2.length = 32) (A : Option Addr) (n c : Nat) (xs : List Int) (hn : n ≤ 65535) (w : World) (hB : B ≤ w.heap.size) (hr : Row w B 1 A n (ints .u64 xs)) (hA : A = none → c = 0) :
    Calls Try.prog 41 #[.agg (tbc ck (.slice A n c)).toArray] w (TbP ck n xs w) := by
  have hl : xs.length = n := by have := hr.1; rwa [ints_len, Nat.mul_one] at this
  have HL := bx hl
  have HCK := bx hck
  have X1 := bx ((Has.new w (tbc ck (.slice A n c)) 38).alloc (.cells zt.toArray 38))
  have X2 : Bx (Has ((w.alloc (.cells (tbc ck (.slice A n c)).toArray 38)).alloc (.cells zt.toArray 38)) (w.heap.size + 1) zt) := ⟨has_newAt (alloc_size w _) zt _⟩
  have E1 := bx ((ext_alloc w (.cells (tbc ck (.slice A n c)).toArray 38)).alloc (by simp) (.cells zt.toArray 38))
  have CL := bx (cloneU_any B A n c xs hn _ (Nat.le_trans hB E1.out.size) (hr.below (E1.out.mono hB)) hA)
  have hcs : ((w.alloc (.cells (tbc ck (.slice A n c)).toArray 38)).alloc (.cells zt.toArray 38)).cell? ⟨w.heap.size, 33, none⟩ = some (.slice A n c) := (X1.out.cell 33).trans (tbc_slice hck _)
  clear hr hl
  go_enter Try.func41, Try.ntmps41
  go_upto_region 1 with ((with_reducible refine wpList_allocZ rfl 38 zt zero_table rfl ?_))
  go_wp2_with fail
  refine CL.out.mono ?_; rintro e w3 ⟨A3, c3, rfl, ho, hb⟩
  have Y1 := bx (X1.out.below hb X1.out.lt)
  have Y2 := bx (X2.out.below hb X2.out.lt)
  have B3 := bx (E1.out.trans (hb.mono E1.out.size))
  have U3 := bx (URow.own HL.out ho)
  have NC3 := bx (own_nil ho)
  have FR3 : Bx (∀ ad, A3 = some ad → w.heap.size ≤ ad.block) := ⟨fun ad e => by have := (ho.lt ad.block (by rw [e]; rfl)).1; simp at this; omega⟩
  have OB : Bx (∀ g, A3 = some ⟨g, 0, none⟩ → 0 < n → w.heap.size + 1 < g) := ⟨fun g e hn => by
    obtain ⟨g', c', post, e', hg', _⟩ := own_block ho hn
    injection e' with e1
    rw [e] at e1
    injection e1 with e1
    injection e1 with e1
    have : g = g' := e1
    simp at hg'
    omega⟩
  clear hb ho X1 X2 E1 CL hcs
  go_wp2_with (first | ((with_reducible refine wpList_storeS rfl 36 _ _ rfl w.heap.size 33 A3 n c3 _ ?_ ?_ Y1.out (by rw [tbc_len HCK.out]; decide) Try.underlying36 cells_u64s ?_); rfl; rfl; intro w4 hw hg; rw [tbc_set HCK.out] at hw; have Z1 := bx hw; have Z2 := bx (Y2.out.grown hg (ne_som (Nat.succ_ne_self _))); have U4 := bx (U3.out.far hg (fun g e h => Nat.lt_of_succ_lt (OB.out g e h))); have B4 := bx (B3.out.grown hg B3.out.size (fun k hk => by cases hk; exact Nat.le_refl _)); clear hw hg) | ((with_reducible refine wpList_loadG 38 _ rfl _ (tbc ck (.slice A3 n c3)) ?_ ?_ Z1.out Try.underlying38 rfl ?_ ?_); rfl; rfl; exact cells_tb HCK.out _) | ((with_reducible refine wpList_storeB rfl 38 _ _ rfl _ (tbc ck (.slice A3 n c3)) _ ?_ ?_ Z2.out (zt_len HCK.out _) Try.underlying38 (cells_tb HCK.out _) (tbc_one _ _ _ _) ?_); rfl; rfl; intro w5 hw hg hz; have Q2 := bx hw; have B5 := bx (B4.out.grown hg B4.out.size (fun k hk => by cases hk; exact Nat.le_succ _)); have U5 := bx (U4.out.far hg OB.out); clear hw hg hz))
  exact bodyPost_ret (results_cell (by rfl) _ (by rfl) Q2.out Try.underlying38 rfl (cells_tb HCK.out _)) rfl ⟨A3, c3, rfl, U5.out, NC3.out, FR3.out, B5.out⟩
end Go.Proofs.Ytekikfdlnkcenaa
