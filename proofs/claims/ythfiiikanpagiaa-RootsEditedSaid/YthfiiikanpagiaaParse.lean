/- Contracts of Parse of roots and of its reference. -/
import Derived.Test.YthfiiikanpagiaaFormat
import Derived.Lib.ConvBytes
namespace Go.Proofs.Ythfiiikanpagiaa
open Go.RowKit

/-- the value of a hexadecimal digit, -1 for another byte -/
def hexD (c : Int) : Int := if 48 ≤ c ∧ c ≤ 57 then c - 48 else if 97 ≤ c ∧ c ≤ 102 then c - 87 else -1
/-- the bytes of a string, as numbers -/
def numsOf (s : ByteArray) : List Int := s.data.toList.map fun b => (b.toNat : Int)
/-- the digits behind the prefix -/
def digs (s : ByteArray) : List Int := (numsOf s).drop 2
/-- the first k digits as half bytes of a root -/
def packL (d : List Int) (k : Nat) : List Int := (List.range 32).map fun j => if 2 * j + 1 < k then hexD (d.getD (2 * j) 0) * 16 + hexD (d.getD (2 * j + 1) 0) else if 2 * j < k then hexD (d.getD (2 * j) 0) else 0
def parseOk (s : ByteArray) : Prop := s.size = 66 ∧ ((s.extract 0 2).toList == [48, 120]) = true ∧ ∀ c ∈ digs s, 0 ≤ hexD c
open Classical in
noncomputable def parseV (s : ByteArray) : List Int := if parseOk s then packL (digs s) 64 else zroot
open Classical in
noncomputable def parseE (s : ByteArray) : Int := if parseOk s then 0 else 1

theorem hexD_le (c : Int) : hexD c ≤ 15 := by unfold hexD; split <;> (try split) <;> omega
theorem hexD_ge (c : Int) : -1 ≤ hexD c := by unfold hexD; split <;> (try split) <;> omega

def hexNums : List Int := [48, 49, 50, 51, 52, 53, 54, 55, 56, 57, 97, 98, 99, 100, 101, 102]
theorem hexD_index (c : Int) (h0 : 0 ≤ c) (h1 : c < 256) : Lib.indexByte (Lib.bytesOf hexNums) c.toNat.toUInt8 = hexD c := by
  obtain ⟨n, rfl⟩ := Int.eq_ofNat_of_zero_le h0
  have h : ∀ n : Fin 256, Lib.indexByte (Lib.bytesOf hexNums) ((n.val : Int).toNat.toUInt8) = hexD (n.val : Int) := by decide +kernel
  exact h ⟨n, by omega⟩

theorem indexByte_hex {g : Nat} {w : World} (hc : ∀ j u, (ints .u8 hexNums)[j]? = some u → w.cell? ⟨g, j, none⟩ = some u) (c : Int) (h0 : 0 ≤ c) (h1 : c < 256) :
    Calls Try.prog 33 #[.slice (some ⟨g, 0, none⟩) 16 16, .int .u8 c] w fun e w' => e = .returned (.int .i64 (hexD c)) ∧ w = w' := by
  have hr : (callFunc 40 #[.slice (some ⟨g, 0, none⟩) 16 16, .int .u8 c]).run Try.prog w = .ok (.value (.int .i64 (hexD c))) w := by
    rw [run_callFunc_extern Try.func40 (by kernel_rfl) (by kernel_rfl) (by kernel_rfl) (e := Extern.BytealgIndexByte.indexByte) (by kernel_rfl)]
    rw [Lib.run_indexByteSlice (P := Try.prog) w g 0 16 16 hexNums rfl (fun i hi => by
      rw [Nat.zero_add]
      exact hc i _ (by rw [ints, List.getElem?_map, List.getElem?_eq_getElem (show i < hexNums.length from hi)]; simp [List.getD_eq_getElem?_getD, List.getElem?_eq_getElem (show i < hexNums.length from hi)])) c, hexD_index c h0 h1]
    rfl
  clear hc
  go_enter Try.func33, Try.ntmps33
  go_wp2
  go_ret
  exact ⟨rfl, rfl⟩

theorem one_ints (k : IntKind) (l : List Int) : ∀ u ∈ ints k l, u.oneCell' = true := fun u hu => by
  obtain ⟨x, _, rfl⟩ := List.mem_map.1 hu; rfl

/-- no text of a root: the length -/
theorem parse_size {s : ByteArray} (hs : s.size ≤ 9223372036854775807) (h : s.size ≠ 66) (w : World) :
    Calls Try.prog 14 #[.string s] w fun e w' => e = .returned (.tuple #[.agg (ints .u8 zroot).toArray, .int .i64 1]) ∧ Below w.heap.size w w' := by
  have hz := zroot_lit
  have hne : ((s.size : Int) != 66) = true := by simp; omega
  have HR := Lib.hid ((Has.new w (ints .u8 zroot) 23).alloc (.cells (ints .u8 zroot).toArray 23))
  have hb0 : Hid (Below w.heap.size w ((w.alloc (.cells (ints .u8 zroot).toArray 23)).alloc (.cells (ints .u8 zroot).toArray 23))) := ((Below.refl _ _).alloc (Nat.le_refl _) _).alloc (by simp) _
  go_enter Try.func14, Try.ntmps14
  go_wp2_with ((with_reducible refine wpList_storeB rfl 23 _ _ rfl _ (ints .u8 zroot) _ ?_ ?_ HR.out ?_ Try.underlying23 ?_ (one_ints _ _) ?_); rfl; rfl; rfl; kernel_rfl; intro w1 hw1 hg1 hz1)
  exact bodyPost_ret (results_cell_tmp (by rfl) _ (by rfl) hw1 Try.underlying23 rfl (by kernel_rfl)) rfl ⟨rfl, hb0.out.grown hg1 (by simp; omega) (fun k hk => by cases hk; exact Nat.le_refl _)⟩

/-- no text of a root: the prefix -/
theorem parse_prefix {s : ByteArray} (h : s.size = 66) (hp : (!(s.extract 0 2).toList == [48, 120]) = true) (w : World) :
    Calls Try.prog 14 #[.string s] w fun e w' => e = .returned (.tuple #[.agg (ints .u8 zroot).toArray, .int .i64 1]) ∧ Below w.heap.size w w' := by
  have hz := zroot_lit
  have hne : ((s.size : Int) != 66) = false := by simp; omega
  have h1 : 2 ≤ s.size := by omega
  clear h
  have HR := Lib.hid ((Has.new w (ints .u8 zroot) 23).alloc (.cells (ints .u8 zroot).toArray 23))
  have hb0 : Hid (Below w.heap.size w ((w.alloc (.cells (ints .u8 zroot).toArray 23)).alloc (.cells (ints .u8 zroot).toArray 23))) := ((Below.refl _ _).alloc (Nat.le_refl _) _).alloc (by simp) _
  go_enter Try.func14, Try.ntmps14
  go_wp2_with ((with_reducible refine wpList_storeB rfl 23 _ _ rfl _ (ints .u8 zroot) _ ?_ ?_ HR.out ?_ Try.underlying23 ?_ (one_ints _ _) ?_); rfl; rfl; rfl; kernel_rfl; intro w1 hw1 hg1 hz1)
  exact bodyPost_ret (results_cell_tmp (by rfl) _ (by rfl) hw1 Try.underlying23 rfl (by kernel_rfl)) rfl ⟨rfl, hb0.out.grown hg1 (by simp; omega) (fun k hk => by cases hk; exact Nat.le_refl _)⟩

theorem digs_length {s : ByteArray} (h : s.size = 66) : (digs s).length = 64 := by
  have : s.data.toList.length = 66 := by rw [Array.length_toList]; exact h
  simp [digs, numsOf, this]
theorem digs_byte {s : ByteArray} {c : Int} (h : c ∈ digs s) : 0 ≤ c ∧ c < 256 := by
  have h := List.mem_of_mem_drop h
  obtain ⟨b, _, rfl⟩ := List.mem_map.1 h
  have := b.toNat_lt
  omega

/-- the conversion of the digits to bytes: new memory -/
theorem conv_digs {s : ByteArray} (h : s.size = 66) (W : World) : ∃ (W1 : World) (c1 : Nat), (convert 9 33 (.string (s.extract 2 s.size))).run Try.prog W = .ok (.slice (some ⟨W.heap.size, 0, none⟩) 64 c1) W1 ∧
    Below W.heap.size W W1 ∧ W1.heap.size = W.heap.size + 1 ∧ ∀ j u, (ints .u8 (digs s))[j]? = some u → W1.cell? ⟨W.heap.size, j, none⟩ = some u := by
  have hr := Lib.run_convert_string_bytes (P := Try.prog) W 9 33 5 (s.extract 2 s.size) Try.underlying9 Try.underlying33 Try.underlying5
  have hl : (s.extract 2 s.size).size = 64 := by simp [h]
  rw [hl] at hr
  refine ⟨_, _, hr, ⟨rfl, rfl, rfl, by rw [Lib.bytesWorld_size]; omega, fun k hk => Lib.bytesWorld_at_old _ _ _ _ hk⟩, Lib.bytesWorld_size _ _ _, fun j u hu => ?_⟩
  have hj : j < 64 := by
    rcases Nat.lt_or_ge j 64 with h' | h'
    · exact h'
    · rw [List.getElem?_eq_none (by simp [ints, digs_length h]; omega)] at hu; simp at hu
  rw [Lib.bytesWorld_cell _ _ _ j (by rw [hl]; exact hj)]
  have hd : (s.extract 2 s.size).data.toList = s.data.toList.drop 2 := by
    have : s.data.toList.length = 66 := by rw [Array.length_toList]; exact h
    simp [ByteArray.data_extract, List.extract_eq_take_drop, h]
    rw [List.take_of_length_le (by simp [this])]
  have h2 : 2 + j < s.data.size := by have : s.data.size = 66 := h; omega
  rw [hd, ← hu]
  simp [ints, digs, numsOf, List.getD_eq_getElem?_getD, Array.getElem?_eq_getElem h2]

theorem packL_zero (d : List Int) : packL d 0 = zroot := by
  apply List.ext_getElem
  · simp [packL, zroot]
  · intro j h1 h2
    have : ∀ (n : Nat) (h : j < (List.replicate n (0 : Int)).length), (List.replicate n (0 : Int))[j] = 0 := fun n h => List.getElem_replicate ..
    rw [show zroot[j] = 0 from this 32 (by simpa [packL] using h1)]
    simp [packL]
theorem packL_length (d : List Int) (k : Nat) : (packL d k).length = 32 := by simp [packL]
theorem packL_get (d : List Int) (k j : Nat) (hj : j < 32) : (packL d k).getD j 0 = if 2 * j + 1 < k then hexD (d.getD (2 * j) 0) * 16 + hexD (d.getD (2 * j + 1) 0) else if 2 * j < k then hexD (d.getD (2 * j) 0) else 0 := by
  simp [packL, List.getD_eq_getElem?_getD, hj]
/-- one more digit -/
theorem packL_step (d : List Int) (k : Nat) (hk : k < 64) : packL d (k + 1) = (packL d k).set (k / 2) (if k % 2 = 0 then hexD (d.getD k 0) else (packL d k).getD (k / 2) 0 * 16 + hexD (d.getD k 0)) := by
  apply List.ext_getElem
  · simp [packL]
  · intro j h1 h2
    have hj : j < 32 := by simpa [packL] using h1
    rw [List.getElem_set]
    have e1 : (packL d (k + 1))[j]'h1 = (packL d (k + 1)).getD j 0 := (getD_get _ _ h1).symm
    have e2 : (packL d k)[j]'(by rw [packL_length]; exact hj) = (packL d k).getD j 0 := (getD_get _ _ (by rw [packL_length]; exact hj)).symm
    rw [e1, e2, packL_get d (k + 1) j hj, packL_get d k j hj]
    by_cases hkj : k / 2 = j
    · subst hkj
      rw [if_pos rfl]
      by_cases hp : k % 2 = 0
      · rw [if_pos hp, if_neg (by omega), if_pos (by omega), show 2 * (k / 2) = k by omega]
      · rw [if_neg hp, if_pos (by omega), packL_get d k (k / 2) (by omega), if_neg (by omega), if_pos (by omega), show 2 * (k / 2) + 1 = k by omega]
    · rw [if_neg hkj]
      by_cases c1 : 2 * j + 1 < k
      · rw [if_pos (by omega), if_pos c1]
      · by_cases c2 : 2 * j < k
        · omega
        · rw [if_neg (by omega), if_neg (by omega), if_neg c1, if_neg c2]
theorem packL_old (d : List Int) (k : Nat) (hk : k < 64) (hall : ∀ j, j < k → 0 ≤ hexD (d.getD j 0)) :
    (k % 2 = 0 → (packL d k).getD (k / 2) 0 = 0) ∧ 0 ≤ (packL d k).getD (k / 2) 0 ∧ (packL d k).getD (k / 2) 0 ≤ 15 := by
  rw [packL_get d k (k / 2) (by omega), if_neg (by omega)]
  by_cases c : 2 * (k / 2) < k
  · rw [if_pos c]
    have := hexD_le (d.getD (2 * (k / 2)) 0)
    have := hall _ c
    exact ⟨fun h => by omega, this, by omega⟩
  · rw [if_neg c]
    exact ⟨fun _ => rfl, by omega, by omega⟩

theorem or_join (old x : Int) (h0 : 0 ≤ old) (h1 : old ≤ 15) (h2 : 0 ≤ x) (h3 : x ≤ 15) : bits .or .u8 (old * 16) x = old * 16 + x := by
  rw [u8_or _ _ (by omega) (by omega) (by omega) (by omega)]
  have := nat_join 4 (old * 16).toNat x.toNat (by omega) (by omega)
  rw [this]; omega
theorem ints_set (k : IntKind) (l : List Int) (i : Nat) (x : Int) : (ints k l).set i (.int k x) = ints k (l.set i x) := by simp [ints, List.map_set]

/-- what Parse answers at a text of the right form with the digits d -/
def ParsePost (d : List Int) (w : World) (e : Ending) (w' : World) : Prop :=
  (if ∀ c ∈ d, 0 ≤ hexD c then e = .returned (.tuple #[.agg (ints .u8 (packL d 64)).toArray, .int .i64 0]) else e = .returned (.tuple #[.agg (ints .u8 zroot).toArray, .int .i64 1])) ∧ Below w.heap.size w w'

set_option maxHeartbeats 400000 in
theorem parse_run {s : ByteArray} (h : s.size = 66) (hp : (!(s.extract 0 2).toList == [48, 120]) = false) (w : World) :
    Calls Try.prog 14 #[.string s] w (ParsePost (digs s) w) := by
  have hz := zroot_lit
  have hne : ((s.size : Int) != 66) = false := by simp; omega
  have h1 : 2 ≤ s.size := by omega
  have hdl := Lib.hid (digs_length h)
  have hdb : Hid (∀ c ∈ digs s, 0 ≤ c ∧ c < 256) := fun c hc => digs_byte hc
  obtain ⟨W1, c1, hconv, hbW, hsW, hcW⟩ := conv_digs h ((w.alloc (.cells (ints .u8 zroot).toArray 23)).alloc (.cells (ints .u8 zroot).toArray 23))
  simp only [World.size_alloc] at hconv hbW hsW hcW
  have HR0 := Lib.hid (((Has.new w (ints .u8 zroot) 23).alloc (.cells (ints .u8 zroot).toArray 23)).below hbW (by omega))
  have HR1 := Lib.hid ((show Has _ (w.heap.size + 1) (ints .u8 zroot) from (by have := Has.new (w.alloc (.cells (ints .u8 zroot).toArray 23)) (ints .u8 zroot) 23; simpa using this)).below hbW (by omega))
  have hb0 : Hid (Below w.heap.size w W1) := (((Below.refl _ _).alloc (Nat.le_refl _) _).alloc (by simp) _).trans (hbW.mono (by omega))
  have HC := Lib.hid hcW
  have HSZ := Lib.hid hsW
  clear h hbW hcW hsW
  generalize hd : digs s = d at *
  clear hd
  go_enter Try.func14, Try.ntmps14
  go_wp2
  go_loopw [21] (fun i wr => ∃ k : Nat, k ≤ 64 ∧ i = .int .i64 k ∧ (∀ j, j < k → 0 ≤ hexD (d.getD j 0)) ∧ Has wr (w.heap.size + 1) (ints .u8 (packL d k)) ∧ Has wr w.heap.size (ints .u8 zroot) ∧
    (∀ j u, (ints .u8 d)[j]? = some u → wr.cell? ⟨w.heap.size + 2, j, none⟩ = some u) ∧ Below w.heap.size w wr ∧ w.heap.size + 3 ≤ wr.heap.size) (fun i _ => 64 - (intOf i).toNat)
  case atStart => exact ⟨0, by omega, rfl, fun j hj => by omega, by rw [packL_zero]; exact HR1.out, HR0.out, HC.out, hb0.out, by rw [HSZ.out]; exact Nat.le_refl _⟩
  case round =>
    obtain ⟨k, hk, rfl, hall, hr1, hr0, hcs, hbel, hsz⟩ := hrel
    by_cases hlt : k < 64
    · have hkd : k < d.length := by rw [hdl.out]; exact hlt
      have hcb := hdb.out (d.getD k 0) (by rw [getD_get d k hkd]; exact List.getElem_mem _)
      have hck := hcs k (.int .u8 (d.getD k 0)) (by rw [ints, List.getElem?_map, List.getElem?_eq_getElem hkd, getD_get d k hkd]; rfl)
      have hst := Lib.hid (packL_step d k hlt)
      have hold := packL_old d k hlt hall
      have kc : (convert 33 33 (.slice (some ⟨wr.heap.size, 0, none⟩) 16 16)).run Try.prog (wr.alloc (.cells #[.int .u8 48, .int .u8 49, .int .u8 50, .int .u8 51, .int .u8 52, .int .u8 53, .int .u8 54, .int .u8 55, .int .u8 56, .int .u8 57, .int .u8 97, .int .u8 98, .int .u8 99, .int .u8 100, .int .u8 101, .int .u8 102] 5)) =
          .ok (.slice (some ⟨wr.heap.size, 0, none⟩) 16 16) (wr.alloc (.cells (ints .u8 hexNums).toArray 5 (16, 17))) :=
        Lib.run_convert_bytes_const (P := Try.prog) wr 33 5 (ints .u8 hexNums).toArray 16 16 Try.underlying33 Try.underlying5
      have HIB := Lib.hid (indexByte_hex (g := wr.heap.size) (w := wr.alloc (.cells (ints .u8 hexNums).toArray 5 (16, 17))) (fun j u hu => by
        rw [cell_of_row _ _ _ (ints .u8 hexNums).toArray 5 (16, 17) (heap_alloc_new wr _)]; simpa using hu) (d.getD k 0) hcb.1 hcb.2)
      have hle := hexD_le (d.getD k 0)
      have hl1 : (wr.alloc (.cells (ints .u8 hexNums).toArray 5 (16, 17))).cell? ⟨w.heap.size + 1, k / 2, none⟩ = some (.int .u8 ((packL d k).getD (k / 2) 0)) := by
        rw [(hr1.alloc _).cell (k / 2), ints, List.getElem?_map, List.getElem?_eq_getElem (by rw [packL_length]; omega), getD_get _ _ (by rw [packL_length]; omega)]; rfl
      have hf1 : (wr.alloc (.cells (ints .u8 hexNums).toArray 5 (16, 17))).frozen? ⟨w.heap.size + 1, k / 2, none⟩ = false := (hr1.alloc _).frozen _
      have HALL := Lib.hid hall
      have HR1' := Lib.hid hr1
      have HR0' := Lib.hid hr0
      have HCS := Lib.hid hcs
      have HBEL := Lib.hid hbel
      have HOLD := Lib.hid hold
      have ho1 := hold.2.1
      have ho2 := hold.2.2
      clear hall hr1 hr0 hcs hbel hold
      have hmem : Hid (d.getD k 0 ∈ d) := by rw [getD_get d k hkd]; exact List.getElem_mem _
      generalize hcd' : d.getD k 0 = c at *
      have hcd := Lib.hid hcd'
      clear hcd'
      generalize (packL d k).getD (k / 2) 0 = old at *
      by_cases hneg : hexD c < 0
      · have HR0'' := Lib.hid (HR0'.out.alloc (.cells (ints .u8 hexNums).toArray 5 (16, 17)))
        have hbel' : Hid (Below w.heap.size w (wr.alloc (.cells (ints .u8 hexNums).toArray 5 (16, 17)))) := HBEL.out.alloc (by omega) _
        go_wp2_with (first | (go_at_call 33; refine HIB.out.mono ?_; rintro e w' ⟨rfl, rfl⟩) | ((with_reducible refine wpList_storeB rfl 23 _ _ rfl _ (ints .u8 zroot) _ ?_ ?_ HR0''.out ?_ Try.underlying23 ?_ (one_ints _ _) ?_); rfl; rfl; rfl; kernel_rfl; intro w2 hw2 hg2 _; have HW2 := Lib.hid hw2; have HG2 := Lib.hid hg2; clear hw2 hg2))
        refine bodyPost_ret (results_cell_tmp (by rfl) _ (by rfl) HW2.out Try.underlying23 rfl (by kernel_rfl)) rfl ⟨?_, hbel'.out.grown HG2.out (by simp; omega) (fun k hk => by cases hk; exact Nat.le_refl _)⟩
        rw [if_neg (fun hh => by have := hh c hmem.out; omega)]
        rfl
      · have HOR := Lib.hid (or_join old (hexD c) ho1 ho2 (by omega) hle)
        go_wp2_with (go_at_call 33; refine HIB.out.mono ?_; rintro e w' ⟨rfl, rfl⟩)
        go_roundw
        case rel =>
          refine ⟨k + 1, by omega, by go_num, fun j hj => ?_, ?_, ?_, fun j u hu => ?_, ?_, ?_⟩
          · rcases Nat.lt_or_ge j k with h | h
            · exact HALL.out j h
            · obtain rfl : j = k := by omega
              rw [hcd.out]; omega
          · have h2 := (HR1'.out.alloc (.cells (ints .u8 hexNums).toArray 5 (16, 17))).set (k / 2) (.int .u8 (bits .or .u8 (old * 16) (hexD c)))
            rw [ints_set, HOR.out] at h2
            rw [hst.out, HOR.out]
            by_cases hp : k % 2 = 0
            · rw [if_pos hp]
              have h0 := HOLD.out.1 hp
              subst h0
              simpa using h2
            · rw [if_neg hp]
              exact h2
          · exact (HR0'.out.alloc _).far (by simp) _
          · rw [World.cell?_setCell_other _ _ _ _ (by simp), World.cell?_alloc_lt _ _ _ (by simp; omega)]
            exact HCS.out j u hu
          · exact (HBEL.out.alloc (by omega) _).setCell (by simp) _
          · simp [World.setCell]; omega
        case measure => simp [intOf]; omega
    · obtain rfl : k = 64 := by omega
      have HR1' := Lib.hid hr1
      have HR0' := Lib.hid hr0
      have HBEL := Lib.hid hbel
      have HALL := Lib.hid hall
      clear hr1 hr0 hbel hall hcs
      go_wp2_with (first | ((with_reducible refine wpList_storeB rfl 23 _ _ rfl _ (ints .u8 (packL d 64)) _ ?_ ?_ HR0'.out ?_ Try.underlying23 ?_ (one_ints _ _) ?_); rfl; rfl; simp [ints, zroot, packL]; simp [ints, packL]; kernel_rfl; intro w2 hw2 hg2 _; have HW2 := Lib.hid hw2; have HG2 := Lib.hid hg2; clear hw2 hg2) | ((with_reducible refine wpList_loadB rfl 23 _ rfl _ _ ?_ HR1'.out Try.underlying23 ?_ ?_ ?_); rfl; rfl; simp [ints, packL]; kernel_rfl))
      refine bodyPost_ret (results_cell_tmp (by rfl) _ (by rfl) HW2.out Try.underlying23 rfl (by simp [ints, packL]; kernel_rfl)) rfl ⟨?_, HBEL.out.grown HG2.out (by omega) (fun k hk => by cases hk; exact Nat.le_refl _)⟩
      rw [if_pos (fun c hc => ?_)]
      · rfl
      · obtain ⟨j, hj, rfl⟩ := List.getElem_of_mem hc
        have := HALL.out j (by rw [← hdl.out]; exact hj)
        rwa [getD_get d j hj] at this
end Go.Proofs.Ythfiiikanpagiaa
