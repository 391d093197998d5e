/- crc.Table: the sums of single bytes. -/
import Derived.Test.YtibnbapbgbcpoaaDoorP0
import Derived.Laws.Tables
import Derived.Laws.Rows
namespace Go.Proofs.YtibnbapbgbcpoaaDoor.P
open Go.RowKit Go.Proofs.YtibnbapbgbcpoaaDoorW.PrintWords Go.Proofs.YtibnbapbgbcpoaaDoorW.PrintLast Go.Proofs.YtibnbapbgbcpoaaDoorW.PrintMore
set_option linter.unusedVariables false
set_option linter.unusedSimpArgs false

/-- A step; k steps. -/
def stN (n : Nat) : Nat := if n % 2 = 1 then (n / 2) ^^^ 3988292384 else n / 2
def itN : Nat → Nat → Nat
  | 0, n => n
  | k + 1, n => stN (itN k n)
def tN (i : Nat) : Nat := itN 8 i
theorem xor_u32 (a b : Nat) (ha : a < 4294967296) (hb : b < 4294967296) : Go.bits .xor .u32 (a : Int) (b : Int) = ((a ^^^ b : Nat) : Int) ∧ a ^^^ b < 4294967296 := by
  have hlt : a ^^^ b < 2 ^ 32 := Nat.xor_lt_two_pow (by omega) (by omega)
  refine ⟨?_, hlt⟩
  have ha' : a % 2 ^ 32 = a := Nat.mod_eq_of_lt ha
  have hb' : b % 2 ^ 32 = b := Nat.mod_eq_of_lt hb
  show IntKind.u32.wrap (((BitVec.ofInt 32 (a : Int)) ^^^ (BitVec.ofInt 32 (b : Int))).toNat : Int) = _
  rw [BitVec.ofInt_natCast, BitVec.ofInt_natCast, BitVec.toNat_xor, BitVec.toNat_ofNat, BitVec.toNat_ofNat, ha', hb', IntKind.wrap_u32]
  omega
theorem and1_u32 (a : Nat) (ha : a < 4294967296) : Go.bits .and .u32 (a : Int) 1 = ((a % 2 : Nat) : Int) := by
  have ha' : a % 2 ^ 32 = a := Nat.mod_eq_of_lt ha
  show IntKind.u32.wrap (((BitVec.ofInt 32 (a : Int)) &&& (BitVec.ofInt 32 ((1 : Nat) : Int))).toNat : Int) = _
  rw [BitVec.ofInt_natCast, BitVec.ofInt_natCast, BitVec.toNat_and, BitVec.toNat_ofNat, BitVec.toNat_ofNat, ha', IntKind.wrap_u32, show 1 % 2 ^ 32 = 1 from rfl, Nat.and_one_is_mod]
  omega
theorem st_lt (n : Nat) (h : n < 4294967296) : stN n < 4294967296 := by
  unfold stN
  split
  · exact (xor_u32 (n / 2) 3988292384 (by omega) (by omega)).2
  · omega
theorem it_lt (n : Nat) (h : n < 4294967296) : ∀ k, itN k n < 4294967296
  | 0 => h
  | k + 1 => st_lt _ (it_lt n h k)
def tabRow (i : Nat) : Array Value := ((List.range i).map (fun j => Value.int .u32 ((tN j : Nat) : Int)) ++ List.replicate (256 - i) (Value.int .u32 0)).toArray
theorem tab_zero : Tryd.zeroCells28 = tabRow 0 := by kernel_rfl
theorem tab_size (i : Nat) (h : i ≤ 256) : (tabRow i).size = 256 := by simp [tabRow]; omega
theorem tab_get (i : Nat) (h : i < 256) : (tabRow i)[i]? = some (.int .u32 0) := by
  simp only [tabRow, List.getElem?_toArray]
  rw [List.getElem?_append_right (by simp)]
  simp only [List.length_map, List.length_range, Nat.sub_self, List.getElem?_replicate]
  rw [if_pos (by omega)]
theorem tab_set (i : Nat) (h : i < 256) : (tabRow i).setIfInBounds i (.int .u32 ((tN i : Nat) : Int)) = tabRow (i + 1) := by
  apply Array.ext'
  simp only [tabRow, Array.toList_setIfInBounds]
  rw [List.set_append_right _ _ (by simp), List.range_succ, List.map_append]
  simp only [List.length_map, List.length_range, Nat.sub_self]
  obtain ⟨m, hm⟩ : ∃ m, 256 - i = m + 1 := ⟨256 - i - 1, by omega⟩
  rw [hm, show 256 - (i + 1) = m from by omega, List.replicate_succ]
  simp

structure Tab (w : World) (i : Nat) (W : World) : Prop where
  r : W.heap[w.heap.size]? = some (.cells (tabRow 0) 28 (0, 0))
  t : W.heap[w.heap.size + 1]? = some (.cells (tabRow i) 28 (0, 0))
  below : Below w.heap.size w W
theorem Tab.start (w : World) : Tab w 0 ((w.alloc (Obj.cells Tryd.zeroCells28 28)).alloc (Obj.cells Tryd.zeroCells28 28)) := by
  rw [tab_zero]
  refine ⟨blk_alloc (heap_alloc_new _ _) _, ?_, below_alloc (below_alloc (Below.refl _ _) _) _⟩
  have := heap_alloc_new (w.alloc (Obj.cells (tabRow 0) 28)) (Obj.cells (tabRow 0) 28)
  rwa [World.size_alloc] at this
theorem Tab.step {w W : World} {i : Nat} (h : Tab w i W) (hi : i < 256) : Tab w (i + 1) (W.setCell ⟨w.heap.size + 1, i, none⟩ (.int .u32 ((tN i : Nat) : Int))) := by
  refine ⟨blk_far h.r (show w.heap.size ≠ w.heap.size + 1 by omega) _, ?_, below_set h.below (by omega)⟩
  rw [← tab_set i hi]
  exact blk_set h.t i _

set_option maxRecDepth 100000 in
set_option maxHeartbeats 4000000 in
theorem table_calls (w : World) : Calls Tryd.prog 14 #[] w fun e w' => e = .returned (.agg (tabRow 256)) ∧ Below w.heap.size w w' := by
  go_enter Tryd.func14, Tryd.ntmps14
  go_wp2
  go_loopw [4] (fun v4 wr => ∃ i : Nat, i ≤ 256 ∧ v4 = .int .i64 i ∧ Aside0 (Tab w i wr))
    (fun v4 _ => 256 - (intOf v4).toNat)
  case atStart => exact ⟨0, Nat.zero_le _, rfl, ⟨Tab.start w⟩⟩
  case round =>
    obtain ⟨i, hi, rfl, HT⟩ := hrel
    by_cases hlt : i < 256
    · go_wp2
      go_loopg [3, 9] 8 (fun kq v3 v9 w' => ∃ j : Nat, v3 = .int .u32 ((itN j i : Nat) : Int) ∧ v9 = .int .i64 j ∧ j + kq = 8 ∧ w' = wr)
      case atStart => exact ⟨0, by first | rfl | simp [itN], rfl, by omega, rfl⟩
      case round =>
        obtain ⟨j, rfl, rfl, hj, rfl⟩ := hrel
        have hx := it_lt i (by omega) j
        by_cases hjl : j < 8
        · obtain ⟨k1, rfl⟩ : ∃ k1, gk = k1 + 1 := ⟨gk - 1, by omega⟩
          obtain ⟨x, hxe⟩ : ∃ x, itN j i = x := ⟨_, rfl⟩
          rw [hxe] at hx ⊢
          have hand := and1_u32 x hx
          have HX := Aside0.mk hxe
          clear hxe
          by_cases ho : x % 2 = 1
          · rw [ho] at hand
            have HO := Aside0.mk ho
            clear ho
            go_wp2
            go_roundg k1
            case measure => omega
            case rel => exact ⟨j + 1, by
              show Value.int .u32 _ = Value.int .u32 ((stN (itN j i) : Nat) : Int)
              rw [HX.out]
              unfold stN
              rw [if_pos HO.out, ← (xor_u32 (x / 2) 3988292384 (by omega) (by omega)).1]
              rfl, by go_num, by omega, rfl⟩
          · have h0 : x % 2 = 0 := by omega
            rw [h0] at hand
            have HO := Aside0.mk ho
            clear ho h0
            go_wp2
            go_roundg k1
            case measure => omega
            case rel => exact ⟨j + 1, by
              show Value.int .u32 _ = Value.int .u32 ((stN (itN j i) : Nat) : Int)
              rw [HX.out]
              unfold stN
              rw [if_neg HO.out]
              rfl, by go_num, by omega, rfl⟩
        · obtain rfl : j = 8 := by omega
          have hc := (blk_cell HT.out.t i).trans (tab_get i hlt)
          have hf := blk_frozen HT.out.t i
          go_wp2
          go_roundw
          case rel => exact ⟨i + 1, by omega, by go_num, ⟨HT.out.step hlt⟩⟩
          case measure => simp [intOf]; omega
    · obtain rfl : i = 256 := by omega
      go_wp2_with (first
        | (refine wpList_load_row rfl 28 (.tmp 1) rfl (w.heap.size + 1) rfl 28 (tabRow 256) (0, 0) _ HT.out.t Tryd.underlying28 rfl (by kernel_rfl) ?_)
        | (refine wpList_store_row rfl 28 (.tmp 0) (.tmp 24) rfl w.heap.size (tabRow 256) rfl rfl 28 _ HT.out.r (by kernel_rfl) (by kernel_rfl) (by kernel_rfl) ?_))
      refine ⟨by rfl, _, results_cell_row (P := Tryd.prog) (fn := Tryd.f14) rfl _ _ w.heap.size 28 (tabRow 256) (0, 0) _ rfl (setRow_heap _ _ _ _ _ _ HT.out.r) Tryd.underlying28 rfl (by kernel_rfl), rfl, ?_⟩
      exact ⟨HT.out.below.os, HT.out.below.tape, HT.out.below.output, by rw [size_setRow]; exact HT.out.below.size, fun k hk => (setRow_other _ _ _ _ (by omega)).trans (HT.out.below.block k hk)⟩
end Go.Proofs.YtibnbapbgbcpoaaDoor.P
