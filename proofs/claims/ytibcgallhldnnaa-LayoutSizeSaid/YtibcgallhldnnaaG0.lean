/- Plain law: slices.Concat over rows of bytes ends with the rows one behind the other, where they hold at most 2^39 bytes together. -/
import Derived.Test.YtibcgallhldnnaaPf29
namespace Go.Proofs.Ytibcgallhldnnaa.P
open Go.RowKit Go.Proofs.YtibcgallhldnnaaW.PrintWords Go.Proofs.YtibcgallhldnnaaW.PrintLast Go.Proofs.YtibcgallhldnnaaW.PrintMore
set_option linter.unusedVariables false
set_option linter.unusedSimpArgs false

theorem wrap_is (i : Int) (h0 : -9223372036854775808 ≤ i) (h : i < 9223372036854775808) : wrap64 i = i := by unfold wrap64; omega
theorem wrap_nat (i : Nat) (h : i < 4611686018427387904) : wrap64 ((i : Int) + 1) = ((i + 1 : Nat) : Int) := by unfold wrap64; omega
theorem rd_at (ls : List (List Int)) (i : Nat) (h : i < ls.length) : rd_L6 ls (i : Int) = ls[i] := by
  unfold rd_L6
  rw [Int.toNat_natCast, List.getD_eq_getElem?_getD, List.getElem?_eq_getElem h]; rfl
theorem flat_take (ls : List (List Int)) (i : Nat) (h : i < ls.length) : (ls.take (i + 1)).flatten = (ls.take i).flatten ++ ls[i] := by
  rw [List.take_succ_eq_append_getElem h, List.flatten_append]; simp
theorem flat_le (ls : List (List Int)) (i : Nat) : (ls.take i).flatten.length ≤ ls.flatten.length := by
  have : ls.flatten = (ls.take i).flatten ++ (ls.drop i).flatten := by rw [← List.flatten_append, List.take_append_drop]
  rw [this, List.length_append]; omega
theorem concat_l1 (ls : List (List Int)) (hn : ls.length ≤ 1000000) (hl : ls.flatten.length ≤ 549755813888) : ∀ m i : Nat, i + m = ls.length →
    slices_Concat_byte_byte.l1 (m + 1) (ls.take i).flatten ls (ls.length : Int) (i : Int) = some ls.flatten
  | 0, i, hi => by
    obtain rfl : i = ls.length := by omega
    rw [slices_Concat_byte_byte.l1, if_neg (by omega), List.take_length]
  | m + 1, i, hi => by
    have h : i < ls.length := by omega
    have h1 := flat_le ls (i + 1)
    rw [flat_take ls i h, List.length_append] at h1
    rw [slices_Concat_byte_byte.l1, if_pos (by omega), if_pos (by omega), if_pos (by omega), rd_at ls i h, if_pos (by omega), wrap_nat i (by omega), ← flat_take ls i h]
    exact concat_l1 ls hn hl m (i + 1) (by omega)
theorem concat_l0 (ls : List (List Int)) (hn : ls.length ≤ 1000000) (hl : ls.flatten.length ≤ 549755813888) : ∀ m i : Nat, i + m = ls.length →
    slices_Concat_byte_byte.l0 (m + 1 + (ls.length + 1)) ls (((ls.take i).flatten.length : Nat) : Int) ls (ls.length : Int) (i : Int) = some ls.flatten
  | 0, i, hi => by
    obtain rfl : i = ls.length := by omega
    rw [Nat.zero_add, Nat.add_comm 1, slices_Concat_byte_byte.l0, if_neg (by omega), List.take_length]
    unfold slices_Grow_byte_byte.f
    rw [if_pos rfl, if_pos (by omega), if_pos (by omega)]
    exact concat_l1 ls hn hl ls.length 0 (by omega)
  | m + 1, i, hi => by
    have h : i < ls.length := by omega
    have h1 := flat_le ls (i + 1)
    rw [flat_take ls i h, List.length_append] at h1
    have e : wrap64 ((((ls.take i).flatten.length : Nat) : Int) + ((ls[i]).length : Int)) = (((ls.take (i + 1)).flatten.length : Nat) : Int) := by
      rw [wrap_is _ (by omega) (by omega), flat_take ls i h, List.length_append]; omega
    rw [show m + 1 + 1 + (ls.length + 1) = (m + 1 + (ls.length + 1)) + 1 from by omega, slices_Concat_byte_byte.l0, if_pos (by omega), if_pos (by omega), if_pos (by omega), rd_at ls i h, e, if_neg (by omega), wrap_nat i (by omega)]
    exact concat_l0 ls hn hl m (i + 1) (by omega)
theorem concat_all (ls : List (List Int)) (hn : ls.length ≤ 1000000) (hl : ls.flatten.length ≤ 549755813888) : ∃ k, slices_Concat_byte_byte.f k ls = some ls.flatten :=
  ⟨ls.length + 1 + (ls.length + 1), concat_l0 ls hn hl ls.length 0 (by omega)⟩

/-- Concat's contract with no number of steps. -/
theorem concat_calls (A0 : Option Addr) (c0 : Nat) (l0 : List (List Int)) (w : World) (hr0 : Kd.C (Kd.slice 5 (Kd.int .u8)) w A0 l0.length l0) (hc0 : l0.length ≤ c0) (hn : l0.length ≤ 1000000) (hl : l0.flatten.length ≤ 549755813888) :
    Calls Try.prog 29 #[.slice A0 l0.length c0] w fun e w' => ∃ v0_ : Value, e = .returned (v0_) ∧ Kd.R (Kd.int .u8) 5 w' w.heap.size (fun _ => True) v0_ l0.flatten ∧ Below w.heap.size w w' := by
  obtain ⟨k, hk⟩ := concat_all l0 hn hl
  exact slices_Concat_byte_byte.calls k A0 c0 l0 _ w hr0 hc0 hk
end Go.Proofs.Ytibcgallhldnnaa.P
