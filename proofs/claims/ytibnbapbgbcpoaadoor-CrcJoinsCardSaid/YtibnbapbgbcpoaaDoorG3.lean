/- The law CrcJoins, plainly: bytes one behind the other have the sum of the first ones and the others. -/
import Derived.Test.YtibnbapbgbcpoaaDoorG2
import Derived.Test.YtibnbapbgbcpoaaDoorPf5
namespace Go.Proofs.YtibnbapbgbcpoaaDoor.P
open Go.RowKit Go.Proofs.YtibnbapbgbcpoaaDoorW.PrintWords Go.Proofs.YtibnbapbgbcpoaaDoorW.PrintLast
set_option linter.unusedVariables false

theorem mr_app (s : Nat) (a b : List Int) (ha : ∀ v ∈ a, 0 ≤ v ∧ v < 256) : mrN s (a ++ b) = mrN (mrN s a) b := by
  unfold mrN bysL
  have hf : foldN (4294967295 - s) (a.map Int.toNat) < 4294967296 := fold_lt _ _ (by omega) (bys_lt ha)
  rw [show 4294967295 - (4294967295 - foldN (4294967295 - s) (a.map Int.toNat)) = foldN (4294967295 - s) (a.map Int.toNat) from by omega, List.map_append]
  unfold foldN
  rw [List.foldl_append]
theorem mr_nil (s : Nat) (hs : s < 4294967296) : mrN s [] = s := by
  show 4294967295 - (4294967295 - s) = s
  omega
theorem crc_joins : gambrellaw13_CrcJoins.Pure := by
  intro l0 l1 a2 hm0 y0 hw0 hm1 y1 hw1 w2
  obtain ⟨n, rfl, hn⟩ := u32_nat w2
  have h0 : ∀ v ∈ l0, 0 ≤ v ∧ v < 256 := fun v hv => u8_in (hw0 v hv)
  have h1 : ∀ v ∈ l1, 0 ≤ v ∧ v < 256 := fun v hv => u8_in (hw1 v hv)
  have h2 : ∀ v ∈ l0 ++ l1, 0 ≤ v ∧ v < 256 := fun v hv => by
    rcases List.mem_append.1 hv with h | h
    · exact h0 v h
    · exact h1 v h
  have hwr : wrap64 ((l0.length : Int) + (l1.length : Int)) = ((l0.length + l1.length : Nat) : Int) := by unfold wrap64; omega
  unfold gambrellaw13_CrcJoins.f gambrellaw13_awake.f
  rw [Option.bind_some, hwr]
  split
  · rfl
  · rename_i hc
    rw [Option.bind_some, if_pos (by simp; omega), Option.bind_some, if_pos (by simp; omega), Option.bind_some, if_pos rfl, List.nil_append, sum_f _ h2, Option.bind_some, sum_f _ h0, Option.bind_some,
      mr_f _ (mr_lt 0 l0) _ h1, Option.bind_some, if_pos (by rw [mr_app 0 l0 l1 h0]), mr_f n hn _ h2, Option.bind_some, mr_f n hn _ h0, Option.bind_some, mr_f _ (mr_lt n l0) _ h1, Option.bind_some,
      if_pos (by rw [mr_app n l0 l1 h0]), mr_f n hn _ (by simp), Option.bind_some, mr_nil n hn]
    simp
end Go.Proofs.YtibnbapbgbcpoaaDoor.P
