/- The names and the bytes of files, as the code counts them. -/
import Derived.Test.YtcgeioingikeeaaPf33
import Derived.Test.YtcgeioingikeeaaPf35
namespace Go.Proofs.Ytcgeioingikeeaa.P
open Go.RowKit Go.Proofs.YtcgeioingikeeaaW.PrintWords Go.Proofs.YtcgeioingikeeaaW.PrintLast Go.Proofs.YtcgeioingikeeaaW.PrintMore
set_option linter.unusedVariables false
set_option linter.unusedSimpArgs false

theorem wrap_nat (i : Nat) (h : i < 4611686018427387904) : wrap64 ((i : Int) + 1) = ((i + 1 : Nat) : Int) := by unfold wrap64; omega
theorem rd_at (l : List S38) (j : Nat) (h : j < l.length) : rd_T38 l (j : Int) = l[j] := by simp [rd_T38, h, List.getD]
theorem drop_at (l : List S38) (i : Nat) (h : i < l.length) : l.drop i = rd_T38 l (i : Int) :: l.drop (i + 1) := by rw [rd_at l i h, List.drop_eq_getElem_cons h]
theorem namesA (l : List S38) (hl : l.length ≤ 1000000) : ∀ m i : Nat, ∀ acc : List ByteArray, i + m = l.length → acc.length ≤ i → ∃ k, files_Names.l0 k acc l (l.length : Int) i = some (acc ++ (l.drop i).map (·.f0))
  | 0, i, acc, hi, ha => ⟨1, by rw [files_Names.l0, if_neg (by omega), List.drop_eq_nil_of_le (by omega)]; simp⟩
  | m + 1, i, acc, hi, ha => by
    obtain ⟨k, hk⟩ := namesA l hl m (i + 1) (acc ++ [(rd_T38 l i).f0]) (by omega) (by simp; omega)
    refine ⟨k + 1, ?_⟩
    rw [files_Names.l0, if_pos (by omega), if_pos (by omega), if_pos (by omega), if_pos (by omega), wrap_nat i (by omega), hk, drop_at l i (by omega)]
    simp
def sumW (acc : Int) : List S38 → Int
  | [] => acc
  | x :: l => sumW (wrap64 (acc + (x.f1.length : Int))) l
theorem sizeA (l : List S38) (hl : l.length ≤ 1000000) : ∀ m i : Nat, ∀ acc : Int, i + m = l.length → ∃ k, files_Size.l0 k acc l (l.length : Int) i = some (sumW acc (l.drop i))
  | 0, i, acc, hi => ⟨1, by rw [files_Size.l0, if_neg (by omega), List.drop_eq_nil_of_le (by omega)]; rfl⟩
  | m + 1, i, acc, hi => by
    obtain ⟨k, hk⟩ := sizeA l hl m (i + 1) (wrap64 (acc + ((rd_T38 l i).f1.length : Int))) (by omega)
    refine ⟨k + 1, ?_⟩
    rw [files_Size.l0, if_pos (by omega), if_pos (by omega), if_pos (by omega), wrap_nat i (by omega), hk, drop_at l i (by omega)]
    rfl
end Go.Proofs.Ytcgeioingikeeaa.P
