/- Two small laws: bytes in a block, and a base that says nothing. -/
import Derived.Test.YtcgeioingikeeaaH5
namespace Go.Proofs.Ytcgeioingikeeaa.P
open Go.RowKit Go.Proofs.YtcgeioingikeeaaW.PrintWords Go.Proofs.YtcgeioingikeeaaW.PrintLast Go.Proofs.YtcgeioingikeeaaW.PrintMore
set_option linter.unusedVariables false
set_option linter.unusedSimpArgs false

theorem C_marked {w : World} {g : Nat} {xs : List Int} {fr : Nat × Nat} (hg : w.heap[g]? = some (.cells (nums .u8 xs).toArray 5 fr)) (hl : xs.length ≤ 9223372036854775807) : (Kd.int .u8).C w (some ⟨g, 0, none⟩) xs.length xs := by
  refine ⟨rfl, hl, fun _ => ⟨⟨g, 0, none⟩, rfl, fun j p hj => ⟨[.int .u8 p], rfl, rfl, fun i u hu => ?_⟩⟩⟩
  have hi : i = 0 := by
    rcases Nat.eq_zero_or_pos i with h | h
    · exact h
    · rw [List.getElem?_eq_none (by simp; omega)] at hu; cases hu
  subst hi
  have hu' : u = .int .u8 p := by simpa using hu.symm
  subst hu'
  rw [show (Kd.int .u8).sz = 1 from rfl, Nat.mul_one, Nat.add_zero, add_plain, cell_of_row w g j _ 5 fr hg]
  simp [nums, hj]
theorem V_base {α : Type} {d : Kd α} {e : Nat} {w : World} {base base' : Nat} {ok : Nat → Prop} {v : Value} {xs : List α} (h : Kd.V d e w base ok v xs) : Kd.V d e w base' ok v xs := h
end Go.Proofs.Ytcgeioingikeeaa.P
