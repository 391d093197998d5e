/- Two names that came in by value read as their fields. -/
import Derived.Test.YtcgeioingikeeaaRF
import Derived.Lib.SmallJoins
import Derived.OpenShut
namespace Go.Proofs.Ytcgeioingikeeaa.P
open Go.RowKit Go.Proofs.YtcgeioingikeeaaW.PrintWords Go.Proofs.YtcgeioingikeeaaW.PrintLast Go.Proofs.YtcgeioingikeeaaW.PrintMore
open Go.ChangeShapes Go.WideShapes Go.ChangeAt
set_option linter.unusedVariables false
section
variable {H : Type} {enc : TypeId × Value → H} {W : World} {base : Nat} {sp : Nat → Bool} {held : Bool}
set_option maxRecDepth 100000 in
theorem in_names {r : Reach} {b0 : Nat} {v : Value} {d : DataW H} {p : List MemPlace} (hv : Value.okWide Try.prog W r b0 55 v) (h : DataW.Trod enc Try.prog W base sp held 55 v d p) :
    ∃ (x y : ByteArray), v = .agg #[.string x, .string y] := by
  have hu : Try.prog.underlying 55 = some (.array 2 9) := by kernel_rfl
  simp only [Value.okWide, hu] at hv
  obtain ⟨cs, rfl, hsz, _⟩ := hv
  have h2 : Try.prog.cellsOf 55 = 2 := by kernel_rfl
  have h9 : Try.prog.cellsOf 9 = 1 := by kernel_rfl
  obtain ⟨c0, c1, rfl⟩ := Go.Joins.array2 (hsz.trans h2)
  obtain ⟨fuel, hf⟩ := h
  obtain ⟨xs, m, _, _, _, hl, hx⟩ := DataW.trod_array hu hf
  match xs, hl with
  | [y0, y1], _ =>
    have t0 : DataW.trod enc Try.prog W base sp held m 9 [c0] = some y0 := by simpa [h9, Value.cells] using hx 0 (by omega)
    have t1 : DataW.trod enc Try.prog W base sp held m 9 [c1] = some y1 := by simpa [h9, Value.cells] using hx 1 (by omega)
    obtain ⟨s0, hs0, _, _⟩ := DataW.trod_string Try.underlying9 t0
    obtain ⟨s1, hs1, _, _⟩ := DataW.trod_string Try.underlying9 t1
    simp only [List.cons.injEq, and_true] at hs0 hs1
    exact ⟨s0, s1, by rw [hs0, hs1]⟩
end
end Go.Proofs.Ytcgeioingikeeaa.P
