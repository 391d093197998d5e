/- A file, a write, that came in by value, reads as its fields. -/
import Derived.Test.YtcgeioingikeeaaR0
import Derived.Lib.SmallJoins
namespace Go.Proofs.Ytcgeioingikeeaa.P
open Go.RowKit Go.Proofs.YtcgeioingikeeaaW.PrintWords Go.Proofs.YtcgeioingikeeaaW.PrintLast Go.Proofs.YtcgeioingikeeaaW.PrintMore
open Go.ChangeShapes Go.WideShapes Go.ChangeAt
set_option linter.unusedVariables false

section
variable {H : Type} {enc : TypeId × Value → H} {W : World} {base : Nat} {sp : Nat → Bool} {held : Bool}

set_option maxRecDepth 100000 in
theorem in_file {r : Reach} {b0 : Nat} {v : Value} {d : DataW H} {p : List MemPlace} (hv : Value.okWide Try.prog W r b0 38 v) (h : DataW.Trod enc Try.prog W base sp held 38 v d p) :
    ∃ (nm : ByteArray) (A : Option Addr) (cap : Nat) (xs : List Int), v = .agg #[.string nm, .slice A xs.length cap] ∧ xs.length ≤ cap ∧ (Kd.int .u8).C W A xs.length xs ∧ ∀ n ∈ xs, 0 ≤ n ∧ n < 256 := by
  obtain ⟨v0, v1, y0, y1, n, rfl, _, _, t0, t1⟩ := Go.Joins.open_agg2 Try.underlying38 (by kernel_rfl) (by kernel_rfl) hv h
  obtain ⟨s, hs, _, _⟩ := DataW.trod_string Try.underlying9 t0
  obtain ⟨A1, c1, xs, hv1, hc1, hC, hb⟩ := open_bytes t1
  simp only [List.cons.injEq, and_true] at hs hv1
  exact ⟨s, A1, c1, xs, by rw [hs, hv1], hc1, hC, hb⟩
set_option maxRecDepth 100000 in
theorem in_write {r : Reach} {b0 : Nat} {v : Value} {d : DataW H} {p : List MemPlace} (hv : Value.okWide Try.prog W r b0 25 v) (h : DataW.Trod enc Try.prog W base sp held 25 v d p) :
    ∃ (nm : ByteArray) (i j : Int) (A : Option Addr) (cap : Nat) (xs : List Int), v = .agg #[.string nm, .int .i64 i, .int .i64 j, .slice A xs.length cap] ∧ (Lit.int .i64 i).wf = true ∧ (Lit.int .i64 j).wf = true ∧ xs.length ≤ cap ∧ (Kd.int .u8).C W A xs.length xs ∧ ∀ n ∈ xs, 0 ≤ n ∧ n < 256 := by
  obtain ⟨v0, v1, v2, v3, y0, y1, y2, y3, n, rfl, _, _, t0, t1, t2, t3⟩ := Go.Joins.open_agg4 Try.underlying25 (by kernel_rfl) (by kernel_rfl) hv h
  obtain ⟨s, hs, _, _⟩ := DataW.trod_string Try.underlying9 t0
  obtain ⟨i, hi, _, wi⟩ := DataW.trod_int Try.underlying3 t1
  obtain ⟨j, hj, _, wj⟩ := DataW.trod_int Try.underlying3 t2
  obtain ⟨A1, c1, xs, hv1, hc1, hC, hb⟩ := open_bytes t3
  simp only [List.cons.injEq, and_true] at hs hi hj hv1
  exact ⟨s, i, j, A1, c1, xs, by rw [hs, hi, hj, hv1], wi, wj, hc1, hC, hb⟩
end
end Go.Proofs.Ytcgeioingikeeaa.P
