/- What the rows' list of variables gives the walks; and the door's own heap meets it. -/
import Derived.Test.YtibnbapbgbcpoaaDoorRows
import Derived.Test.YtibnbapbgbcpoaaDoorH6
import Derived.Lib.LaidTab
import Derived.Stop.LaidErr
import Derived.LaidMore
import Derived.ProofKit
import Derived.Stop.Joined
namespace Go.Proofs.YtibnbapbgbcpoaaDoor.P
open Go.ChangeShapes Go.WideShapes Go.ChangeAt Go.RowKit
set_option linter.unusedVariables false

/-- The rows' list, as each of them bears it. -/
def laid5 : List (String × DataW Unit) := [("math/bits.deBruijn32tab", Rows.laid_math_bits_deBruijn32tab), ("math/bits.deBruijn64tab", Rows.laid_math_bits_deBruijn64tab), ("internal/strconv.uint64pow10", Rows.laid_internal_strconv_uint64pow10), ("strconv.ErrRange", Rows.laid_strconv_ErrRange), ("strconv.ErrSyntax", Rows.laid_strconv_ErrSyntax)]
theorem g0 : Tryd.prog.globalNamed "strconv.ErrSyntax" = some 0 := by kernel_rfl
theorem g1 : Tryd.prog.globalNamed "strconv.ErrRange" = some 1 := by kernel_rfl
theorem g5 : Tryd.prog.globalNamed "math/bits.deBruijn64tab" = some 5 := by kernel_rfl
theorem ty0 : (Tryd.prog.globals[0]?).map (·.type) = some 46 := by kernel_rfl
theorem ty1 : (Tryd.prog.globals[1]?).map (·.type) = some 46 := by kernel_rfl
theorem ty5 : (Tryd.prog.globals[5]?).map (·.type) = some 99 := by kernel_rfl
/-- The door's own heap meets the condition. -/
theorem door_met (os : Os) (args : Array Value) : laidMetH Tryd.prog laid5 ((World.doorLaid Tryd.prog 400 os).forCall (fun _ _ => 0) ⟨#[], args, []⟩).memory :=
  laidMetH_of_parts3 (fuel := 8) (laidMet_of_run' 8 (by kernel_rfl) (by kernel_rfl)) (by kernel_rfl) (by kernel_rfl)
theorem iface_of_laid {n : String} {d : DataW Unit} {r : List (String × DataW Unit)} {W : World} {g : Nat} {nm : String} {x : DataW Unit} (hd : d = .iface nm x)
    (h : laidMet Tryd.prog ((n, d) :: r) W) (hg : Tryd.prog.globalNamed n = some g) (ht : (Tryd.prog.globals[g]?).map (·.type) = some 46) : ∃ t p, W.cell? ⟨g, 0, none⟩ = some (.iface t p) := by
  subst hd
  obtain ⟨ps, ⟨g0, t0, cs0, f0, p0, q0, hg0, ht0, hv0, hd0, _, e0⟩, _, hrows⟩ := h
  obtain rfl := Option.some.inj (hg.symm.trans hg0)
  obtain rfl := Option.some.inj (ht.symm.trans ht0)
  obtain ⟨l0⟩ := cs0
  have h0 := World.var?_cell hg0 hv0 0
  obtain ⟨f1, u, v, e1, _, _⟩ := iface_of_trod Tryd.underlying46 hd0
  exact ⟨u, v, by rw [h0]; simp [show l0 = [.iface u v] from e1]⟩
theorem in_heap {w : World} {a : Addr} {v : Value} (h : w.cell? a = some v) : a.block < w.heap.size := by
  apply Classical.byContradiction
  intro hn
  have hx : w.heap[a.block]? = none := Array.getElem?_eq_none (by omega)
  unfold World.cell? at h
  rw [hx] at h
  cases h
theorem LG_of_laid {W : World} (h : laidMetH Tryd.prog laid5 W) : LG W := by
  rw [MakeChecks.laidMetH_plain _ _ _ (by kernel_rfl)] at h
  have h2 := laidMet.tail h
  have h4 := laidMet.tail (laidMet.tail h2)
  have h5 := laidMet.tail h4
  have ht := Lib.tabIs_of_head (zs := [0, 1, 56, 2, 57, 49, 28, 3, 61, 58, 42, 50, 38, 29, 17, 4, 62, 47, 59, 36, 45, 43, 51, 22, 53, 39, 33, 30, 24, 18, 12, 5, 63, 55, 48, 27, 60, 41, 37, 16, 46, 35, 44, 21, 52, 32, 23, 11, 54, 26, 40, 15, 34, 20, 31, 10, 25, 14, 19, 9, 13, 8, 7, 6]) (k := .u8) (n := 64) (e := 5) g5 ty5 (by kernel_rfl) Tryd.underlying5 (by kernel_rfl) (by kernel_rfl) h2
  have hc : W.cell? ⟨5, 15, none⟩ = some (.int .u8 4) := ht.cell g5 15 (by decide)
  refine ⟨⟨hc, ?_⟩, iface_of_laid rfl h5 g0 ty0, iface_of_laid rfl h4 g1 ty1⟩
  exact in_heap hc
end Go.Proofs.YtibnbapbgbcpoaaDoor.P
