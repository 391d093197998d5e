/- profile.table returns its six rows. -/
import Derived.Test.YtibcgallhldnnaaP0
import Derived.Laws.Tables
import Derived.Laws.Rows
namespace Go.Proofs.Ytibcgallhldnnaa.P
open Go.RowKit Go.Proofs.YtibcgallhldnnaaW.PrintWords Go.Proofs.YtibcgallhldnnaaW.PrintLast Go.Proofs.YtibcgallhldnnaaW.PrintMore
set_option linter.unusedVariables false
set_option linter.unusedSimpArgs false

def tableCells : Array Value := #[.string ⟨#[106, 118]⟩, .int .i64 8, .int .u32 285, .int .u8 106, .int .i64 4, .string ⟨#[106, 99]⟩, .int .i64 16, .int .u32 69643, .int .u8 106, .int .i64 4, .string ⟨#[105, 114]⟩, .int .i64 8, .int .u32 285, .int .u8 105, .int .i64 3, .string ⟨#[105, 99]⟩, .int .i64 8, .int .u32 285, .int .u8 105, .int .i64 4, .string ⟨#[98, 98]⟩, .int .i64 8, .int .u32 285, .int .u8 98, .int .i64 4, .string ⟨#[107, 112]⟩, .int .i64 8, .int .u32 285, .int .u8 112, .int .i64 4]
theorem wpList_build_to {P : Program} {ops : Array Oper} {rest : List Oper} {o : Oper} {a : Act} {w : World} {Q : Exit → Act → World → Prop} (cells : Array Value) (hg : o.guard = none) (t : TypeId) (parts : Array (Nat × Operand)) (ho : o.op = .build t parts)
    (hf : P.built t (parts.map fun (i, x) => (i, a.eval x)).toList = some cells)
    (h : wpList P ops Q rest (a.put o.dst (.agg cells)) w) : wpList P ops Q (o :: rest) a w := by
  refine wpList_build hg t parts ho (by rw [hf]; rfl) ?_
  rw [hf]
  exact h
set_option maxRecDepth 100000 in
set_option maxHeartbeats 4000000 in
theorem table_calls (w : World) :
    Calls Try.prog 38 #[] w fun e w' => e = .returned (.agg tableCells) ∧ Below w.heap.size w w' := by
  go_enter Try.func38, Try.ntmps38
  go_wp2_with (first
    | ((with_reducible refine gate_dst (N := 7) rfl ?_); refine wpList_build_to tableCells rfl 78 _ rfl (by kernel_rfl) ?_)
    | (refine wpList_store_row rfl 78 (.tmp 0) (.tmp 7) rfl w.heap.size tableCells rfl rfl 78 _ (heap_alloc_new _ _) (by kernel_rfl) (by rfl) (by kernel_rfl) ?_))
  refine ⟨by rfl, _, results_cell_row (P := Try.prog) (fn := Try.f38) rfl _ _ w.heap.size 78 tableCells (0, 0) _ rfl (setRow_heap _ _ _ _ _ _ (heap_alloc_new _ _)) (Try.underlying78) rfl (by kernel_rfl), rfl, ?_⟩
  exact ⟨rfl, rfl, rfl, by rw [size_setRow]; simp, fun k hk => (setRow_other _ _ _ _ (by omega)).trans ((below_alloc (Below.refl w.heap.size w) _).block k hk)⟩
end Go.Proofs.Ytibcgallhldnnaa.P
