/- profile.table returns its six rows. profile.Of returns its row of the table and true, or an empty row and false. -/
import Derived.Test.YtibcgallhldnnaaP0
import Derived.Laws.Tables
import Derived.Laws.Rows
import Derived.Laws.ResultCell
namespace Go.Proofs.Ytibcgallhldnnaa.P
open Go.RowKit Go.Proofs.YtibcgallhldnnaaW.PrintWords Go.Proofs.YtibcgallhldnnaaW.PrintLast Go.Proofs.YtibcgallhldnnaaW.PrintMore
set_option linter.unusedVariables false
set_option linter.unusedSimpArgs false

def tableCells : Array Value := #[.string ⟨#[106, 118]⟩, .int .i64 8, .int .u32 285, .int .u8 106, .int .i64 4, .string ⟨#[106, 99]⟩, .int .i64 16, .int .u32 69643, .int .u8 106, .int .i64 4, .string ⟨#[105, 114]⟩, .int .i64 8, .int .u32 285, .int .u8 105, .int .i64 3, .string ⟨#[105, 99]⟩, .int .i64 8, .int .u32 285, .int .u8 105, .int .i64 4, .string ⟨#[98, 98]⟩, .int .i64 8, .int .u32 285, .int .u8 98, .int .i64 4, .string ⟨#[107, 112]⟩, .int .i64 8, .int .u32 285, .int .u8 112, .int .i64 4]
theorem wpList_build_to {P : Program} {ops : Array Oper} {rest : List Oper} {o : Oper} {a : Act} {w : World} {Q : Exit → Act → World → Prop} (cells : Array Value) (hg : o.guard = none) (t : TypeId) (parts : Array (Nat × Operand)) (ho : o.op = .build t parts)
    (hf : P.built t (parts.map fun (i, x) => (i, a.eval x)).toList = some cells)
    (h : wpList P ops Q rest (a.put o.dst (.agg cells)) w) : wpList P ops Q (o :: rest) a w := by
  refine wpList_build hg t parts ho (by rw [hf]; rfl) ?_
  rw [hf]
  exact h
set_option maxRecDepth 100000 in
set_option maxHeartbeats 4000000 in
theorem table_calls (w : World) :
    Calls Try.prog 38 #[] w fun e w' => e = .returned (.agg tableCells) ∧ Below w.heap.size w w' := by
  go_enter Try.func38, Try.ntmps38
  go_wp2_with (first
    | ((with_reducible refine gate_dst (N := 7) rfl ?_); refine wpList_build_to tableCells rfl 78 _ rfl (by kernel_rfl) ?_)
    | (refine wpList_store_row rfl 78 (.tmp 0) (.tmp 7) rfl w.heap.size tableCells rfl rfl 78 _ (heap_alloc_new _ _) (by kernel_rfl) (by rfl) (by kernel_rfl) ?_))
  refine ⟨by rfl, _, results_cell_row (P := Try.prog) (fn := Try.f38) rfl _ _ w.heap.size 78 tableCells (0, 0) _ rfl (setRow_heap _ _ _ _ _ _ (heap_alloc_new _ _)) (Try.underlying78) rfl (by kernel_rfl), rfl, ?_⟩
  exact ⟨rfl, rfl, rfl, by rw [size_setRow]; simp, fun k hk => (setRow_other _ _ _ _ (by omega)).trans ((below_alloc (Below.refl w.heap.size w) _).block k hk)⟩
end Go.Proofs.Ytibcgallhldnnaa.P
namespace Go.Proofs.Ytibcgallhldnnaa.P
open Go.RowKit Go.Proofs.YtibcgallhldnnaaW.PrintWords Go.Proofs.YtibcgallhldnnaaW.PrintLast Go.Proofs.YtibcgallhldnnaaW.PrintMore
set_option linter.unusedVariables false
set_option linter.unusedSimpArgs false

def profile_Of.f (a0 : Int) : Option (ByteArray × Int × Int × Int × Int × Bool) :=
  if a0 = 1 then some (⟨#[106, 118]⟩, 8, 285, 106, 4, true) else if a0 = 2 then some (⟨#[106, 99]⟩, 16, 69643, 106, 4, true) else if a0 = 3 then some (⟨#[105, 114]⟩, 8, 285, 105, 3, true)
  else if a0 = 4 then some (⟨#[105, 99]⟩, 8, 285, 105, 4, true) else if a0 = 5 then some (⟨#[98, 98]⟩, 8, 285, 98, 4, true) else if a0 = 6 then some (⟨#[107, 112]⟩, 8, 285, 112, 4, true) else some (⟨#[]⟩, 0, 0, 0, 0, false)
theorem idx0 (w : World) : (Instr.index 78 (.agg tableCells) (.int .i64 0)).run Try.prog w = .ok (.agg #[.string ⟨#[106, 118]⟩, .int .i64 8, .int .u32 285, .int .u8 106, .int .i64 4]) w := by kernel_rfl
theorem idx1 (w : World) : (Instr.index 78 (.agg tableCells) (.int .i64 1)).run Try.prog w = .ok (.agg #[.string ⟨#[106, 99]⟩, .int .i64 16, .int .u32 69643, .int .u8 106, .int .i64 4]) w := by kernel_rfl
theorem idx2 (w : World) : (Instr.index 78 (.agg tableCells) (.int .i64 2)).run Try.prog w = .ok (.agg #[.string ⟨#[105, 114]⟩, .int .i64 8, .int .u32 285, .int .u8 105, .int .i64 3]) w := by kernel_rfl
theorem idx3 (w : World) : (Instr.index 78 (.agg tableCells) (.int .i64 3)).run Try.prog w = .ok (.agg #[.string ⟨#[105, 99]⟩, .int .i64 8, .int .u32 285, .int .u8 105, .int .i64 4]) w := by kernel_rfl
theorem idx4 (w : World) : (Instr.index 78 (.agg tableCells) (.int .i64 4)).run Try.prog w = .ok (.agg #[.string ⟨#[98, 98]⟩, .int .i64 8, .int .u32 285, .int .u8 98, .int .i64 4]) w := by kernel_rfl
theorem idx5 (w : World) : (Instr.index 78 (.agg tableCells) (.int .i64 5)).run Try.prog w = .ok (.agg #[.string ⟨#[107, 112]⟩, .int .i64 8, .int .u32 285, .int .u8 112, .int .i64 4]) w := by kernel_rfl
attribute [local go_sem] idx0 idx1 idx2 idx3 idx4 idx5
theorem of_end {a : Act} {w w1 : World} {cs old : Array Value} {b : Bool} (hd : a.defers = []) (h2 : a.tmps.getD 2 undef = .pointer (some ⟨w.heap.size, 0, none⟩)) (h3 : a.tmps.getD 3 undef = .bool b) (hz : w1.heap[w.heap.size]? = some (.cells old 71 (0, 0)))
    (hi : (Try.prog.info? 71).map (·.size) = some cs.size) (hb : Below w.heap.size w w1) :
    bodyPost Try.prog Try.f34 (fun e w' => e = .returned (.tuple #[.agg cs, .bool b]) ∧ Below w.heap.size w w') .ret a (w1.setRow w.heap.size cs) := by
  have hl := run_loadVar_row (P := Try.prog) (w := w1.setRow w.heap.size cs) w.heap.size 71 71 cs (0, 0) _ (setRow_heap _ _ _ _ _ _ hz) Try.underlying71 rfl hi
  refine ⟨hd, .tuple #[.agg cs, .bool b], ?_, rfl, ?_⟩
  · rw [results_cell_tmp (p := 2) (u := 3) (ty := 71) rfl, h2, h3]
    simp [asAddr, hl]
  · exact ⟨hb.os, hb.tape, hb.output, by rw [size_setRow]; exact hb.size, fun k hk => (setRow_other _ _ _ _ (by omega)).trans (hb.block k hk)⟩
set_option maxRecDepth 100000 in
set_option maxHeartbeats 4000000 in
theorem of_1 (w : World) : Calls Try.prog 34 #[.int .i64 1] w fun e w' => e = .returned (.tuple #[.agg #[.string ⟨#[106, 118]⟩, .int .i64 8, .int .u32 285, .int .u8 106, .int .i64 4], .bool true]) ∧ Below w.heap.size w w' := by
  go_enter Try.func34, Try.ntmps34
  go_wp2_with (first
    | (go_at_call 38; refine (table_calls _).mono ?_; rintro e w1 ⟨rfl, hb1⟩; have HZ := Aside0.mk ((hb1.block w.heap.size (by simp)).trans (heap_alloc_new _ _)); have HB1 := Aside0.mk (below_step (below_alloc (Below.refl w.heap.size w) _) hb1); clear hb1)
    | (refine wpList_store_row rfl 71 (.tmp 2) (.tmp 14) rfl w.heap.size _ rfl rfl 71 _ HZ.out (by kernel_rfl) (by rfl) (by kernel_rfl) ?_))
  exact of_end (by rfl) rfl rfl HZ.out (by kernel_rfl) HB1.out
set_option maxRecDepth 100000 in
set_option maxHeartbeats 4000000 in
theorem of_2 (w : World) : Calls Try.prog 34 #[.int .i64 2] w fun e w' => e = .returned (.tuple #[.agg #[.string ⟨#[106, 99]⟩, .int .i64 16, .int .u32 69643, .int .u8 106, .int .i64 4], .bool true]) ∧ Below w.heap.size w w' := by
  go_enter Try.func34, Try.ntmps34
  go_wp2_with (first
    | (go_at_call 38; refine (table_calls _).mono ?_; rintro e w1 ⟨rfl, hb1⟩; have HZ := Aside0.mk ((hb1.block w.heap.size (by simp)).trans (heap_alloc_new _ _)); have HB1 := Aside0.mk (below_step (below_alloc (Below.refl w.heap.size w) _) hb1); clear hb1)
    | (refine wpList_store_row rfl 71 (.tmp 2) (.tmp 14) rfl w.heap.size _ rfl rfl 71 _ HZ.out (by kernel_rfl) (by rfl) (by kernel_rfl) ?_))
  exact of_end (by rfl) rfl rfl HZ.out (by kernel_rfl) HB1.out
set_option maxRecDepth 100000 in
set_option maxHeartbeats 4000000 in
theorem of_3 (w : World) : Calls Try.prog 34 #[.int .i64 3] w fun e w' => e = .returned (.tuple #[.agg #[.string ⟨#[105, 114]⟩, .int .i64 8, .int .u32 285, .int .u8 105, .int .i64 3], .bool true]) ∧ Below w.heap.size w w' := by
  go_enter Try.func34, Try.ntmps34
  go_wp2_with (first
    | (go_at_call 38; refine (table_calls _).mono ?_; rintro e w1 ⟨rfl, hb1⟩; have HZ := Aside0.mk ((hb1.block w.heap.size (by simp)).trans (heap_alloc_new _ _)); have HB1 := Aside0.mk (below_step (below_alloc (Below.refl w.heap.size w) _) hb1); clear hb1)
    | (refine wpList_store_row rfl 71 (.tmp 2) (.tmp 14) rfl w.heap.size _ rfl rfl 71 _ HZ.out (by kernel_rfl) (by rfl) (by kernel_rfl) ?_))
  exact of_end (by rfl) rfl rfl HZ.out (by kernel_rfl) HB1.out
set_option maxRecDepth 100000 in
set_option maxHeartbeats 4000000 in
theorem of_4 (w : World) : Calls Try.prog 34 #[.int .i64 4] w fun e w' => e = .returned (.tuple #[.agg #[.string ⟨#[105, 99]⟩, .int .i64 8, .int .u32 285, .int .u8 105, .int .i64 4], .bool true]) ∧ Below w.heap.size w w' := by
  go_enter Try.func34, Try.ntmps34
  go_wp2_with (first
    | (go_at_call 38; refine (table_calls _).mono ?_; rintro e w1 ⟨rfl, hb1⟩; have HZ := Aside0.mk ((hb1.block w.heap.size (by simp)).trans (heap_alloc_new _ _)); have HB1 := Aside0.mk (below_step (below_alloc (Below.refl w.heap.size w) _) hb1); clear hb1)
    | (refine wpList_store_row rfl 71 (.tmp 2) (.tmp 14) rfl w.heap.size _ rfl rfl 71 _ HZ.out (by kernel_rfl) (by rfl) (by kernel_rfl) ?_))
  exact of_end (by rfl) rfl rfl HZ.out (by kernel_rfl) HB1.out
set_option maxRecDepth 100000 in
set_option maxHeartbeats 4000000 in
theorem of_5 (w : World) : Calls Try.prog 34 #[.int .i64 5] w fun e w' => e = .returned (.tuple #[.agg #[.string ⟨#[98, 98]⟩, .int .i64 8, .int .u32 285, .int .u8 98, .int .i64 4], .bool true]) ∧ Below w.heap.size w w' := by
  go_enter Try.func34, Try.ntmps34
  go_wp2_with (first
    | (go_at_call 38; refine (table_calls _).mono ?_; rintro e w1 ⟨rfl, hb1⟩; have HZ := Aside0.mk ((hb1.block w.heap.size (by simp)).trans (heap_alloc_new _ _)); have HB1 := Aside0.mk (below_step (below_alloc (Below.refl w.heap.size w) _) hb1); clear hb1)
    | (refine wpList_store_row rfl 71 (.tmp 2) (.tmp 14) rfl w.heap.size _ rfl rfl 71 _ HZ.out (by kernel_rfl) (by rfl) (by kernel_rfl) ?_))
  exact of_end (by rfl) rfl rfl HZ.out (by kernel_rfl) HB1.out
set_option maxRecDepth 100000 in
set_option maxHeartbeats 4000000 in
theorem of_6 (w : World) : Calls Try.prog 34 #[.int .i64 6] w fun e w' => e = .returned (.tuple #[.agg #[.string ⟨#[107, 112]⟩, .int .i64 8, .int .u32 285, .int .u8 112, .int .i64 4], .bool true]) ∧ Below w.heap.size w w' := by
  go_enter Try.func34, Try.ntmps34
  go_wp2_with (first
    | (go_at_call 38; refine (table_calls _).mono ?_; rintro e w1 ⟨rfl, hb1⟩; have HZ := Aside0.mk ((hb1.block w.heap.size (by simp)).trans (heap_alloc_new _ _)); have HB1 := Aside0.mk (below_step (below_alloc (Below.refl w.heap.size w) _) hb1); clear hb1)
    | (refine wpList_store_row rfl 71 (.tmp 2) (.tmp 14) rfl w.heap.size _ rfl rfl 71 _ HZ.out (by kernel_rfl) (by rfl) (by kernel_rfl) ?_))
  exact of_end (by rfl) rfl rfl HZ.out (by kernel_rfl) HB1.out
set_option maxRecDepth 100000 in
set_option maxHeartbeats 4000000 in
theorem of_no (p : Int) (w : World) (h : p < 1 ∨ 6 < p) : Calls Try.prog 34 #[.int .i64 p] w fun e w' => e = .returned (.tuple #[.agg #[.string ⟨#[]⟩, .int .i64 0, .int .u32 0, .int .u8 0, .int .i64 0], .bool false]) ∧ Below w.heap.size w w' := by
  go_enter Try.func34, Try.ntmps34
  have HZ : Aside0 ((w.alloc (.cells #[.string ⟨#[]⟩, .int .i64 0, .int .u32 0, .int .u8 0, .int .i64 0] 71)).heap[w.heap.size]? = some (.cells #[.string ⟨#[]⟩, .int .i64 0, .int .u32 0, .int .u8 0, .int .i64 0] 71 (0, 0))) := Aside0.mk (heap_alloc_new _ _)
  have HB1 := Aside0.mk (below_alloc (Below.refl w.heap.size w) (.cells #[.string ⟨#[]⟩, .int .i64 0, .int .u32 0, .int .u8 0, .int .i64 0] 71))
  by_cases h1 : p < 1
  · go_wp2_with (first
      | (refine wpList_store_row rfl 71 (.tmp 2) (.tmp 10) rfl w.heap.size #[.string ⟨#[]⟩, .int .i64 0, .int .u32 0, .int .u8 0, .int .i64 0] rfl rfl 71 _ HZ.out (by kernel_rfl) (by rfl) (by kernel_rfl) ?_))
    exact of_end (by rfl) rfl rfl HZ.out (by kernel_rfl) HB1.out
  · have h2 : 6 < p := by omega
    go_wp2_with (first
      | (refine wpList_store_row rfl 71 (.tmp 2) (.tmp 10) rfl w.heap.size #[.string ⟨#[]⟩, .int .i64 0, .int .u32 0, .int .u8 0, .int .i64 0] rfl rfl 71 _ HZ.out (by kernel_rfl) (by rfl) (by kernel_rfl) ?_))
    exact of_end (by rfl) rfl rfl HZ.out (by kernel_rfl) HB1.out
theorem profile_Of.calls (a0 : Int) (r1 : ByteArray) (r2 r3 r4 r5 : Int) (r6 : Bool) (w : World) (h : profile_Of.f a0 = some (r1, r2, r3, r4, r5, r6)) :
    Calls Try.prog 34 #[.int .i64 a0] w fun e w' => e = .returned (.tuple #[.agg #[.string r1, .int .i64 r2, .int .u32 r3, .int .u8 r4, .int .i64 r5], .bool r6]) ∧ Below w.heap.size w w' := by
  unfold profile_Of.f at h
  by_cases h1 : a0 = 1
  · subst h1; simp only [if_true, Option.some.injEq, Prod.mk.injEq] at h; obtain ⟨rfl, rfl, rfl, rfl, rfl, rfl⟩ := h; exact of_1 w
  rw [if_neg h1] at h
  by_cases h2 : a0 = 2
  · subst h2; simp only [if_true, Option.some.injEq, Prod.mk.injEq] at h; obtain ⟨rfl, rfl, rfl, rfl, rfl, rfl⟩ := h; exact of_2 w
  rw [if_neg h2] at h
  by_cases h3 : a0 = 3
  · subst h3; simp only [if_true, Option.some.injEq, Prod.mk.injEq] at h; obtain ⟨rfl, rfl, rfl, rfl, rfl, rfl⟩ := h; exact of_3 w
  rw [if_neg h3] at h
  by_cases h4 : a0 = 4
  · subst h4; simp only [if_true, Option.some.injEq, Prod.mk.injEq] at h; obtain ⟨rfl, rfl, rfl, rfl, rfl, rfl⟩ := h; exact of_4 w
  rw [if_neg h4] at h
  by_cases h5 : a0 = 5
  · subst h5; simp only [if_true, Option.some.injEq, Prod.mk.injEq] at h; obtain ⟨rfl, rfl, rfl, rfl, rfl, rfl⟩ := h; exact of_5 w
  rw [if_neg h5] at h
  by_cases h6 : a0 = 6
  · subst h6; simp only [if_true, Option.some.injEq, Prod.mk.injEq] at h; obtain ⟨rfl, rfl, rfl, rfl, rfl, rfl⟩ := h; exact of_6 w
  rw [if_neg h6] at h
  simp only [Option.some.injEq, Prod.mk.injEq] at h
  obtain ⟨rfl, rfl, rfl, rfl, rfl, rfl⟩ := h
  exact of_no a0 w (by omega)
end Go.Proofs.Ytibcgallhldnnaa.P
