/- gambrelref09.Some returns the params that three small numbers name. -/
import Derived.Test.YtibcgallhldnnaaPf19
import Derived.Laws.ResultCell
namespace Go.Proofs.Ytibcgallhldnnaa.P
open Go.RowKit Go.Proofs.YtibcgallhldnnaaW.PrintWords Go.Proofs.YtibcgallhldnnaaW.PrintLast Go.Proofs.YtibcgallhldnnaaW.PrintMore
set_option linter.unusedVariables false
set_option linter.unusedSimpArgs false

def gambrelref09_Some.f (n0 n1 n2 : Int) : Option (Int × Int × Int) :=
  if 0 ≤ n0 ∧ n0 ≤ 255 ∧ 0 ≤ n1 ∧ n1 ≤ 255 ∧ 0 ≤ n2 ∧ n2 ≤ 255 then (gambrelref09_Of.f (1 + n0 % 6)).bind fun r => if 0 < r.2.2.2.2.1 ∧ r.2.2.2.2.1 ≤ 100 then some (1 + n0 % 6, 1 + n1 % 8, 1 + n2 % r.2.2.2.2.1) else none else none
set_option maxRecDepth 100000 in
set_option maxHeartbeats 4000000 in
theorem some_end {a : Act} {w w1 : World} {B : Nat} {cs old : Array Value} (hB : w.heap.size ≤ B) (hd : a.defers = []) (h2 : a.tmps.getD 2 undef = .pointer (some ⟨B, 0, none⟩)) (hz : w1.heap[B]? = some (.cells old 23 (0, 0)))
    (hi : (Try.prog.info? 23).map (·.size) = some cs.size) (hb : Below w.heap.size w w1) :
    bodyPost Try.prog Try.f18 (fun e w' => e = .returned (.agg cs) ∧ Below w.heap.size w w') .ret a (w1.setRow B cs) := by
  have hl := run_loadVar_row (P := Try.prog) (w := w1.setRow B cs) B 23 23 cs (0, 0) _ (setRow_heap _ _ _ _ _ _ hz) Try.underlying23 rfl hi
  refine ⟨hd, .agg cs, ?_, rfl, ?_⟩
  · simp only [results, show Try.f18.results = #[.cell 2 23] from by kernel_rfl]
    simp only [Array.getD_eq_getD_getElem?] at h2
    simp [Sem.run_bind, Result.andThen, h2, asAddr, hl]
  · exact ⟨hb.os, hb.tape, hb.output, by rw [size_setRow]; exact hb.size, fun k hk => (setRow_other _ _ _ _ (by omega)).trans (hb.block k hk)⟩
set_option maxRecDepth 100000 in
set_option maxHeartbeats 4000000 in
theorem gambrelref09_Some.calls (n0 n1 n2 : Int) (r1 r2 r3 : Int) (w : World) (h : gambrelref09_Some.f n0 n1 n2 = some (r1, r2, r3)) :
    Calls Try.prog 18 #[.agg #[.int .u8 n0, .int .u8 n1, .int .u8 n2]] w fun e w' => e = .returned (.agg #[.int .i64 r1, .int .i64 r2, .int .i64 r3]) ∧ Below w.heap.size w w' := by
  unfold gambrelref09_Some.f at h
  by_cases hg : 0 ≤ n0 ∧ n0 ≤ 255 ∧ 0 ≤ n1 ∧ n1 ≤ 255 ∧ 0 ≤ n2 ∧ n2 ≤ 255
  case neg => rw [if_neg hg] at h; exact absurd h (by simp)
  rw [if_pos hg] at h
  obtain ⟨g0, g0', g1, g1', g2, g2'⟩ := hg
  obtain ⟨⟨q1, q2, q3, q4, q5, q6⟩, hOf, h⟩ := Option.bind_eq_some_iff.mp h
  dsimp only at h
  by_cases hm : 0 < q5 ∧ q5 ≤ 100
  case neg => rw [if_neg hm] at h; exact absurd h (by simp)
  rw [if_pos hm] at h
  obtain ⟨m0, m1⟩ := hm
  simp only [Option.some.injEq, Prod.mk.injEq] at h
  obtain ⟨rfl, rfl, rfl⟩ := h
  have hc := fun w => gambrelref09_Of.calls (1 + n0 % 6) q1 q2 q3 q4 q5 q6 w hOf
  have e0 : Int.tmod n0 6 = n0 % 6 := Int.tmod_eq_emod_of_nonneg g0
  have e1 : Int.tmod n1 8 = n1 % 8 := Int.tmod_eq_emod_of_nonneg g1
  have e2 : Int.tmod n2 q5 = n2 % q5 := Int.tmod_eq_emod_of_nonneg g2
  have m2 : ¬ q5 = 0 := by omega
  have b0 : 0 ≤ n0 % 6 := Int.emod_nonneg _ (by omega)
  have b0' : n0 % 6 < 6 := Int.emod_lt_of_pos _ (by omega)
  have b1 : 0 ≤ n1 % 8 := Int.emod_nonneg _ (by omega)
  have b1' : n1 % 8 < 8 := Int.emod_lt_of_pos _ (by omega)
  have b2 : 0 ≤ n2 % q5 := Int.emod_nonneg _ (by omega)
  have b2' : n2 % q5 < q5 := Int.emod_lt_of_pos _ (by omega)
  go_enter Try.func18, Try.ntmps18
  have HA : ∀ W : World, Below (((w.alloc (.cells #[.int .u8 n0, .int .u8 n1, .int .u8 n2] 44)).alloc (.cells #[.int .i64 0, .int .i64 0, .int .i64 0] 23)).alloc (.cells #[.int .i64 (1 + n0 % 6), .int .i64 (1 + n1 % 8), .int .i64 0] 23)).heap.size (((w.alloc (.cells #[.int .u8 n0, .int .u8 n1, .int .u8 n2] 44)).alloc (.cells #[.int .i64 0, .int .i64 0, .int .i64 0] 23)).alloc (.cells #[.int .i64 (1 + n0 % 6), .int .i64 (1 + n1 % 8), .int .i64 0] 23)) W →
      Aside0 (W.heap[w.heap.size]? = some (.cells #[.int .u8 n0, .int .u8 n1, .int .u8 n2] 44 (0, 0)) ∧ W.heap[w.heap.size + 1]? = some (.cells #[.int .i64 0, .int .i64 0, .int .i64 0] 23 (0, 0)) ∧ W.heap[w.heap.size + 1 + 1]? = some (.cells #[.int .i64 (1 + n0 % 6), .int .i64 (1 + n1 % 8), .int .i64 0] 23 (0, 0)) ∧ Below w.heap.size w W) := by
    intro W hb
    refine ⟨?_, ?_, ?_, ?_⟩
    · exact (hb.block _ (by simp; omega)).trans (blk_alloc (blk_alloc (heap_alloc_new _ _) _) _)
    · exact (hb.block _ (by simp)).trans (blk_alloc (by have := heap_alloc_new (w.alloc (.cells #[.int .u8 n0, .int .u8 n1, .int .u8 n2] 44)) (.cells #[.int .i64 0, .int .i64 0, .int .i64 0] 23); rwa [World.size_alloc] at this) _)
    · exact (hb.block _ (by simp)).trans (by have := heap_alloc_new ((w.alloc (.cells #[.int .u8 n0, .int .u8 n1, .int .u8 n2] 44)).alloc (.cells #[.int .i64 0, .int .i64 0, .int .i64 0] 23)) (.cells #[.int .i64 (1 + n0 % 6), .int .i64 (1 + n1 % 8), .int .i64 0] 23); rwa [World.size_alloc, World.size_alloc] at this)
    · exact below_step (below_alloc (below_alloc (below_alloc (Below.refl _ _) _) _) _) hb
  go_wp2_with (first
    | (go_at_call 19; refine (hc _).mono ?_; rintro e w1 ⟨rfl, hb1⟩; have HW := HA _ hb1; clear hb1; have hs1 : w.heap.size + 1 + 1 < w1.heap.size := blk_lt HW.out.2.2.1; have hx2 : ∀ o, (w1.alloc o).cell? ⟨w.heap.size, 2, none⟩ = some (Value.int .u8 n2) := (fun o => blk_cell (blk_alloc HW.out.1 o) 2); have hy0 : ∀ o, (w1.alloc o).cell? ⟨w.heap.size + 1 + 1, 0, none⟩ = some (Value.int .i64 (1 + n0 % 6)) := (fun o => blk_cell (blk_alloc HW.out.2.2.1 o) 0); have hy1 : ∀ o, (w1.alloc o).cell? ⟨w.heap.size + 1 + 1, 1, none⟩ = some (Value.int .i64 (1 + n1 % 8)) := (fun o => blk_cell (blk_alloc HW.out.2.2.1 o) 1); have hy2 : ∀ o, (w1.alloc o).cell? ⟨w.heap.size + 1 + 1, 2, none⟩ = some (Value.int .i64 0) := (fun o => blk_cell (blk_alloc HW.out.2.2.1 o) 2); have hz0 := (blk_cell HW.out.2.2.1 0).trans (show _ = some (Value.int .i64 (1 + n0 % 6)) from rfl); have hz1 := (blk_cell HW.out.2.2.1 1).trans (show _ = some (Value.int .i64 (1 + n1 % 8)) from rfl); have hz2 := (blk_cell HW.out.2.2.1 2).trans (show _ = some (Value.int .i64 0) from rfl); have hzf := blk_frozen HW.out.2.2.1 2; have hyf : ∀ o, (w1.alloc o).frozen? ⟨w.heap.size + 1 + 1, 2, none⟩ = false := (fun o => blk_frozen (blk_alloc HW.out.2.2.1 o) 2))
    | (refine wpList_store_row rfl 23 (.tmp 2) (.tmp 31) rfl (w.heap.size + 1) #[.int .i64 (1 + n0 % 6), .int .i64 (1 + n1 % 8), .int .i64 (1 + n2 % q5)] rfl rfl 23 _ (blk_alloc ((Below.heap_setCell _ _ _ _ (by simp)).trans HW.out.2.1) _) (by kernel_rfl) (by rfl) (by kernel_rfl) ?_))
  exact some_end (by omega) (by rfl) rfl (blk_alloc ((Below.heap_setCell _ _ _ _ (by simp)).trans HW.out.2.1) _) (by kernel_rfl) (below_alloc (below_set HW.out.2.2.2 (by omega)) _)
end Go.Proofs.Ytibcgallhldnnaa.P
