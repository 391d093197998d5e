/- layout.Split: the shards of bytes, or why there are none. -/
import Derived.Test.YtibcgallhldnnaaL2
import Derived.Test.YtibcgallhldnnaaL0
import Derived.Test.YtibcgallhldnnaaPf10
import Derived.Test.YtibcgallhldnnaaPf22
namespace Go.Proofs.Ytibcgallhldnnaa.P
open Go.RowKit Go.Shelf Go.Proofs.YtibcgallhldnnaaW.PrintWords Go.Proofs.YtibcgallhldnnaaW.PrintLast Go.Proofs.YtibcgallhldnnaaW.PrintMore
set_option linter.unusedVariables false
set_option linter.unusedSimpArgs false
attribute [local go_sem] Oper.semAt_some

def splitL (K size : Nat) (xs : List Int) : List (List Int) := (List.range K).map (rowAt (xs ++ List.replicate (K * size - xs.length) 0) size)
def layout_Split.f (a0_0 a0_1 a0_2 : Int) (l1 : List Int) : Option (List (List Int) × Int) :=
  (layout_Size.f 9 a0_0 a0_1 a0_2 (l1.length : Int)).bind fun s => if s.2 = 0 then (layout_rule.f a0_0 a0_1 a0_2).bind fun r =>
    if (r.2 = 0 ∨ r.2 = 4) ∧ l1.length ≤ 4096 ∧ 1 ≤ s.1 ∧ s.1 ≤ 10000 ∧ 1 ≤ a0_1 ∧ a0_1 ≤ 8 ∧ ((layOf r.2 l1).length : Int) ≤ a0_1 * s.1 then some (splitL a0_1.toNat s.1.toNat (layOf r.2 l1), 0) else none
  else some ([], s.2)

/-- k of the K rows are made: boxes, pointers, rows of zeros. -/
structure Rows0 (w : World) (a0 a2 : Int) (S K size k : Nat) (W : World) : Prop where
  x : W.heap[w.heap.size]? = some (.cells #[.int .i64 a0, .int .i64 (K : Int), .int .i64 a2] 23 (0, 0))
  s : W.heap[S]? = some (.cells #[.int .i64 (size : Int)] 3 (0, 0))
  g : W.heap[S + 1]? = some (.cells (ptrs (S + 3) size k K) 24 (0, 0))
  l : W.heap[S + 1 + 1]? = some (.cells #[.slice (some ⟨S + 1, 0, none⟩) K K] 31 (0, 0))
  rows : ∀ j, j < k → W.heap[S + 3 + j]? = some (.cells (bytesArr (List.replicate size 0)) 5 (0, 0))
  len : W.heap.size = S + 3 + k
  below : Below w.heap.size w W
theorem Rows0.start {w w1 : World} {a0 a2 : Int} {K size : Nat} (hx : w1.heap[w.heap.size]? = some (.cells #[.int .i64 a0, .int .i64 (K : Int), .int .i64 a2] 23 (0, 0))) (hb : Below w.heap.size w w1) :
    Rows0 w a0 a2 w1.heap.size K size 0 (((w1.alloc (Obj.cells #[Value.int IntKind.i64 ↑size] 3)).alloc (Obj.cells (madeCells #[Value.slice none 0 0] K) 24)).alloc (Obj.cells #[Value.slice (some { block := w1.heap.size + 1, off := 0 }) K K] 31)) := by
  refine ⟨blk_alloc (blk_alloc (blk_alloc hx _) _) _, blk_alloc (blk_alloc (heap_alloc_new _ _) _) _, ?_, ?_, fun j hj => absurd hj (Nat.not_lt_zero _), by simp, below_alloc (below_alloc (below_alloc hb _) _) _⟩
  · have := heap_alloc_new (w1.alloc (Obj.cells #[Value.int IntKind.i64 ↑size] 3)) (Obj.cells (madeCells #[Value.slice none 0 0] K) 24)
    rw [World.size_alloc, ptrs_zero (w1.heap.size + 3) size K] at this
    rw [ptrs_zero (w1.heap.size + 3) size K]
    exact blk_alloc this _
  · have := heap_alloc_new ((w1.alloc (Obj.cells #[Value.int IntKind.i64 ↑size] 3)).alloc (Obj.cells (madeCells #[Value.slice none 0 0] K) 24)) (Obj.cells #[Value.slice (some { block := w1.heap.size + 1, off := 0 }) K K] 31)
    rw [World.size_alloc, World.size_alloc] at this
    exact this
theorem Rows0.step {w W : World} {a0 a2 : Int} {S K size k : Nat} (h : Rows0 w a0 a2 S K size k W) (hk : k < K) (hS : w.heap.size < S) :
    Rows0 w a0 a2 S K size (k + 1) ((W.alloc (.cells (madeCells #[.int .u8 0] size) 5)).setCell ⟨S + 1, k, none⟩ (.slice (some ⟨W.heap.size, 0, none⟩) size size)) := by
  have hn := heap_alloc_new W (.cells (madeCells #[.int .u8 0] size) 5)
  rw [made_bytes] at hn ⊢
  have hl := h.len
  refine ⟨blk_far (blk_alloc h.x _) (by simp; omega) _, blk_far (blk_alloc h.s _) (by simp) _, ?_, blk_far (blk_alloc h.l _) (by simp) _, fun j hj => ?_, by simp; omega, below_set (below_alloc h.below _) (by omega)⟩
  · have := blk_set (blk_alloc h.g (.cells (bytesArr (List.replicate size 0)) 5)) k (.slice (some ⟨W.heap.size, 0, none⟩) size size)
    rw [hl, ptrs_set _ _ _ _ hk] at this
    rw [hl]
    exact this
  · refine blk_far ?_ (by simp; omega) _
    by_cases e : j = k
    · subst e; rw [← hl]; exact hn
    · exact blk_alloc (h.rows j (by omega)) _
theorem Rows0.drew {w W : World} {a0 a2 : Int} {S K size k : Nat} (h : Rows0 w a0 a2 S K size k W) : Rows0 w a0 a2 S K size k W.drew := ⟨h.x, h.s, h.g, h.l, h.rows, h.len, below_drew h.below⟩
theorem Rows0.later {w W W' : World} {a0 a2 : Int} {S K size k : Nat} (h : Rows0 w a0 a2 S K size k W) : Rows0 w a0 a2 S K size k W := h

/-- The K rows hold fl, cut; the boxes and pointers lie as they were made. -/
structure RowsAt (w : World) (S K size : Nat) (fl : List Int) (W : World) : Prop where
  s : W.heap[S]? = some (.cells #[.int .i64 (size : Int)] 3 (0, 0))
  g : W.heap[S + 1]? = some (.cells (ptrs (S + 3) size K K) 24 (0, 0))
  l : W.heap[S + 1 + 1]? = some (.cells #[.slice (some ⟨S + 1, 0, none⟩) K K] 31 (0, 0))
  rows : ∀ j, j < K → W.heap[S + 3 + j]? = some (.cells (bytesArr (rowAt fl size j)) 5 (0, 0))
  below : Below w.heap.size w W
theorem rowAt_zero (K size j : Nat) (h : j < K) : rowAt (List.replicate (K * size) 0) size j = List.replicate size 0 := by
  have := Nat.mul_le_mul_right size (show j + 1 ≤ K from h)
  rw [Nat.add_mul, Nat.one_mul] at this
  unfold rowAt
  rw [List.drop_replicate, List.take_replicate, Nat.min_eq_left (by omega)]
theorem Rows0.at_ {w W W' : World} {a0 a2 : Int} {S K size : Nat} (h : Rows0 w a0 a2 S K size K W) (hb : Below W.heap.size W W') : RowsAt w S K size (List.replicate (K * size) 0) W' :=
  ⟨blk_below h.s hb, blk_below h.g hb, blk_below h.l hb, fun j hj => by rw [rowAt_zero K size j hj]; exact blk_below (h.rows j hj) hb, below_step h.below hb⟩
theorem cells_grown {W W' : World} {row : Option Nat} {k : Nat} {cs : Array Value} {t : TypeId} (h : W.heap[k]? = some (.cells cs t (0, 0))) (hg : W.grownBy W' row) (hr : ∀ r, row = some r → ∃ o : Obj, W.heap[r]? = some o ∧ o.isCells = false) : W'.heap[k]? = some (.cells cs t (0, 0)) := by
  refine (hg.block k (blk_lt h) (fun e => ?_)).trans h
  obtain ⟨o, ho, hc⟩ := hr k e.symm
  rw [h] at ho
  cases ho
  cases hc
theorem RowsAt.grown {w W W' : World} {S K size B : Nat} {fl : List Int} {row : Option Nat} (h : RowsAt w S K size fl W) (hB : w.heap.size ≤ B) (hg : W.grownBy W' row) (hr : ∀ r, row = some r → B ≤ r ∧ ∃ o : Obj, W.heap[r]? = some o ∧ o.isCells = false) : RowsAt w S K size fl W' := by
  have hr' : ∀ r, row = some r → ∃ o : Obj, W.heap[r]? = some o ∧ o.isCells = false := fun r e => (hr r e).2
  exact ⟨cells_grown h.s hg hr', cells_grown h.g hg hr', cells_grown h.l hg hr', fun j hj => cells_grown (h.rows j hj) hg hr', h.below.grown hg h.below.size (fun k e => Nat.le_trans hB (hr k e).1)⟩
theorem RowsAt.set {w W : World} {S K size : Nat} {fl : List Int} (h : RowsAt w S K size fl W) (hS : w.heap.size < S) (hs : 0 < size) (i : Nat) (v : Int) (q r : Nat) (hq : i / size = q) (hr : i % size = r) (hK : q < K) :
    RowsAt w S K size (fl.set i v) (W.setCell ⟨S + 3 + q, r, none⟩ (.int .u8 v)) := by
  refine ⟨blk_far h.s (show S ≠ S + 3 + q by omega) _, blk_far h.g (show S + 1 ≠ S + 3 + q by omega) _, blk_far h.l (show S + 1 + 1 ≠ S + 3 + q by omega) _, fun j hj => ?_, below_set h.below (by omega)⟩
  rw [rowAt_set _ _ _ _ _ hs, hq, hr]
  by_cases e : j = q
  · subst e
    rw [if_pos rfl, ← bytesArr_set]
    exact blk_set (h.rows _ hj) _ _
  · rw [if_neg e]
    exact blk_far (h.rows j hj) (show S + 3 + j ≠ S + 3 + q by omega) _
theorem RowsAt.drew {w W : World} {S K size : Nat} {fl : List Int} (h : RowsAt w S K size fl W) : RowsAt w S K size fl W.drew := ⟨h.s, h.g, h.l, h.rows, below_drew h.below⟩

set_option maxRecDepth 100000 in
set_option maxHeartbeats 8000000 in
theorem split_walk (a0 a1 a2 : Int) (K size : Nat) (unit ah : Int) (A1 : Option Addr) (c1 : Nat) (l1 xs : List Int) (w : World) (hr1 : Kd.C (Kd.int .u8) w A1 l1.length l1) (hc1 : l1.length ≤ c1) (ha1 : a1 = K)
    (hS : layout_Size.f 9 a0 a1 a2 (l1.length : Int) = some ((size : Int), 0)) (hR : layout_rule.f a0 a1 a2 = some (unit, ah)) (hah : ah = 0 ∨ ah = 4) (hx : Aside0 (layOf ah l1 = xs)) (hl : l1.length ≤ 4096) (hs1 : 1 ≤ size) (hs2 : size ≤ 10000) (hK1 : 1 ≤ K) (hK2 : K ≤ 8) (hxl : xs.length ≤ K * size) :
    CallsIn Fence.wide 6 Try.prog 12 #[.agg #[.int .i64 a0, .int .i64 a1, .int .i64 a2], .slice A1 l1.length c1] w fun e w' => ∃ v0_ : Value, e = .returned (.tuple #[v0_, .int .i64 0]) ∧ Kd.S (Kd.slice 5 (Kd.int .u8)) 24 w' w.heap.size (fun _ => True) v0_ (splitL K size xs) ∧ Below w.heap.size w w' := by
  subst ha1
  have hcS := fun w => layout_Size.calls 9 a0 K a2 l1.length size 0 w hS
  have hcR := fun w => layout_rule.calls a0 K a2 unit ah w hR
  have hmk := run_make_row' (P := Try.prog) 31 24 (.slice none 0 0) 24 Try.underlying31 info24 rfl .i64 .i64 K (by omega) (by omega)
  refine callsIn_of_wp_marks Try.func12 rfl trivial ?_ rfl
  simp only [Try.ntmps12, List.size_toArray, List.length_cons, List.length_nil, Nat.reduceAdd, Nat.reduceSub, Array.replicate_succ, Array.replicate_zero, List.push_toArray, List.append_toArray, List.nil_append, List.cons_append]
  gi_wp2_with (refine ⟨trivial, ?_⟩; refine (callsIn_wide.2 (hcS _)).mono ?_; rintro e w1 ⟨rfl, hb1⟩; have HX : Aside0 (w1.heap[w.heap.size]? = some (.cells #[.int .i64 a0, .int .i64 K, .int .i64 a2] 23 (0, 0))) := ⟨(hb1.block _ (by simp)).trans (heap_alloc_new _ _)⟩; have hx1 : ∀ o, (w1.alloc o).cell? ⟨w.heap.size, 1, none⟩ = some (.int .i64 K) := (fun o => blk_cell (blk_alloc HX.out o) 1); have HB1 := Aside0.mk (below_step (below_alloc (Below.refl _ _) _) hb1); clear hb1)
  have hmk2 := run_make_row' (P := Try.prog) 24 5 (.int .u8 0) 1 Try.underlying24 info5 rfl .i64 .i64 size (by omega) (by omega)
  have hSw : w.heap.size < w1.heap.size := blk_lt HX.out
  gi_loopw [29] (fun i wr => ∃ k : Nat, k ≤ K ∧ i = .int .i64 k ∧ Aside0 (Rows0 w a0 a2 w1.heap.size K size k wr))
    (fun i _ => K - (intOf i).toNat)
  case atStart => exact ⟨0, Nat.zero_le _, rfl, ⟨Rows0.start HX.out HB1.out⟩⟩
  case round =>
    obtain ⟨k, hk, rfl, HR⟩ := hrel
    by_cases hlt : k < K
    · have hl0 := blk_cell HR.out.l 0
      have hs0 := blk_cell HR.out.s 0
      have hl1 := blk_cell (blk_drew HR.out.l) 0
      have hs1' := blk_cell (blk_drew HR.out.s) 0
      have hg1 : ∀ o, (wr.alloc o).cell? ⟨w1.heap.size + 1, k, none⟩ = some (.slice none 0 0) := fun o => (blk_cell (blk_alloc HR.out.g o) k).trans (ptrs_get_nil _ _ _ _ hlt)
      have hf1 : ∀ o, (wr.alloc o).frozen? ⟨w1.heap.size + 1, k, none⟩ = false := fun o => blk_frozen (blk_alloc HR.out.g o) k
      have hg2 : ∀ o, (wr.alloc o).drew.cell? ⟨w1.heap.size + 1, k, none⟩ = some (.slice none 0 0) := hg1
      have hf2 : ∀ o, (wr.alloc o).drew.frozen? ⟨w1.heap.size + 1, k, none⟩ = false := hf1
      have hl2 : ∀ o, (wr.alloc o).cell? ⟨w1.heap.size + 1 + 1, 0, none⟩ = some (.slice (some ⟨w1.heap.size + 1, 0, none⟩) K K) := fun o => blk_cell (blk_alloc HR.out.l o) 0
      have hl3 : ∀ o, (wr.alloc o).drew.cell? ⟨w1.heap.size + 1 + 1, 0, none⟩ = some (.slice (some ⟨w1.heap.size + 1, 0, none⟩) K K) := hl2
      have hg0 := (blk_cell HR.out.g k).trans (ptrs_get_nil _ _ _ _ hlt)
      have hf0 := blk_frozen HR.out.g k
      have hlen := HR.out.len
      gi_wp2
      gi_region
      gi_wp2
      go_roundw
      case rel => exact ⟨k + 1, by omega, by simp, ⟨by have := (HR.out.step hlt hSw).drew; rw [HR.out.len] at this; exact this⟩⟩
      case measure => simp [intOf]; omega
    · obtain rfl : k = K := by omega
      have hx0 := (blk_cell HR.out.x 0).trans (show _ = some (Value.int .i64 a0) from rfl)
      have hx1 := (blk_cell HR.out.x 1).trans (show _ = some (Value.int .i64 k) from rfl)
      have hx2 := (blk_cell HR.out.x 2).trans (show _ = some (Value.int .i64 a2) from rfl)
      gi_wp2_with (refine ⟨trivial, ?_⟩; first
        | (refine (callsIn_wide.2 (hcR _)).mono ?_; rintro e w2 ⟨rfl, hb2⟩; have HB2 := Aside0.mk hb2; clear hb2)
        | (refine (callsIn_wide.2 (laid_calls _ _ _ _ _)).mono ?_; rintro e w3 ⟨rfl, rfl⟩))
      have hB3 : Below wr.heap.size wr ((w2.alloc (Obj.cells #[Value.int IntKind.i64 ah] 3)).alloc (Obj.cells #[Value.slice A1 l1.length c1] 24)) := below_alloc (below_alloc HB2.out _) _
      have hA := HR.out.at_ hB3
      have hc3 := Kd.C_below hr1 hA.below
      have hBa : ((w2.alloc (Obj.cells #[Value.int IntKind.i64 ah] 3)).alloc (Obj.cells #[Value.slice A1 l1.length c1] 24)).cell? ⟨w2.heap.size, 0, none⟩ = some (.int .i64 ah) := blk_cell (blk_alloc (heap_alloc_new _ _) _) 0
      have hBb : ((w2.alloc (Obj.cells #[Value.int IntKind.i64 ah] 3)).alloc (Obj.cells #[Value.slice A1 l1.length c1] 24)).cell? ⟨w2.heap.size + 1, 0, none⟩ = some (.slice A1 l1.length c1) := by
        have := blk_cell (heap_alloc_new (w2.alloc (Obj.cells #[Value.int IntKind.i64 ah] 3)) (Obj.cells #[Value.slice A1 l1.length c1] 24)) 0
        rw [World.size_alloc] at this
        exact this
      have hsz3 : ((w2.alloc (Obj.cells #[Value.int IntKind.i64 ah] 3)).alloc (Obj.cells #[Value.slice A1 l1.length c1] 24)).heap.size = w2.heap.size + 2 := by simp
      have hlt2 : w1.heap.size + 3 + k ≤ w2.heap.size := by have := HR.out.len; have := HB2.out.size; omega
      obtain ⟨W3, hW3⟩ : ∃ W3, W3 = (w2.alloc (Obj.cells #[Value.int IntKind.i64 ah] 3)).alloc (Obj.cells #[Value.slice A1 l1.length c1] 24) := ⟨_, rfl⟩
      rw [← hW3] at hB3 hA hc3 hBa hBb hsz3 ⊢
      have HW3 := Aside0.mk hW3
      have HA := Aside0.mk hA
      clear hW3 hA hB3
      refine wpIn_rangeFunc_ownF rfl (by omega) (gf := 35) (lb := #[.pointer (some ⟨w2.heap.size + 1, 0, none⟩), .pointer (some ⟨w2.heap.size, 0, none⟩)]) rfl trivial (enters_of Try.func35 (by kernel_rfl) rfl)
        (laid_stops 5 (by omega) w2.heap.size (w2.heap.size + 1) ah hah A1 c1 l1 xs hx.out W3 (by omega) (by omega) hBa hBb hc3 hc1 (by omega)) (fun h k => keepsCells_t h k) (fun W l o o' _ h hc _ => keepsCells_b W l o o' h hc) (Below.refl _ _) (fun _ => rfl)
        (fun pre W => RowsAt w w1.heap.size k size (fillL (k * size) xs pre) W) (fun _ _ _ => False)
        (fun s A B row hs hg hr => hs.grown (by omega) hg hr) (fun _ _ _ _ _ hs _ _ => hs) HA.out
        (fun x => { tmps := #[Value.agg #[Value.int IntKind.i64 a0, Value.int IntKind.i64 (k : Int), Value.int IntKind.i64 a2], Value.slice A1 l1.length c1, Value.pointer (some { block := w.heap.size, off := 0 }), undef, Value.slice none 0 0, Value.int IntKind.i64 0, Value.pointer (some { block := w1.heap.size, off := 0 }), Value.int IntKind.i64 0, Value.pointer (some { block := w1.heap.size + 1 + 1, off := 0 }), u9, Value.int IntKind.i64 unit, Value.int IntKind.i64 ah, .int .i64 ((x.1 : Nat) : Int), .int .u8 xs[x.1], Value.tuple #[Value.int IntKind.i64 (size : Int), Value.int IntKind.i64 0], Value.agg #[Value.int IntKind.i64 a0, Value.int IntKind.i64 (k : Int), Value.int IntKind.i64 a2], Value.slice A1 l1.length c1, Value.int IntKind.i64 (l1.length : Int), Value.tuple #[Value.int IntKind.i64 (size : Int), Value.int IntKind.i64 0], Value.int IntKind.i64 (size : Int), Value.int IntKind.i64 0, Value.int IntKind.i64 0, Value.bool false, undef, Value.pointer (some { block := w.heap.size, off := 1 }), Value.int IntKind.i64 (k : Int), Value.slice (some { block := w1.heap.size + 1, off := 0 }) k k, Value.slice (some { block := w1.heap.size + 1, off := 0 }) k k, Value.int IntKind.i64 (k : Int), Value.int IntKind.i64 (k : Int), Value.bool false, u31, u32, u33, u34, u35, u36, u37, Value.tuple #[Value.int IntKind.i64 unit, Value.int IntKind.i64 ah], Value.agg #[Value.int IntKind.i64 a0, Value.int IntKind.i64 (k : Int), Value.int IntKind.i64 a2], Value.tuple #[Value.int IntKind.i64 unit, Value.int IntKind.i64 ah], Value.int IntKind.i64 unit, Value.int IntKind.i64 ah, Value.int IntKind.i64 ah, Value.slice A1 l1.length c1, Value.func (Fn.func 35) #[] #[Value.pointer (some { block := w2.heap.size + 1, off := 0 }), Value.pointer (some { block := w2.heap.size, off := 0 })], .int .i64 ((x.1 : Nat) : Int), .int .u8 xs[x.1], undef, undef, undef, undef, undef, undef, undef, undef, undef, undef, undef, undef], defers := [] }) ?assign ?body ?done ?stop
      case assign =>
        intro l x W K hK
        gi_wp2
        exact hK
      case body =>
        rintro l pre x W hI _
        have hxK : x.1 / size < k := (Nat.div_lt_iff_lt_mul hs1).2 (by have := x.2; omega)
        have hrm : x.1 % size < size := Nat.mod_lt _ hs1
        have e1 : ((x.1 : Nat) : Int) / (size : Int) = ((x.1 / size : Nat) : Int) := by simp
        have e2 : ((x.1 : Nat) : Int) % (size : Int) = ((x.1 % size : Nat) : Int) := by simp
        have e3 : Int.tmod ((x.1 : Nat) : Int) (size : Int) = ((x.1 % size : Nat) : Int) := by rw [Int.tmod_eq_emod_of_nonneg (by omega)]; exact e2
        have hzs : ¬ size = 0 := by omega
        obtain ⟨q, hq⟩ : ∃ q, x.1 / size = q := ⟨_, rfl⟩
        obtain ⟨r, hr⟩ : ∃ r, x.1 % size = r := ⟨_, rfl⟩
        rw [hq] at hxK e1
        rw [hr] at hrm e2 e3
        have hqi : (q : Int) < (k : Int) := by omega
        have hri : (r : Int) < (size : Int) := by omega
        have e5 : IntKind.i64.wrap (q : Int) = (q : Int) := by rw [IntKind.wrap_i64]; omega
        have e6 : IntKind.i64.wrap (r : Int) = (r : Int) := by rw [IntKind.wrap_i64]; omega
        have hzn : ¬ (size : Int) = 0 := by omega
        have hI' := Aside0.mk hI
        have hrl : (rowAt (fillL (k * size) xs pre) size q).length = size := rowAt_length _ _ _ k (fill_length _ _ _) hxK
        have hs0 := (blk_cell hI.s 0).trans (show _ = some (Value.int .i64 (size : Int)) from rfl)
        have hl0 := (blk_cell hI.l 0).trans (show _ = some (Value.slice (some ⟨w1.heap.size + 1, 0, none⟩) k k) from rfl)
        have hg0 := (blk_cell hI.g q).trans (ptrs_get _ _ _ _ _ hxK)
        have hr0 := (blk_cell (hI.rows q hxK) r).trans (bytesArr_get _ r (by omega))
        have hf0 := blk_frozen (hI.rows q hxK) r
        have hs1' : W.drew.cell? ⟨w1.heap.size, 0, none⟩ = _ := hs0
        have hl1 : W.drew.cell? ⟨w1.heap.size + 1 + 1, 0, none⟩ = _ := hl0
        have hg1 : W.drew.cell? ⟨w1.heap.size + 1, q, none⟩ = _ := hg0
        have hr1' : W.drew.cell? ⟨w1.heap.size + 3 + q, r, none⟩ = _ := hr0
        have hf1 : W.drew.frozen? ⟨w1.heap.size + 3 + q, r, none⟩ = false := hf0
        have hB5 := Aside0.mk (And.intro hq hr)
        clear hI hq hr
        gi_wp2
        refine wpIn_round_still_tail 11 (by kernel_rfl) (by kernel_rfl) (by kernel_rfl) (by rintro ⟨a, w, h⟩; exact h) ?_
        simp only [List.take_succ_cons, List.take_zero, List.drop_succ_cons, List.drop_zero]
        repeat still_step
        try refine wpStill_nil ?_
        go_wp2
        refine ⟨(KeepsOthers.setCell _ _ _).trans (KeepsOthers.drew _), fun k' cs t hk hc => ?_, ?_⟩
        · exact blk_far hc (show k' ≠ w1.heap.size + 3 + q by omega) _
        · show RowsAt w w1.heap.size k size (fillL (k * size) xs (pre ++ [x])) _
          rw [fill_snoc]
          exact (hI'.out.set hSw hs1 x.1 xs[x.1] q r hB5.out.1 hB5.out.2 hxK).drew
      case done =>
        rintro D ys W hD rfl hI hK
        have hl0 := (blk_cell hI.l 0).trans (show _ = some (Value.slice (some ⟨w1.heap.size + 1, 0, none⟩) k k) from rfl)
        have hI' := Aside0.mk hI
        clear hI
        gi_wp2
        have hI2 : RowsAt w w1.heap.size k size (fillL (k * size) xs (List.finRange xs.length)) (W.putObj D (.deferred none)) :=
          hI'.out.grown (B := W3.heap.size) (by omega) (grownBy_putObj' W D _) (fun r e => by cases e; exact ⟨hD, _, hK, rfl⟩)
        refine ⟨by simp, .inl ⟨_, _, rfl, run_takeDeferred hK, ?_⟩⟩
        refine ⟨_, results_tmp2 rfl _ _ _, _, rfl, ?_, hI2.below⟩
        have h := S_of_blocks (W.putObj D (.deferred none)) w.heap.size (w1.heap.size + 1) (w1.heap.size + 3) size k (rowAt (fillL (k * size) xs (List.finRange xs.length)) size) hI2.g hI2.rows
          (fun j hj => rowAt_length _ _ _ k (fill_length _ _ _) hj) (by omega) (by omega) (by omega) (by omega) (by omega)
        rw [fill_all _ _ hxl] at h
        exact h
      case stop =>
        rintro D c pre W _ _ h _
        exact h.elim

set_option maxRecDepth 100000 in
set_option maxHeartbeats 4000000 in
theorem split_none (a0 a1 a2 : Int) (A1 : Option Addr) (c1 : Nat) (l1 : List Int) (s e0 : Int) (w : World) (hS : layout_Size.f 9 a0 a1 a2 (l1.length : Int) = some (s, e0)) (he : ¬ e0 = 0) :
    Calls Try.prog 12 #[.agg #[.int .i64 a0, .int .i64 a1, .int .i64 a2], .slice A1 l1.length c1] w fun e w' => e = .returned (.tuple #[.slice none 0 0, .int .i64 e0]) ∧ Below w.heap.size w w' := by
  have hcS := fun w => layout_Size.calls 9 a0 a1 a2 l1.length s e0 w hS
  have hb1 : (e0 == 0) = false := beq_eq_false_iff_ne.mpr he
  have hb2 : (e0 != 0) = true := bne_iff_ne.mpr he
  go_enter Try.func12, Try.ntmps12
  go_wp2_with (go_at_call 10; refine (hcS _).mono ?_; rintro e w1 ⟨rfl, hb1⟩; have HB1 := Aside0.mk (below_step (below_alloc (Below.refl w.heap.size w) _) hb1); clear hb1)
  refine ⟨by simp, _, results_tmp2 rfl _ _ _, rfl, below_alloc HB1.out _⟩

theorem layout_Split.calls (a0_0 : Int) (a0_1 : Int) (a0_2 : Int) (A1 : Option Addr) (c1 : Nat) (l1 : List Int) (r1 : List (List Int)) (r2 : Int) (w : World) (hr1 : Kd.C (Kd.int .u8) w A1 l1.length l1) (hc1 : l1.length ≤ c1) (h : layout_Split.f a0_0 a0_1 a0_2 l1 = some (r1, r2)) :
    Calls Try.prog 12 #[.agg #[.int .i64 a0_0, .int .i64 a0_1, .int .i64 a0_2], .slice A1 l1.length c1] w fun e w' => ∃ v0_ : Value, e = .returned (.tuple #[v0_, .int .i64 r2]) ∧ Kd.S (Kd.slice 5 (Kd.int .u8)) 24 w' w.heap.size (fun _ => True) v0_ r1 ∧ Below w.heap.size w w' := by
  unfold layout_Split.f at h
  obtain ⟨⟨s, e0⟩, hS, h⟩ := Option.bind_eq_some_iff.mp h
  dsimp only at h
  by_cases he : e0 = 0
  · subst he
    rw [if_pos rfl] at h
    obtain ⟨⟨unit, ah⟩, hR, h⟩ := Option.bind_eq_some_iff.mp h
    dsimp only at h
    by_cases hg : (ah = 0 ∨ ah = 4) ∧ l1.length ≤ 4096 ∧ 1 ≤ s ∧ s ≤ 10000 ∧ 1 ≤ a0_1 ∧ a0_1 ≤ 8 ∧ ((layOf ah l1).length : Int) ≤ a0_1 * s
    · rw [if_pos hg] at h
      obtain ⟨h1, h2, h3, h4, h5, h6, h7⟩ := hg
      simp only [Option.some.injEq, Prod.mk.injEq] at h
      obtain ⟨rfl, rfl⟩ := h
      obtain ⟨size, rfl⟩ := Int.eq_ofNat_of_zero_le (show 0 ≤ s by omega)
      obtain ⟨K, rfl⟩ := Int.eq_ofNat_of_zero_le (show 0 ≤ a0_1 by omega)
      simp only [Int.toNat_natCast]
      exact callsIn_wide.1 (split_walk a0_0 K a0_2 K size unit ah A1 c1 l1 (layOf ah l1) w hr1 hc1 rfl hS hR h1 ⟨rfl⟩ h2 (by omega) (by omega) (by omega) (by omega) (by rw [← Int.natCast_mul] at h7; omega))
    · rw [if_neg hg] at h
      exact absurd h (by simp)
  · rw [if_neg he] at h
    simp only [Option.some.injEq, Prod.mk.injEq] at h
    obtain ⟨rfl, rfl⟩ := h
    refine (split_none a0_0 a0_1 a0_2 A1 c1 l1 s e0 w hS he).mono ?_
    rintro e w' ⟨rfl, hb⟩
    exact ⟨_, rfl, Kd.S_nil _ _ _ _ _, hb⟩
end Go.Proofs.Ytibcgallhldnnaa.P
