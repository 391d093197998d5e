/- Written by a program of this seat (wip/tools/stage.py) out of the translation: what each function of this text returns, where its plain form returns. Lean checks it. -/
import Derived.Test.YtibcgallhldnnaaP0
import Derived.Test.YtibcgallhldnnaaPf20
import Derived.Test.YtibcgallhldnnaaPf23
import Derived.Test.YtibcgallhldnnaaPf24
import Derived.Test.YtibcgallhldnnaaPf13
import Derived.Test.YtibcgallhldnnaaPf14
namespace Go.Proofs.Ytibcgallhldnnaa.P
open Go.RowKit Go.Proofs.YtibcgallhldnnaaW.PrintWords Go.Proofs.YtibcgallhldnnaaW.PrintLast Go.Proofs.YtibcgallhldnnaaW.PrintMore
attribute [local go_sem] max2_int min2_int max_two min_two max_three min_three max_four min_four   -- for this text's walks alone
set_option linter.unusedVariables false
set_option linter.unusedSimpArgs false

/-! ### gambrelref10_Join: function 17 -/
mutual
def gambrelref10_Join.j0 : Nat → List (List Int) → Int → Bool → Int → Int → Int → Option (List Int × Int)
  | 0, _, _, _, _, _, _ => none
  | k + 1, x1, x2, x24, x194000, x194001, x194002 => if x24 = true then (some (([] : List Int), 1)) else (gambrelref10_Join.l0 k x1 x2 ([] : List Int) 0 x194000 x194001 x194002)
def gambrelref10_Join.l0 : Nat → List (List Int) → Int → List Int → Int → Int → Int → Int → Option (List Int × Int)
  | 0, _, _, _, _, _, _, _ => none
  | k + 1, x1, x2, x8, x9, x194000, x194001, x194002 => if x9 < (x1.length : Int) then (if 0 ≤ x9 then (if 0 < (x1.length : Int) then (if ((rd_L6 x1 x9).length : Int) = ((rd_L6 x1 0).length : Int) then (if x8.length + (rd_L6 x1 x9).length < 140737488355328 then (gambrelref10_Join.l0 k x1 x2 (x8 ++ (rd_L6 x1 x9)) (wrap64 (x9 + 1)) x194000 x194001 x194002) else (none)) else (some (([] : List Int), 1))) else (none)) else (none)) else (if 0 < (x1.length : Int) then (if ((rd_L6 x1 0).length : Int) = 0 then (gambrelref10_Join.j2 k x1 x2 x8 true x194000 x194001 x194002) else ((gambrelref10_layout.f x194000 x194001 x194002).bind fun t203 => ((gambrelref10_unit.f t203).bind fun t204 => (if t204 = 0 then (none) else (gambrelref10_Join.j2 k x1 x2 x8 ((((rd_L6 x1 0).length : Int) % t204) != 0) x194000 x194001 x194002))))) else (none))
def gambrelref10_Join.j2 : Nat → List (List Int) → Int → List Int → Bool → Int → Int → Int → Option (List Int × Int)
  | 0, _, _, _, _, _, _, _ => none
  | k + 1, x1, x2, x8, x62, x194000, x194001, x194002 => if x62 = true then (some (([] : List Int), 3)) else ((gambrelref10_layout.f x194000 x194001 x194002).bind fun t205 => (if t205 = 98 then (if (x8.length : Int) < 4 then (some (([] : List Int), 3)) else (gambrelref10_Join.l1 k x1 0 x8 0 x194000 x194001 x194002)) else (gambrelref10_Join.j4 k x1 x2 x8 0 x194000 x194001 x194002)))
def gambrelref10_Join.j4 : Nat → List (List Int) → Int → List Int → Int → Int → Int → Int → Option (List Int × Int)
  | 0, _, _, _, _, _, _, _ => none
  | k + 1, x1, x2, x8, x10, x194000, x194001, x194002 => if x2 < 0 then (gambrelref10_Join.j5 k x1 x2 x8 x10 true x194000 x194001 x194002) else (if x2 > 4096 then (gambrelref10_Join.j5 k x1 x2 x8 x10 true x194000 x194001 x194002) else (gambrelref10_Join.j5 k x1 x2 x8 x10 (decide (x2 > (wrap64 ((x8.length : Int) - x10)))) x194000 x194001 x194002))
def gambrelref10_Join.j5 : Nat → List (List Int) → Int → List Int → Int → Bool → Int → Int → Int → Option (List Int × Int)
  | 0, _, _, _, _, _, _, _, _ => none
  | k + 1, x1, x2, x8, x10, x94, x194000, x194001, x194002 => if x94 = true then (some (([] : List Int), 3)) else ((some (([] : List Int) : List Int)).bind fun y207 => (if 0 ≤ x10 then (if x10 ≤ (wrap64 (x10 + x2)) then (if (wrap64 (x10 + x2)) ≤ (x8.length : Int) then ((some ((x8.take ((wrap64 (x10 + x2)) : Int).toNat).drop (x10 : Int).toNat : List Int)).bind fun y210 => (if y207.length + y210.length < 140737488355328 then ((some (y207 ++ y210 : List Int)).bind fun y214 => ((gambrelref10_Split.f k x194000 x194001 x194002 y214).bind fun bt217 => ((gambrelref10_Same.f k bt217.1 x1).bind fun t221 => (if t221 = true then (some (y214, 0)) else (some (([] : List Int), 3)))))) else (none))) else (none)) else (none)) else (none)))
def gambrelref10_Join.l1 : Nat → List (List Int) → Int → List Int → Int → Int → Int → Int → Option (List Int × Int)
  | 0, _, _, _, _, _, _, _ => none
  | k + 1, x1, x2, x8, x11, x194000, x194001, x194002 => if x11 < 4 then (if 0 ≤ x11 then (if x11 < (x8.length : Int) then (gambrelref10_Join.l1 k x1 (wrap64 ((wrap64 (256 * x2)) + (wrap64 (rd x8 x11)))) x8 (wrap64 (x11 + 1)) x194000 x194001 x194002) else (none)) else (none)) else (gambrelref10_Join.j4 k x1 x2 x8 4 x194000 x194001 x194002)
end
def gambrelref10_Join.f (k : Nat) (a0_0 : Int) (a0_1 : Int) (a0_2 : Int) (l1 : List (List Int)) (a2 : Int) : Option (List Int × Int) := (gambrelref09_May.f a0_0 a0_1 a0_2).bind fun t194 => (if t194 = true then (gambrelref10_Join.j0 k l1 a2 ((l1.length : Int) != a0_1) a0_0 a0_1 a0_2) else (gambrelref10_Join.j0 k l1 a2 true a0_0 a0_1 a0_2))
theorem gambrelref10_Join.mono_l : ∀ k, (∀ y0 y1 y2 y3 y4 y5, LeO (gambrelref10_Join.j0 k y0 y1 y2 y3 y4 y5) (gambrelref10_Join.j0 (k + 1) y0 y1 y2 y3 y4 y5)) ∧ (∀ y0 y1 y2 y3 y4 y5 y6, LeO (gambrelref10_Join.l0 k y0 y1 y2 y3 y4 y5 y6) (gambrelref10_Join.l0 (k + 1) y0 y1 y2 y3 y4 y5 y6)) ∧ (∀ y0 y1 y2 y3 y4 y5 y6, LeO (gambrelref10_Join.j2 k y0 y1 y2 y3 y4 y5 y6) (gambrelref10_Join.j2 (k + 1) y0 y1 y2 y3 y4 y5 y6)) ∧ (∀ y0 y1 y2 y3 y4 y5 y6, LeO (gambrelref10_Join.j4 k y0 y1 y2 y3 y4 y5 y6) (gambrelref10_Join.j4 (k + 1) y0 y1 y2 y3 y4 y5 y6)) ∧ (∀ y0 y1 y2 y3 y4 y5 y6 y7, LeO (gambrelref10_Join.j5 k y0 y1 y2 y3 y4 y5 y6 y7) (gambrelref10_Join.j5 (k + 1) y0 y1 y2 y3 y4 y5 y6 y7)) ∧ (∀ y0 y1 y2 y3 y4 y5 y6, LeO (gambrelref10_Join.l1 k y0 y1 y2 y3 y4 y5 y6) (gambrelref10_Join.l1 (k + 1) y0 y1 y2 y3 y4 y5 y6))
  | 0 => ⟨fun _ _ _ _ _ _ r h => by simp [gambrelref10_Join.j0] at h, fun _ _ _ _ _ _ _ r h => by simp [gambrelref10_Join.l0] at h, fun _ _ _ _ _ _ _ r h => by simp [gambrelref10_Join.j2] at h, fun _ _ _ _ _ _ _ r h => by simp [gambrelref10_Join.j4] at h, fun _ _ _ _ _ _ _ _ r h => by simp [gambrelref10_Join.j5] at h, fun _ _ _ _ _ _ _ r h => by simp [gambrelref10_Join.l1] at h⟩
  | k + 1 => by
    obtain ⟨ih0, ih1, ih2, ih3, ih4, ih5⟩ := gambrelref10_Join.mono_l k
    refine ⟨?_, ?_, ?_, ?_, ?_, ?_⟩
    · intro y0 y1 y2 y3 y4 y5
      unfold gambrelref10_Join.j0
      repeat' first
      | (with_reducible exact ih0 _ _ _ _ _ _)
      | (with_reducible exact ih1 _ _ _ _ _ _ _)
      | (with_reducible exact ih2 _ _ _ _ _ _ _)
      | (with_reducible exact ih3 _ _ _ _ _ _ _)
      | (with_reducible exact ih4 _ _ _ _ _ _ _ _)
      | (with_reducible exact ih5 _ _ _ _ _ _ _)
      | (with_reducible exact gambrelref10_Same.mono _ _ _)
      | (with_reducible exact gambrelref10_Split.mono _ _ _ _ _)
      | (with_reducible exact LeO.refl _)
      | (with_reducible exact LeO.none _)
      | (with_reducible refine LeO.ite ?_ ?_)
      | (with_reducible refine LeO.bind ?_ (fun _ => ?_))
      | exact ih0 _ _ _ _ _ _
      | exact ih1 _ _ _ _ _ _ _
      | exact ih2 _ _ _ _ _ _ _
      | exact ih3 _ _ _ _ _ _ _
      | exact ih4 _ _ _ _ _ _ _ _
      | exact ih5 _ _ _ _ _ _ _
      | exact gambrelref10_Same.mono _ _ _
      | exact gambrelref10_Split.mono _ _ _ _ _
      | exact LeO.none _
      | refine LeO.ite ?_ ?_
      | refine LeO.bind ?_ (fun _ => ?_)
    · intro y0 y1 y2 y3 y4 y5 y6
      unfold gambrelref10_Join.l0
      repeat' first
      | (with_reducible exact ih0 _ _ _ _ _ _)
      | (with_reducible exact ih1 _ _ _ _ _ _ _)
      | (with_reducible exact ih2 _ _ _ _ _ _ _)
      | (with_reducible exact ih3 _ _ _ _ _ _ _)
      | (with_reducible exact ih4 _ _ _ _ _ _ _ _)
      | (with_reducible exact ih5 _ _ _ _ _ _ _)
      | (with_reducible exact gambrelref10_Same.mono _ _ _)
      | (with_reducible exact gambrelref10_Split.mono _ _ _ _ _)
      | (with_reducible exact LeO.refl _)
      | (with_reducible exact LeO.none _)
      | (with_reducible refine LeO.ite ?_ ?_)
      | (with_reducible refine LeO.bind ?_ (fun _ => ?_))
      | exact ih0 _ _ _ _ _ _
      | exact ih1 _ _ _ _ _ _ _
      | exact ih2 _ _ _ _ _ _ _
      | exact ih3 _ _ _ _ _ _ _
      | exact ih4 _ _ _ _ _ _ _ _
      | exact ih5 _ _ _ _ _ _ _
      | exact gambrelref10_Same.mono _ _ _
      | exact gambrelref10_Split.mono _ _ _ _ _
      | exact LeO.none _
      | refine LeO.ite ?_ ?_
      | refine LeO.bind ?_ (fun _ => ?_)
    · intro y0 y1 y2 y3 y4 y5 y6
      unfold gambrelref10_Join.j2
      repeat' first
      | (with_reducible exact ih0 _ _ _ _ _ _)
      | (with_reducible exact ih1 _ _ _ _ _ _ _)
      | (with_reducible exact ih2 _ _ _ _ _ _ _)
      | (with_reducible exact ih3 _ _ _ _ _ _ _)
      | (with_reducible exact ih4 _ _ _ _ _ _ _ _)
      | (with_reducible exact ih5 _ _ _ _ _ _ _)
      | (with_reducible exact gambrelref10_Same.mono _ _ _)
      | (with_reducible exact gambrelref10_Split.mono _ _ _ _ _)
      | (with_reducible exact LeO.refl _)
      | (with_reducible exact LeO.none _)
      | (with_reducible refine LeO.ite ?_ ?_)
      | (with_reducible refine LeO.bind ?_ (fun _ => ?_))
      | exact ih0 _ _ _ _ _ _
      | exact ih1 _ _ _ _ _ _ _
      | exact ih2 _ _ _ _ _ _ _
      | exact ih3 _ _ _ _ _ _ _
      | exact ih4 _ _ _ _ _ _ _ _
      | exact ih5 _ _ _ _ _ _ _
      | exact gambrelref10_Same.mono _ _ _
      | exact gambrelref10_Split.mono _ _ _ _ _
      | exact LeO.none _
      | refine LeO.ite ?_ ?_
      | refine LeO.bind ?_ (fun _ => ?_)
    · intro y0 y1 y2 y3 y4 y5 y6
      unfold gambrelref10_Join.j4
      repeat' first
      | (with_reducible exact ih0 _ _ _ _ _ _)
      | (with_reducible exact ih1 _ _ _ _ _ _ _)
      | (with_reducible exact ih2 _ _ _ _ _ _ _)
      | (with_reducible exact ih3 _ _ _ _ _ _ _)
      | (with_reducible exact ih4 _ _ _ _ _ _ _ _)
      | (with_reducible exact ih5 _ _ _ _ _ _ _)
      | (with_reducible exact gambrelref10_Same.mono _ _ _)
      | (with_reducible exact gambrelref10_Split.mono _ _ _ _ _)
      | (with_reducible exact LeO.refl _)
      | (with_reducible exact LeO.none _)
      | (with_reducible refine LeO.ite ?_ ?_)
      | (with_reducible refine LeO.bind ?_ (fun _ => ?_))
      | exact ih0 _ _ _ _ _ _
      | exact ih1 _ _ _ _ _ _ _
      | exact ih2 _ _ _ _ _ _ _
      | exact ih3 _ _ _ _ _ _ _
      | exact ih4 _ _ _ _ _ _ _ _
      | exact ih5 _ _ _ _ _ _ _
      | exact gambrelref10_Same.mono _ _ _
      | exact gambrelref10_Split.mono _ _ _ _ _
      | exact LeO.none _
      | refine LeO.ite ?_ ?_
      | refine LeO.bind ?_ (fun _ => ?_)
    · intro y0 y1 y2 y3 y4 y5 y6 y7
      unfold gambrelref10_Join.j5
      repeat' first
      | (with_reducible exact ih0 _ _ _ _ _ _)
      | (with_reducible exact ih1 _ _ _ _ _ _ _)
      | (with_reducible exact ih2 _ _ _ _ _ _ _)
      | (with_reducible exact ih3 _ _ _ _ _ _ _)
      | (with_reducible exact ih4 _ _ _ _ _ _ _ _)
      | (with_reducible exact ih5 _ _ _ _ _ _ _)
      | (with_reducible exact gambrelref10_Same.mono _ _ _)
      | (with_reducible exact gambrelref10_Split.mono _ _ _ _ _)
      | (with_reducible exact LeO.refl _)
      | (with_reducible exact LeO.none _)
      | (with_reducible refine LeO.ite ?_ ?_)
      | (with_reducible refine LeO.bind ?_ (fun _ => ?_))
      | exact ih0 _ _ _ _ _ _
      | exact ih1 _ _ _ _ _ _ _
      | exact ih2 _ _ _ _ _ _ _
      | exact ih3 _ _ _ _ _ _ _
      | exact ih4 _ _ _ _ _ _ _ _
      | exact ih5 _ _ _ _ _ _ _
      | exact gambrelref10_Same.mono _ _ _
      | exact gambrelref10_Split.mono _ _ _ _ _
      | exact LeO.none _
      | refine LeO.ite ?_ ?_
      | refine LeO.bind ?_ (fun _ => ?_)
    · intro y0 y1 y2 y3 y4 y5 y6
      unfold gambrelref10_Join.l1
      repeat' first
      | (with_reducible exact ih0 _ _ _ _ _ _)
      | (with_reducible exact ih1 _ _ _ _ _ _ _)
      | (with_reducible exact ih2 _ _ _ _ _ _ _)
      | (with_reducible exact ih3 _ _ _ _ _ _ _)
      | (with_reducible exact ih4 _ _ _ _ _ _ _ _)
      | (with_reducible exact ih5 _ _ _ _ _ _ _)
      | (with_reducible exact gambrelref10_Same.mono _ _ _)
      | (with_reducible exact gambrelref10_Split.mono _ _ _ _ _)
      | (with_reducible exact LeO.refl _)
      | (with_reducible exact LeO.none _)
      | (with_reducible refine LeO.ite ?_ ?_)
      | (with_reducible refine LeO.bind ?_ (fun _ => ?_))
      | exact ih0 _ _ _ _ _ _
      | exact ih1 _ _ _ _ _ _ _
      | exact ih2 _ _ _ _ _ _ _
      | exact ih3 _ _ _ _ _ _ _
      | exact ih4 _ _ _ _ _ _ _ _
      | exact ih5 _ _ _ _ _ _ _
      | exact gambrelref10_Same.mono _ _ _
      | exact gambrelref10_Split.mono _ _ _ _ _
      | exact LeO.none _
      | refine LeO.ite ?_ ?_
      | refine LeO.bind ?_ (fun _ => ?_)
theorem gambrelref10_Join.mono : ∀ a0 a1 a2 a3 a4 k, LeO (gambrelref10_Join.f k a0 a1 a2 a3 a4) (gambrelref10_Join.f (k + 1) a0 a1 a2 a3 a4) := by
  intro a0 a1 a2 a3 a4 k
  obtain ⟨ih0, ih1, ih2, ih3, ih4, ih5⟩ := gambrelref10_Join.mono_l k
  unfold gambrelref10_Join.f
  repeat' first
      | (with_reducible exact ih0 _ _ _ _ _ _)
      | (with_reducible exact ih1 _ _ _ _ _ _ _)
      | (with_reducible exact ih2 _ _ _ _ _ _ _)
      | (with_reducible exact ih3 _ _ _ _ _ _ _)
      | (with_reducible exact ih4 _ _ _ _ _ _ _ _)
      | (with_reducible exact ih5 _ _ _ _ _ _ _)
      | (with_reducible exact gambrelref10_Same.mono _ _ _)
      | (with_reducible exact gambrelref10_Split.mono _ _ _ _ _)
      | (with_reducible exact LeO.refl _)
      | (with_reducible exact LeO.none _)
      | (with_reducible refine LeO.ite ?_ ?_)
      | (with_reducible refine LeO.bind ?_ (fun _ => ?_))
      | exact ih0 _ _ _ _ _ _
      | exact ih1 _ _ _ _ _ _ _
      | exact ih2 _ _ _ _ _ _ _
      | exact ih3 _ _ _ _ _ _ _
      | exact ih4 _ _ _ _ _ _ _ _
      | exact ih5 _ _ _ _ _ _ _
      | exact gambrelref10_Same.mono _ _ _
      | exact gambrelref10_Split.mono _ _ _ _ _
      | exact LeO.none _
      | refine LeO.ite ?_ ?_
      | refine LeO.bind ?_ (fun _ => ?_)
def gambrelref10_Join.T7 : Bool × List (List Nat × List Nat) := (true, [([], []), ([], []), ([0, 1], [0, 1]), ([2], [2]), ([3], [3]), ([], []), ([5], [5]), ([6], [6]), ([7], [7]), ([4, 8], [4, 8])])
def gambrelref10_Join.B7 : List Nat := [0, 0, 3, 7, 15, 0, 32, 96, 224, 511]
theorem gambrelref10_Join.tab7 : rtab .any (opsOf Try.f17 7) = gambrelref10_Join.T7 := by kernel_rfl
theorem gambrelref10_Join.bits7 : waitsOk gambrelref10_Join.T7.2 gambrelref10_Join.B7 = true := by kernel_rfl
def gambrelref10_Join.T10 : Bool × List (List Nat × List Nat) := (true, [([], []), ([0], [0]), ([1], [1]), ([2], [2]), ([3], [3]), ([4], [4]), ([5], [5]), ([6, 5], [5, 6]), ([7, 5], [5, 7]), ([8, 5], [5, 8]), ([5], [5]), ([10, 5, 5], [5, 10]), ([11, 11, 5], [5, 11]), ([9, 12, 5], [5, 9, 12]), ([13, 5], [5, 13]), ([5, 14], [5, 14])])
def gambrelref10_Join.B10 : List Nat := [0, 1, 3, 7, 15, 31, 63, 127, 255, 511, 63, 1087, 3135, 8191, 16383, 32767]
theorem gambrelref10_Join.tab10 : rtab .any (opsOf Try.f17 10) = gambrelref10_Join.T10 := by kernel_rfl
theorem gambrelref10_Join.bits10 : waitsOk gambrelref10_Join.T10.2 gambrelref10_Join.B10 = true := by kernel_rfl
set_option maxHeartbeats 8000000 in
set_option maxRecDepth 100000 in
theorem gambrelref10_Join.calls (k : Nat) (a0_0 : Int) (a0_1 : Int) (a0_2 : Int) (A1 : Option Addr) (c1 : Nat) (l1 : List (List Int)) (a2 : Int) (r1 : List Int) (r2 : Int) (w : World) (hr1 : Kd.C (Kd.slice 5 (Kd.int .u8)) w A1 l1.length l1) (hc1 : l1.length ≤ c1) (h : gambrelref10_Join.f k a0_0 a0_1 a0_2 l1 a2 = some (r1, r2)) :
    Calls Try.prog 17 #[.agg #[.int .i64 a0_0, .int .i64 a0_1, .int .i64 a0_2], .slice A1 l1.length c1, .int .i64 a2] w fun e w' => ∃ v0_ : Value, e = .returned (.tuple #[v0_, .int .i64 r2]) ∧ Kd.R (Kd.int .u8) 5 w' w.heap.size (fun _ => True) v0_ r1 ∧ Below w.heap.size w w' := by
  have hu23 := Try.underlying23
  have HR1 := Aside0.mk hr1
  have HC1 := Aside0.mk hc1
  clear hr1 hc1
  have HB := Aside0.mk (Below.refl w.heap.size w)
  have H : ((gambrelref09_May.f a0_0 a0_1 a0_2).bind fun t194 => (if t194 = true then (gambrelref10_Join.j0 k l1 a2 ((l1.length : Int) != a0_1) a0_0 a0_1 a0_2) else (gambrelref10_Join.j0 k l1 a2 true a0_0 a0_1 a0_2))) = some (r1, r2) := h
  clear h
  have HC4 := Aside0.mk H
  clear H
  go_enter Try.func17, Try.ntmps17
  go_upto_region 1 with (first | ((with_reducible refine gate_dst (N := 3) rfl ?_); (try (refine gate_guard (by rfl) ?_; dsimp only)); refine box_event ?hg (N := 3) ?hd (cs := #[.int .i64 a0_0, .int .i64 a0_1, .int .i64 a0_2]) (t := 23) ?hr ?_; (case hd => rfl); (case hg => rfl); (case hr => first | (go_simp; done) | (go_simp; rfl)); intro gb193 hg w5 hbox hb; have n0_ := Aside0.mk (below_step (by repeat (first | (with_reducible first | exact HB.out | apply below_alloc | apply pw_below_drewN | apply below_drew1) | exact HB.out)) hb); have n1_ := Aside0.mk (hbox); have n2_ := Aside0.mk ((by rw [hg]; exact (below_size (by repeat (first | (with_reducible first | exact HB.out | apply below_alloc | apply pw_below_drewN | apply below_drew1) | exact HB.out))) : w.heap.size ≤ gb193)); have n3_ := Aside0.mk ((by rw [hg]; exact (below_size (by repeat (first | (with_reducible first | exact HB.out | apply below_alloc | apply pw_below_drewN | apply below_drew1) | exact HB.out))) : w.heap.size ≤ gb193)); clear HB; have HB := n0_; have BK193 := n1_; have GW193 := n2_; have GE193 := n3_; clear n0_ n1_ n2_ n3_; clear hb hbox hg))
  (try simp only [Act.put, List.setIfInBounds_toArray, List.set_cons_zero, List.set_cons_succ])
  go_cut [24] (fun v24 wc => ∃ (kq : Nat) (x24_3 : Bool), v24 = .bool x24_3 ∧ Aside0 (gambrelref10_Join.j0 kq l1 a2 x24_3 a0_0 a0_1 a0_2 = some (r1, r2)) ∧ Aside0 (kq ≤ k) ∧ Aside0 (wc.heap[gb193]? = some (.cells #[.int .i64 a0_0, .int .i64 a0_1, .int .i64 a0_2] 23 (0, 0))) ∧ Aside0 (Below w.heap.size w wc))
  case first =>
    have H := HC4.out
    clear HC4
    replace H := Option.bind_eq_some_iff.mp H
    obtain ⟨t194, A60, H⟩ := H
    replace H : (if t194 = true then (gambrelref10_Join.j0 k l1 a2 ((l1.length : Int) != a0_1) a0_0 a0_1 a0_2) else (gambrelref10_Join.j0 k l1 a2 true a0_0 a0_1 a0_2)) = some (r1, r2) := H
    have A6 := Aside0.mk A60
    clear A60
    by_cases c7 : t194 = true
    · subst c7
      have H1 : (gambrelref10_Join.j0 k l1 a2 ((l1.length : Int) != a0_1) a0_0 a0_1 a0_2) = some (r1, r2) := by rw [if_pos rfl] at H; exact H
      clear H
      have H := H1
      clear H1
      have H' := Aside0.mk H
      clear H
      have hcz8_0 : w5.cell? ⟨gb193, 0, none⟩ = some (.int .i64 a0_0) := (blk_cell BK193.out 0).trans rfl
      have hcz8_1 : w5.cell? ⟨gb193, 1, none⟩ = some (.int .i64 a0_1) := (blk_cell BK193.out 1).trans rfl
      have hcz8_2 : w5.cell? ⟨gb193, 2, none⟩ = some (.int .i64 a0_2) := (blk_cell BK193.out 2).trans rfl
      have hfz8_0 := blk_frozen BK193.out 0
      have hfz8_1 := blk_frozen BK193.out 1
      have hfz8_2 := blk_frozen BK193.out 2
      go_wp2_with (first | ((with_reducible refine gate_callee (f := 20) rfl ?_); refine goesL_ (some 16) rfl rfl Try.func20 (by kernel_rfl) rfl #[.agg #[.int .i64 a0_0, .int .i64 a0_1, .int .i64 a0_2]] rfl (by (try simp only [List.map_toArray, List.map_cons, List.map_nil]); first | done | rfl | (simp only [List.length_drop, List.length_take]; rfl)) ?_; (with_reducible refine (gambrelref09_May.calls a0_0 a0_1 a0_2 true _ A6.out).mono ?_); rintro e w9 ⟨rfl, hb⟩; refine ⟨_, rfl, ?_⟩; have n0_ := Aside0.mk (blk_below (g := gb193) (o := .cells #[.int .i64 a0_0, .int .i64 a0_1, .int .i64 a0_2] 23 (0, 0)) (by (with_reducible repeat (first | refine blk_drewN ?_ _ | refine blk_drew ?_ | refine blk_alloc ?_ _)); exact BK193.out) hb); have n1_ := Aside0.mk (below_step (by repeat (first | (with_reducible first | exact HB.out | apply below_alloc | apply pw_below_drewN | apply below_drew1 | refine below_set ?_ GE193.out) | exact HB.out)) hb); clear BK193; clear HB; have BK193 := n0_; have HB := n1_; clear n0_ n1_; (try clear hb); (try clear hb2); (try clear hk); (try clear hi); have hcz10_0 : w9.cell? ⟨gb193, 0, none⟩ = some (.int .i64 a0_0) := (blk_cell BK193.out 0).trans rfl; have hcz10_1 : w9.cell? ⟨gb193, 1, none⟩ = some (.int .i64 a0_1) := (blk_cell BK193.out 1).trans rfl; have hcz10_2 : w9.cell? ⟨gb193, 2, none⟩ = some (.int .i64 a0_2) := (blk_cell BK193.out 2).trans rfl; have hfz10_0 := blk_frozen BK193.out 0; have hfz10_1 := blk_frozen BK193.out 1; have hfz10_2 := blk_frozen BK193.out 2))
      go_meet
      case rel => exact ⟨_, (((l1.length : Int) != a0_1)), (by first | rfl | (simp; done) | (simp [*]; done) | (rw [Int.tmod_eq_emod_of_nonneg (Int.natCast_nonneg _)])), H', ⟨by first | omega | exact Nat.le_refl _⟩, ⟨by (with_reducible repeat (first | refine blk_drewN ?_ _ | refine blk_drew ?_ | refine blk_alloc ?_ _)); exact BK193.out⟩, ⟨by repeat (first | (with_reducible first | exact HB.out | apply below_alloc | apply pw_below_drewN | apply below_drew1 | refine below_set ?_ GE193.out) | exact HB.out)⟩⟩
    · replace c7 := Bool.eq_false_iff.mpr c7
      subst c7
      have H1 : (gambrelref10_Join.j0 k l1 a2 true a0_0 a0_1 a0_2) = some (r1, r2) := by rw [if_neg (show ¬ (false = true) by decide)] at H; exact H
      clear H
      have H := H1
      clear H1
      have H' := Aside0.mk H
      clear H
      have hcz11_0 : w5.cell? ⟨gb193, 0, none⟩ = some (.int .i64 a0_0) := (blk_cell BK193.out 0).trans rfl
      have hcz11_1 : w5.cell? ⟨gb193, 1, none⟩ = some (.int .i64 a0_1) := (blk_cell BK193.out 1).trans rfl
      have hcz11_2 : w5.cell? ⟨gb193, 2, none⟩ = some (.int .i64 a0_2) := (blk_cell BK193.out 2).trans rfl
      have hfz11_0 := blk_frozen BK193.out 0
      have hfz11_1 := blk_frozen BK193.out 1
      have hfz11_2 := blk_frozen BK193.out 2
      go_wp2_with (first | ((with_reducible refine gate_callee (f := 20) rfl ?_); refine goesL_ (some 16) rfl rfl Try.func20 (by kernel_rfl) rfl #[.agg #[.int .i64 a0_0, .int .i64 a0_1, .int .i64 a0_2]] rfl (by (try simp only [List.map_toArray, List.map_cons, List.map_nil]); first | done | rfl | (simp only [List.length_drop, List.length_take]; rfl)) ?_; (with_reducible refine (gambrelref09_May.calls a0_0 a0_1 a0_2 false _ A6.out).mono ?_); rintro e w12 ⟨rfl, hb⟩; refine ⟨_, rfl, ?_⟩; have n0_ := Aside0.mk (blk_below (g := gb193) (o := .cells #[.int .i64 a0_0, .int .i64 a0_1, .int .i64 a0_2] 23 (0, 0)) (by (with_reducible repeat (first | refine blk_drewN ?_ _ | refine blk_drew ?_ | refine blk_alloc ?_ _)); exact BK193.out) hb); have n1_ := Aside0.mk (below_step (by repeat (first | (with_reducible first | exact HB.out | apply below_alloc | apply pw_below_drewN | apply below_drew1 | refine below_set ?_ GE193.out) | exact HB.out)) hb); clear BK193; clear HB; have BK193 := n0_; have HB := n1_; clear n0_ n1_; (try clear hb); (try clear hb2); (try clear hk); (try clear hi)))
      go_meet
      case rel => exact ⟨_, (true), (by first | rfl | (simp; done) | (simp [*]; done) | (rw [Int.tmod_eq_emod_of_nonneg (Int.natCast_nonneg _)])), H', ⟨by first | omega | exact Nat.le_refl _⟩, ⟨by (with_reducible repeat (first | refine blk_drewN ?_ _ | refine blk_drew ?_ | refine blk_alloc ?_ _)); exact BK193.out⟩, ⟨by repeat (first | (with_reducible first | exact HB.out | apply below_alloc | apply pw_below_drewN | apply below_drew1 | refine below_set ?_ GE193.out) | exact HB.out)⟩⟩
  case rest =>
    clear HC4
    try clear c1
    try clear c2
    try clear p2
    try clear c7
    try clear hcz10_0
    try clear hcz10_1
    try clear hcz10_2
    try clear hcz11_0
    try clear hcz11_1
    try clear hcz11_2
    try clear hcz8_0
    try clear hcz8_1
    try clear hcz8_2
    try clear hfz10_0
    try clear hfz10_1
    try clear hfz10_2
    try clear hfz11_0
    try clear hfz11_1
    try clear hfz11_2
    try clear hfz8_0
    try clear hfz8_1
    try clear hfz8_2
    obtain ⟨kq, x24_3, rfl, HA, HJ3, BK193, HB⟩ := hcut
    cases kq with
    | zero => exact absurd HA.out (by simp [gambrelref10_Join.j0])
    | succ kj3 =>
      have H := HA.out
      clear HA
      simp only [gambrelref10_Join.j0] at H
      by_cases c13 : x24_3 = true
      · subst c13
        have H1 : (some (([] : List Int), 1)) = some (r1, r2) := by rw [if_pos rfl] at H; exact H
        clear H
        have H := H1
        clear H1
        simp only [Option.some.injEq, Prod.mk.injEq] at H
        obtain ⟨rfl, rfl⟩ := H
        go_wp2
        go_ret2
        exact ⟨_, by first | rfl | (simp [errW_none, errW_some] <;> rfl) | (simp [*, errW_none, errW_some] <;> rfl), by first | exact Kd.R_nil _ _ _ _ _ | exact Kd.N_nil _ _ _ _ _ | exact Kd.V_nil _ _ _ _ _ | exact Kd.Q_nil _ _ _ _ _ | exact Kd.S_nil _ _ _ _ _, by repeat (first | (with_reducible first | exact HB.out | apply below_alloc | apply pw_below_drewN | apply below_drew1 | refine below_set ?_ GE193.out) | exact HB.out)⟩
      · replace c13 := Bool.eq_false_iff.mpr c13
        subst c13
        have H1 : (gambrelref10_Join.l0 kj3 l1 a2 ([] : List Int) 0 a0_0 a0_1 a0_2) = some (r1, r2) := by rw [if_neg (show ¬ (false = true) by decide)] at H; exact H
        clear H
        have H := H1
        clear H1
        have H' := Aside0.mk H
        clear H
        go_wp2
        go_loopg [8, 9] kj3 (fun kq v8 v9 w' => ∃ (x8_2 : List Int) (x9_2 : Int), v9 = .int .i64 x9_2 ∧ Aside0 (gambrelref10_Join.l0 kq l1 a2 x8_2 x9_2 a0_0 a0_1 a0_2 = some (r1, r2)) ∧ Aside0 (kq ≤ kj3) ∧ Aside0 (Kd.R (Kd.int .u8) 5 w' w.heap.size (fun _ => True) v8 x8_2) ∧ Aside0 (w'.heap[gb193]? = some (.cells #[.int .i64 a0_0, .int .i64 a0_1, .int .i64 a0_2] 23 (0, 0))) ∧ Aside0 (Below w.heap.size w w'))
        case atStart => exact ⟨(([] : List Int)), (0), (by first | rfl | (simp; done) | (simp [*]; done) | (rw [Int.tmod_eq_emod_of_nonneg (Int.natCast_nonneg _)])), H', ⟨Nat.le_refl _⟩, ⟨by first | exact Kd.R_nil _ _ _ _ _ | exact Kd.N_nil _ _ _ _ _ | exact Kd.V_nil _ _ _ _ _ | exact Kd.Q_nil _ _ _ _ _ | exact Kd.S_nil _ _ _ _ _⟩, ⟨by (with_reducible repeat (first | refine blk_drewN ?_ _ | refine blk_drew ?_ | refine blk_alloc ?_ _)); exact BK193.out⟩, ⟨by repeat (first | (with_reducible first | exact HB.out | apply below_alloc | apply pw_below_drewN | apply below_drew1 | refine below_set ?_ GE193.out) | exact HB.out)⟩⟩
        case round =>
          clear H'
          try clear c1
          try clear c2
          try clear p2
          try clear c7
          try clear c13
          try clear hcz10_0
          try clear hcz10_1
          try clear hcz10_2
          try clear hcz11_0
          try clear hcz11_1
          try clear hcz11_2
          try clear hcz8_0
          try clear hcz8_1
          try clear hcz8_2
          try clear hfz10_0
          try clear hfz10_1
          try clear hfz10_2
          try clear hfz11_0
          try clear hfz11_1
          try clear hfz11_2
          try clear hfz8_0
          try clear hfz8_1
          try clear hfz8_2
          try clear p2
          obtain ⟨x8_2, x9_2, rfl, HA, HK2, HO_8, BK193, HB⟩ := hrel
          cases gk with
          | zero => exact absurd HA.out (by simp [gambrelref10_Join.l0])
          | succ k2 =>
            have H := HA.out
            clear HA
            simp only [gambrelref10_Join.l0] at H
            by_cases c14 : x9_2 < (l1.length : Int)
            · rw [if_pos c14] at H
              have c14b0 : decide (x9_2 < (l1.length : Int)) = true := decide_eq_true c14
              clear c14
              by_cases c15 : 0 ≤ x9_2
              · rw [if_pos c15] at H
                have c15b0 : decide (0 ≤ x9_2) = true := decide_eq_true c15
                clear c15
                by_cases c16 : 0 < (l1.length : Int)
                · rw [if_pos c16] at H
                  have c16b0 : decide (0 < (l1.length : Int)) = true := decide_eq_true c16
                  have c16b1 : decide (0 < l1.length) = true := decide_eq_true (by omega)
                  clear c16
                  by_cases c17 : ((rd_L6 l1 x9_2).length : Int) = ((rd_L6 l1 0).length : Int)
                  · rw [if_pos c17] at H
                    have c17b0 : (((rd_L6 l1 x9_2).length : Int) == ((rd_L6 l1 0).length : Int)) = true := beq_iff_eq.mpr c17
                    have c17b1 : (((rd_L6 l1 x9_2).length : Int) != ((rd_L6 l1 0).length : Int)) = false := bne_eq_false_iff_eq.mpr c17
                    have c17b2 : ((rd_L6 l1 x9_2).length == (rd_L6 l1 0).length) = true := by first | simpa using c17 | (simp at c17 ⊢; omega)
                    clear c17
                    by_cases c18 : x8_2.length + (rd_L6 l1 x9_2).length < 140737488355328
                    · rw [if_pos c18] at H
                      have LMc18 := Aside0.mk c18
                      clear c18
                      obtain ⟨y198, hy198⟩ : ∃ y_ : List Int, y_ = (x8_2 ++ (rd_L6 l1 x9_2)) := ⟨_, rfl⟩
                      replace H : (gambrelref10_Join.l0 k2 l1 a2 y198 (wrap64 (x9_2 + 1)) a0_0 a0_1 a0_2) = some (r1, r2) := by first | (rw [hy198]; with_reducible exact H) | (have H2_ := (Option.bind_some _ _).symm.trans H; rw [hy198]; with_reducible exact H2_) | (have H2_ := (Option.bind_some _ _).symm.trans H; with_reducible exact H2_) | with_reducible exact H | (rw [hy198]; exact H) | exact H
                      have Ny198 := Aside0.mk hy198
                      clear hy198
                      have H' := Aside0.mk H
                      clear H
                      try go_wp2
                      have n0_ := Aside0.mk (Kd.R_drew HO_8.out)
                      have n1_ := Aside0.mk (blk_drew BK193.out)
                      have n2_ := Aside0.mk (below_drew1 HB.out)
                      clear HO_8
                      clear BK193
                      clear HB
                      have HO_8 := n0_
                      have BK193 := n1_
                      have HB := n2_
                      clear n0_ n1_ n2_
                      have p195 : 0 ≤ (x9_2 : Int) := of_decide_eq_true (by first | (with_reducible assumption) | assumption)
                      have q195 : x9_2 < (l1.length : Int) := of_decide_eq_true (by first | (with_reducible assumption) | assumption)
                      obtain ⟨ad195, A195_0, c195_0, e195, hx195_0, hl195_0, hi195_0⟩ := at_L6 HR1.out x9_2 p195 q195
                      have hw195_0 := hx195_0
                      cases e195
                      replace hx195_0 := (HB.out.cell (World.block_lt_of_cell? w _ hx195_0)).trans hx195_0
                      have HR195_0 := Aside0.mk hi195_0
                      have HC195_0 := Aside0.mk hl195_0
                      clear hi195_0 hl195_0
                      replace p195 := eq_true p195
                      replace q195 := eq_true q195
                      have p196 : 0 ≤ (0 : Int) := (by omega)
                      have q196 : 0 < (l1.length : Int) := of_decide_eq_true (by first | (with_reducible assumption) | assumption)
                      obtain ⟨ad196, A196_0, c196_0, e196, hx196_0, hl196_0, hi196_0⟩ := at_L6 HR1.out 0 p196 q196
                      have hw196_0 := hx196_0
                      (try rw [show ((0 : Int)).toNat = 0 from rfl] at hw196_0)
                      (try rw [show 0 * 1 = 0 from rfl] at hw196_0)
                      (try rw [Addr.add_zero'] at hw196_0)
                      obtain rfl : ad195 = ad196 := (by injection e196)
                      have qi196 : (0 < l1.length) = True := eq_true (by omega)
                      (try rw [show ((0 : Int)).toNat = 0 from rfl] at hx196_0)
                      (try rw [Addr.add_zero'] at hx196_0)
                      replace hx196_0 := (HB.out.cell (World.block_lt_of_cell? w _ hx196_0)).trans hx196_0
                      have HR196_0 := Aside0.mk hi196_0
                      have HC196_0 := Aside0.mk hl196_0
                      clear hi196_0 hl196_0
                      replace p196 := eq_true p196
                      replace q196 := eq_true q196
                      refine start_ (n := 10) (S := fun w' => w'.cell? (ad195.add (x9_2).toNat) = some (.slice A195_0 (rd_L6 l1 x9_2).length c195_0) ∧ w'.cell? ad195 = some (.slice A196_0 (rd_L6 l1 0).length c196_0)) (ds := []) #[false, false, false, false, false, false, false, false, false, false] (by kernel_rfl) rfl rfl ⟨((HB.out.cell (World.block_lt_of_cell? w _ hw195_0)).trans hw195_0), ((HB.out.cell (World.block_lt_of_cell? w _ hw196_0)).trans hw196_0)⟩ (fun hHeld => ?_); refine with_tabW gambrelref10_Join.tab7 gambrelref10_Join.bits7 (fun HT_ HW_ => ?_)
                      generalize wr.drew = w19 at HO_8 BK193 HB HR195_0 HR196_0 hx195_0 hx196_0 hHeld ⊢
                      refine pure_ (i := 0) (N := some 31) (v := ?_) (a' := ?_) #[true, false, false, false, false, false, false, false, false, false] rfl rfl (any_of HT_.out (by kernel_rfl)) (fun _ _ _ h => h) (Or.inl ⟨by rfl, ?_⟩) ?_ ?_
                      rotate_left
                      · intro w'
                        go_simp
                        with_reducible rfl
                      rotate_left
                      · simp only [Act.put, List.setIfInBounds_toArray, List.set_cons_zero, List.set_cons_succ, i64_w, i32_w]
                        rfl
                      refine pure_ (i := 1) (N := some 32) (v := ?_) (a' := ?_) #[true, true, false, false, false, false, false, false, false, false] rfl rfl (any_of HT_.out (by kernel_rfl)) (fun _ _ _ h => h) (Or.inl ⟨by rfl, ?_⟩) ?_ ?_
                      rotate_left
                      · intro w'
                        go_simp
                        with_reducible rfl
                      rotate_left
                      · simp only [Act.put, List.setIfInBounds_toArray, List.set_cons_zero, List.set_cons_succ, i64_w, i32_w]
                        rfl
                      refine pure_ (i := 2) (N := some 33) (v := ?_) (a' := ?_) #[true, true, true, false, false, false, false, false, false, false] rfl rfl (any_of HT_.out (by kernel_rfl)) (fun _ _ _ h => h) (Or.inl ⟨by rfl, ?_⟩) ?_ ?_
                      rotate_left
                      · intro w'
                        go_simp
                        with_reducible rfl
                      rotate_left
                      · simp only [Act.put, List.setIfInBounds_toArray, List.set_cons_zero, List.set_cons_succ, i64_w, i32_w]
                        rfl
                      refine pure_ (i := 5) (N := some 36) (v := ?_) (a' := ?_) #[true, true, true, false, false, true, false, false, false, false] rfl rfl (any_of HT_.out (by kernel_rfl)) (fun _ _ _ h => h) (Or.inl ⟨by rfl, ?_⟩) ?_ ?_
                      rotate_left
                      · intro w'
                        go_simp
                        with_reducible rfl
                      rotate_left
                      · simp only [Act.put, List.setIfInBounds_toArray, List.set_cons_zero, List.set_cons_succ, i64_w, i32_w]
                        rfl
                      refine pure_ (i := 6) (N := some 37) (v := ?_) (a' := ?_) #[true, true, true, false, false, true, true, false, false, false] rfl rfl (any_of HT_.out (by kernel_rfl)) (fun _ _ _ h => h) (Or.inl ⟨by rfl, ?_⟩) ?_ ?_
                      rotate_left
                      · intro w'
                        go_simp
                        with_reducible rfl
                      rotate_left
                      · simp only [Act.put, List.setIfInBounds_toArray, List.set_cons_zero, List.set_cons_succ, i64_w, i32_w]
                        rfl
                      refine take_ (i := 3) (N := some 34) (v := ?_) (a' := ?_) #[true, true, true, true, false, true, true, false, false, false] rfl rfl (take_ofW HT_.out HW_.out (by kernel_rfl)) (fun _ _ _ h => h) (Or.inl ⟨by rfl, ?_⟩) hHeld ?_ ?_
                      rotate_left
                      · rintro w' ⟨s0, s1⟩
                        go_simp
                        with_reducible rfl
                      rotate_left
                      · simp only [Act.put, List.setIfInBounds_toArray, List.set_cons_zero, List.set_cons_succ, i64_w, i32_w]
                        rfl
                      refine pure_ (i := 4) (N := some 35) (v := ?_) (a' := ?_) #[true, true, true, true, true, true, true, false, false, false] rfl rfl (any_of HT_.out (by kernel_rfl)) (fun _ _ _ h => h) (Or.inl ⟨by rfl, ?_⟩) ?_ ?_
                      rotate_left
                      · intro w'
                        go_simp
                        with_reducible rfl
                      rotate_left
                      · simp only [Act.put, List.setIfInBounds_toArray, List.set_cons_zero, List.set_cons_succ, i64_w, i32_w]
                        rfl
                      refine take_ (i := 7) (N := some 38) (v := ?_) (a' := ?_) #[true, true, true, true, true, true, true, true, false, false] rfl rfl (take_ofW HT_.out HW_.out (by kernel_rfl)) (fun _ _ _ h => h) (Or.inl ⟨by rfl, ?_⟩) hHeld ?_ ?_
                      rotate_left
                      · rintro w' ⟨s0, s1⟩
                        go_simp
                        with_reducible rfl
                      rotate_left
                      · simp only [Act.put, List.setIfInBounds_toArray, List.set_cons_zero, List.set_cons_succ, i64_w, i32_w]
                        rfl
                      refine pure_ (i := 8) (N := some 39) (v := ?_) (a' := ?_) #[true, true, true, true, true, true, true, true, true, false] rfl rfl (any_of HT_.out (by kernel_rfl)) (fun _ _ _ h => h) (Or.inl ⟨by rfl, ?_⟩) ?_ ?_
                      rotate_left
                      · intro w'
                        go_simp
                        with_reducible rfl
                      rotate_left
                      · simp only [Act.put, List.setIfInBounds_toArray, List.set_cons_zero, List.set_cons_succ, i64_w, i32_w]
                        rfl
                      refine pure_ (i := 9) (N := some 40) (v := ?_) (a' := ?_) #[true, true, true, true, true, true, true, true, true, true] rfl rfl (any_of HT_.out (by kernel_rfl)) (fun _ _ _ h => h) (Or.inl ⟨by rfl, ?_⟩) ?_ ?_
                      rotate_left
                      · intro w'
                        go_simp
                        with_reducible rfl
                      rotate_left
                      · simp only [Act.put, List.setIfInBounds_toArray, List.set_cons_zero, List.set_cons_succ, i64_w, i32_w]
                        rfl
                      refine done_ (done_of HT_.out (by kernel_rfl)) ?_
                      have p197 : 0 ≤ (x9_2 : Int) := of_decide_eq_true (by first | (with_reducible assumption) | assumption)
                      have q197 : x9_2 < (l1.length : Int) := of_decide_eq_true (by first | (with_reducible assumption) | assumption)
                      obtain ⟨ad197, A197_0, c197_0, e197, hx197_0, hl197_0, hi197_0⟩ := at_L6 HR1.out x9_2 p197 q197
                      obtain rfl : ad195 = ad197 := (by injection e197)
                      replace hx197_0 := (HB.out.cell (World.block_lt_of_cell? w _ hx197_0)).trans hx197_0
                      have HR197_0 := Aside0.mk hi197_0
                      have HC197_0 := Aside0.mk hl197_0
                      clear hi197_0 hl197_0
                      replace p197 := eq_true p197
                      replace q197 := eq_true q197
                      have ea_ := Option.some.inj (hx195_0.symm.trans hx197_0)
                      injection ea_ with ea_ en_ ec_
                      subst ea_
                      subst ec_
                      clear en_
                      try go_wp2_with (first | ((with_reducible refine gate_builtin (b := .append) (xs := #[.tmp 41, .tmp 45]) rfl ?_); (try (refine gate_guard (by rfl) ?_; dsimp only)); at_builtin; refine Kd.R_append_rows (Kd.int .u8) (w0 := w) w.heap.size rfl (.tmp 41) (.tmp 45) 24 5 (.int .u8 0) 1 rfl Try.underlying24 info5 rfl (by decide) (by omega) u8 x8_2 (rd_L6 l1 x9_2) _ _ _ (fun _ => True) (fun _ => False) rfl rfl ?aO ?aR (fun _ _ h => h) (fun _ h => h.elim) ?aF ?aB ?aS ?aL ?_; (case aR => repeat (first | exact (Kd.C_below HR197_0.out HB.out) | (with_reducible refine Kd.C_alloc ?_ _) | (with_reducible refine Kd.C_drewN ?_ _) | (with_reducible refine Kd.C_drew ?_))); (case aB => exact (by repeat (first | (with_reducible first | exact HB.out | apply below_alloc | apply pw_below_drewN | apply below_drew1 | refine below_set ?_ GE193.out) | exact HB.out))); (case aF => exact (fun _ _ => trivial)); (case aO => exact (by (with_reducible repeat (first | apply Kd.R_alloc | apply Kd.R_drewN | apply Kd.R_drew)); exact HO_8.out)); (case aS => exact (below_size (by repeat (first | (with_reducible first | exact HB.out | apply below_alloc | apply pw_below_drewN | apply below_drew1 | refine below_set ?_ GE193.out) | exact HB.out)))); (case aL => have := LMc18.out; omega); intro v199 w20 ho hb hg hat; rw [← Ny198.out] at ho; have n0_ := Aside0.mk (blk_grown (g := gb193) (o := .cells #[.int .i64 a0_0, .int .i64 a0_1, .int .i64 a0_2] 23 (0, 0)) (by (with_reducible repeat (first | refine blk_drewN ?_ _ | refine blk_drew ?_ | refine blk_alloc ?_ _)); exact BK193.out) hg (Kd.R_ne HO_8.out BK193.out (by decide))); have n1_ := Aside0.mk (hb); have n2_ := Aside0.mk (ho); clear BK193; clear HB; clear HO_8; have BK193 := n0_; have HB := n1_; have HO200 := n2_; clear n0_ n1_ n2_; clear ho hb hg hat))
                      go_roundg k2
                      case measure => have := HJ3.out; have := HK2.out; omega
                      case rel => exact ⟨(y198), (wrap64 (x9_2 + 1)), (by first | rfl | (simp; done) | (simp [*]; done) | (rw [Int.tmod_eq_emod_of_nonneg (Int.natCast_nonneg _)])), H', ⟨by have := HJ3.out; have := HK2.out; omega⟩, ⟨by (with_reducible repeat (first | apply Kd.R_alloc | apply Kd.R_drewN | apply Kd.R_drew)); exact HO200.out⟩, ⟨by (with_reducible repeat (first | refine blk_drewN ?_ _ | refine blk_drew ?_ | refine blk_alloc ?_ _)); exact BK193.out⟩, ⟨by repeat (first | (with_reducible first | exact HB.out | apply below_alloc | apply pw_below_drewN | apply below_drew1 | refine below_set ?_ GE193.out) | exact HB.out)⟩⟩
                    · rw [if_neg c18] at H
                      exact absurd H (by simp)
                  · rw [if_neg c17] at H
                    have c17b0 : (((rd_L6 l1 x9_2).length : Int) == ((rd_L6 l1 0).length : Int)) = false := beq_eq_false_iff_ne.mpr c17
                    have c17b1 : (((rd_L6 l1 x9_2).length : Int) != ((rd_L6 l1 0).length : Int)) = true := bne_iff_ne.mpr c17
                    have c17b2 : ((rd_L6 l1 x9_2).length == (rd_L6 l1 0).length) = false := by first | simpa using c17 | (simp at c17 ⊢; omega)
                    simp only [Option.some.injEq, Prod.mk.injEq] at H
                    obtain ⟨rfl, rfl⟩ := H
                    try go_wp2
                    have n0_ := Aside0.mk (Kd.R_drew HO_8.out)
                    have n1_ := Aside0.mk (blk_drew BK193.out)
                    have n2_ := Aside0.mk (below_drew1 HB.out)
                    clear HO_8
                    clear BK193
                    clear HB
                    have HO_8 := n0_
                    have BK193 := n1_
                    have HB := n2_
                    clear n0_ n1_ n2_
                    have p195 : 0 ≤ (x9_2 : Int) := of_decide_eq_true (by first | (with_reducible assumption) | assumption)
                    have q195 : x9_2 < (l1.length : Int) := of_decide_eq_true (by first | (with_reducible assumption) | assumption)
                    obtain ⟨ad195, A195_0, c195_0, e195, hx195_0, hl195_0, hi195_0⟩ := at_L6 HR1.out x9_2 p195 q195
                    have hw195_0 := hx195_0
                    cases e195
                    replace hx195_0 := (HB.out.cell (World.block_lt_of_cell? w _ hx195_0)).trans hx195_0
                    have HR195_0 := Aside0.mk hi195_0
                    have HC195_0 := Aside0.mk hl195_0
                    clear hi195_0 hl195_0
                    replace p195 := eq_true p195
                    replace q195 := eq_true q195
                    have p196 : 0 ≤ (0 : Int) := (by omega)
                    have q196 : 0 < (l1.length : Int) := of_decide_eq_true (by first | (with_reducible assumption) | assumption)
                    obtain ⟨ad196, A196_0, c196_0, e196, hx196_0, hl196_0, hi196_0⟩ := at_L6 HR1.out 0 p196 q196
                    have hw196_0 := hx196_0
                    (try rw [show ((0 : Int)).toNat = 0 from rfl] at hw196_0)
                    (try rw [show 0 * 1 = 0 from rfl] at hw196_0)
                    (try rw [Addr.add_zero'] at hw196_0)
                    obtain rfl : ad195 = ad196 := (by injection e196)
                    have qi196 : (0 < l1.length) = True := eq_true (by omega)
                    (try rw [show ((0 : Int)).toNat = 0 from rfl] at hx196_0)
                    (try rw [Addr.add_zero'] at hx196_0)
                    replace hx196_0 := (HB.out.cell (World.block_lt_of_cell? w _ hx196_0)).trans hx196_0
                    have HR196_0 := Aside0.mk hi196_0
                    have HC196_0 := Aside0.mk hl196_0
                    clear hi196_0 hl196_0
                    replace p196 := eq_true p196
                    replace q196 := eq_true q196
                    refine start_ (n := 10) (S := fun w' => w'.cell? (ad195.add (x9_2).toNat) = some (.slice A195_0 (rd_L6 l1 x9_2).length c195_0) ∧ w'.cell? ad195 = some (.slice A196_0 (rd_L6 l1 0).length c196_0)) (ds := []) #[false, false, false, false, false, false, false, false, false, false] (by kernel_rfl) rfl rfl ⟨((HB.out.cell (World.block_lt_of_cell? w _ hw195_0)).trans hw195_0), ((HB.out.cell (World.block_lt_of_cell? w _ hw196_0)).trans hw196_0)⟩ (fun hHeld => ?_); refine with_tabW gambrelref10_Join.tab7 gambrelref10_Join.bits7 (fun HT_ HW_ => ?_)
                    generalize wr.drew = w21 at HO_8 BK193 HB HR195_0 HR196_0 hx195_0 hx196_0 hHeld ⊢
                    refine pure_ (i := 0) (N := some 31) (v := ?_) (a' := ?_) #[true, false, false, false, false, false, false, false, false, false] rfl rfl (any_of HT_.out (by kernel_rfl)) (fun _ _ _ h => h) (Or.inl ⟨by rfl, ?_⟩) ?_ ?_
                    rotate_left
                    · intro w'
                      go_simp
                      with_reducible rfl
                    rotate_left
                    · simp only [Act.put, List.setIfInBounds_toArray, List.set_cons_zero, List.set_cons_succ, i64_w, i32_w]
                      rfl
                    refine pure_ (i := 1) (N := some 32) (v := ?_) (a' := ?_) #[true, true, false, false, false, false, false, false, false, false] rfl rfl (any_of HT_.out (by kernel_rfl)) (fun _ _ _ h => h) (Or.inl ⟨by rfl, ?_⟩) ?_ ?_
                    rotate_left
                    · intro w'
                      go_simp
                      with_reducible rfl
                    rotate_left
                    · simp only [Act.put, List.setIfInBounds_toArray, List.set_cons_zero, List.set_cons_succ, i64_w, i32_w]
                      rfl
                    refine pure_ (i := 2) (N := some 33) (v := ?_) (a' := ?_) #[true, true, true, false, false, false, false, false, false, false] rfl rfl (any_of HT_.out (by kernel_rfl)) (fun _ _ _ h => h) (Or.inl ⟨by rfl, ?_⟩) ?_ ?_
                    rotate_left
                    · intro w'
                      go_simp
                      with_reducible rfl
                    rotate_left
                    · simp only [Act.put, List.setIfInBounds_toArray, List.set_cons_zero, List.set_cons_succ, i64_w, i32_w]
                      rfl
                    refine pure_ (i := 5) (N := some 36) (v := ?_) (a' := ?_) #[true, true, true, false, false, true, false, false, false, false] rfl rfl (any_of HT_.out (by kernel_rfl)) (fun _ _ _ h => h) (Or.inl ⟨by rfl, ?_⟩) ?_ ?_
                    rotate_left
                    · intro w'
                      go_simp
                      with_reducible rfl
                    rotate_left
                    · simp only [Act.put, List.setIfInBounds_toArray, List.set_cons_zero, List.set_cons_succ, i64_w, i32_w]
                      rfl
                    refine pure_ (i := 6) (N := some 37) (v := ?_) (a' := ?_) #[true, true, true, false, false, true, true, false, false, false] rfl rfl (any_of HT_.out (by kernel_rfl)) (fun _ _ _ h => h) (Or.inl ⟨by rfl, ?_⟩) ?_ ?_
                    rotate_left
                    · intro w'
                      go_simp
                      with_reducible rfl
                    rotate_left
                    · simp only [Act.put, List.setIfInBounds_toArray, List.set_cons_zero, List.set_cons_succ, i64_w, i32_w]
                      rfl
                    refine take_ (i := 3) (N := some 34) (v := ?_) (a' := ?_) #[true, true, true, true, false, true, true, false, false, false] rfl rfl (take_ofW HT_.out HW_.out (by kernel_rfl)) (fun _ _ _ h => h) (Or.inl ⟨by rfl, ?_⟩) hHeld ?_ ?_
                    rotate_left
                    · rintro w' ⟨s0, s1⟩
                      go_simp
                      with_reducible rfl
                    rotate_left
                    · simp only [Act.put, List.setIfInBounds_toArray, List.set_cons_zero, List.set_cons_succ, i64_w, i32_w]
                      rfl
                    refine pure_ (i := 4) (N := some 35) (v := ?_) (a' := ?_) #[true, true, true, true, true, true, true, false, false, false] rfl rfl (any_of HT_.out (by kernel_rfl)) (fun _ _ _ h => h) (Or.inl ⟨by rfl, ?_⟩) ?_ ?_
                    rotate_left
                    · intro w'
                      go_simp
                      with_reducible rfl
                    rotate_left
                    · simp only [Act.put, List.setIfInBounds_toArray, List.set_cons_zero, List.set_cons_succ, i64_w, i32_w]
                      rfl
                    refine take_ (i := 7) (N := some 38) (v := ?_) (a' := ?_) #[true, true, true, true, true, true, true, true, false, false] rfl rfl (take_ofW HT_.out HW_.out (by kernel_rfl)) (fun _ _ _ h => h) (Or.inl ⟨by rfl, ?_⟩) hHeld ?_ ?_
                    rotate_left
                    · rintro w' ⟨s0, s1⟩
                      go_simp
                      with_reducible rfl
                    rotate_left
                    · simp only [Act.put, List.setIfInBounds_toArray, List.set_cons_zero, List.set_cons_succ, i64_w, i32_w]
                      rfl
                    refine pure_ (i := 8) (N := some 39) (v := ?_) (a' := ?_) #[true, true, true, true, true, true, true, true, true, false] rfl rfl (any_of HT_.out (by kernel_rfl)) (fun _ _ _ h => h) (Or.inl ⟨by rfl, ?_⟩) ?_ ?_
                    rotate_left
                    · intro w'
                      go_simp
                      with_reducible rfl
                    rotate_left
                    · simp only [Act.put, List.setIfInBounds_toArray, List.set_cons_zero, List.set_cons_succ, i64_w, i32_w]
                      rfl
                    refine pure_ (i := 9) (N := some 40) (v := ?_) (a' := ?_) #[true, true, true, true, true, true, true, true, true, true] rfl rfl (any_of HT_.out (by kernel_rfl)) (fun _ _ _ h => h) (Or.inl ⟨by rfl, ?_⟩) ?_ ?_
                    rotate_left
                    · intro w'
                      go_simp
                      with_reducible rfl
                    rotate_left
                    · simp only [Act.put, List.setIfInBounds_toArray, List.set_cons_zero, List.set_cons_succ, i64_w, i32_w]
                      rfl
                    refine done_ (done_of HT_.out (by kernel_rfl)) ?_
                    try go_wp2
                    go_ret2
                    exact ⟨_, by first | rfl | (simp [errW_none, errW_some] <;> rfl) | (simp [*, errW_none, errW_some] <;> rfl), by first | exact Kd.R_nil _ _ _ _ _ | exact Kd.N_nil _ _ _ _ _ | exact Kd.V_nil _ _ _ _ _ | exact Kd.Q_nil _ _ _ _ _ | exact Kd.S_nil _ _ _ _ _, by repeat (first | (with_reducible first | exact HB.out | apply below_alloc | apply pw_below_drewN | apply below_drew1 | refine below_set ?_ GE193.out) | exact HB.out)⟩
                · rw [if_neg c16] at H
                  exact absurd H (by simp)
              · rw [if_neg c15] at H
                exact absurd H (by simp)
            · rw [if_neg c14] at H
              have c14b0 : decide (x9_2 < (l1.length : Int)) = false := decide_eq_false c14
              clear c14
              have HC22 := Aside0.mk H
              clear H
              go_upto_region 10 with (fail)
              go_cut [62] (fun v62 wc => ∃ (kq : Nat) (x62_21 : Bool), v62 = .bool x62_21 ∧ Aside0 (gambrelref10_Join.j2 kq l1 a2 x8_2 x62_21 a0_0 a0_1 a0_2 = some (r1, r2)) ∧ Aside0 (kq ≤ k2) ∧ Aside0 (Kd.R (Kd.int .u8) 5 wc w.heap.size (fun _ => True) u8 x8_2) ∧ Aside0 (wc.heap[gb193]? = some (.cells #[.int .i64 a0_0, .int .i64 a0_1, .int .i64 a0_2] 23 (0, 0))) ∧ Aside0 (Below w.heap.size w wc))
              case first =>
                have H := HC22.out
                clear HC22
                by_cases c23 : 0 < (l1.length : Int)
                · rw [if_pos c23] at H
                  have c23b0 : decide (0 < (l1.length : Int)) = true := decide_eq_true c23
                  have c23b1 : decide (0 < l1.length) = true := decide_eq_true (by omega)
                  clear c23
                  (first | rw [c23b0] | (simp only [i64_w, i32_w]; rw [c23b0]) | skip)
                  by_cases c24 : ((rd_L6 l1 0).length : Int) = 0
                  · rw [if_pos c24] at H
                    have c24b0 : (((rd_L6 l1 0).length : Int) == 0) = true := beq_iff_eq.mpr c24
                    have c24b1 : (((rd_L6 l1 0).length : Int) != 0) = false := bne_eq_false_iff_eq.mpr c24
                    clear c24
                    have H' := Aside0.mk H
                    clear H
                    try go_wp2
                    have n0_ := Aside0.mk (Kd.R_drew HO_8.out)
                    have n1_ := Aside0.mk (blk_drew BK193.out)
                    have n2_ := Aside0.mk (below_drew1 HB.out)
                    clear HO_8
                    clear BK193
                    clear HB
                    have HO_8 := n0_
                    have BK193 := n1_
                    have HB := n2_
                    clear n0_ n1_ n2_
                    have p201 : 0 ≤ (0 : Int) := (by omega)
                    have q201 : 0 < (l1.length : Int) := of_decide_eq_true (by first | (with_reducible assumption) | assumption)
                    obtain ⟨ad201, A201_0, c201_0, e201, hx201_0, hl201_0, hi201_0⟩ := at_L6 HR1.out 0 p201 q201
                    have hw201_0 := hx201_0
                    (try rw [show ((0 : Int)).toNat = 0 from rfl] at hw201_0)
                    (try rw [show 0 * 1 = 0 from rfl] at hw201_0)
                    (try rw [Addr.add_zero'] at hw201_0)
                    cases e201
                    have qi201 : (0 < l1.length) = True := eq_true (by omega)
                    (try rw [show ((0 : Int)).toNat = 0 from rfl] at hx201_0)
                    (try rw [Addr.add_zero'] at hx201_0)
                    replace hx201_0 := (HB.out.cell (World.block_lt_of_cell? w _ hx201_0)).trans hx201_0
                    have HR201_0 := Aside0.mk hi201_0
                    have HC201_0 := Aside0.mk hl201_0
                    clear hi201_0 hl201_0
                    replace p201 := eq_true p201
                    replace q201 := eq_true q201
                    refine start_ (n := 16) (S := fun w' => w'.cell? ad201 = some (.slice A201_0 (rd_L6 l1 0).length c201_0)) (ds := []) #[false, false, false, false, false, false, false, false, false, false, false, false, false, false, false, false] (by kernel_rfl) rfl rfl (((HB.out.cell (World.block_lt_of_cell? w _ hw201_0)).trans hw201_0)) (fun hHeld => ?_); refine with_tabW gambrelref10_Join.tab10 gambrelref10_Join.bits10 (fun HT_ HW_ => ?_)
                    generalize wr.drew = w25 at HO_8 BK193 HB HR201_0 hx201_0 hHeld ⊢
                    refine pure_ (i := 0) (N := some 47) (v := ?_) (a' := ?_) #[true, false, false, false, false, false, false, false, false, false, false, false, false, false, false, false] rfl rfl (any_of HT_.out (by kernel_rfl)) (fun _ _ _ h => h) (Or.inl ⟨by rfl, ?_⟩) ?_ ?_
                    rotate_left
                    · intro w'
                      go_simp
                      with_reducible rfl
                    rotate_left
                    · simp only [Act.put, List.setIfInBounds_toArray, List.set_cons_zero, List.set_cons_succ, i64_w, i32_w]
                      rfl
                    refine pure_ (i := 1) (N := some 48) (v := ?_) (a' := ?_) #[true, true, false, false, false, false, false, false, false, false, false, false, false, false, false, false] rfl rfl (any_of HT_.out (by kernel_rfl)) (fun _ _ _ h => h) (Or.inl ⟨by rfl, ?_⟩) ?_ ?_
                    rotate_left
                    · intro w'
                      go_simp
                      with_reducible rfl
                    rotate_left
                    · simp only [Act.put, List.setIfInBounds_toArray, List.set_cons_zero, List.set_cons_succ, i64_w, i32_w]
                      rfl
                    refine take_ (i := 2) (N := some 49) (v := ?_) (a' := ?_) #[true, true, true, false, false, false, false, false, false, false, false, false, false, false, false, false] rfl rfl (take_ofW HT_.out HW_.out (by kernel_rfl)) (fun _ _ _ h => h) (Or.inl ⟨by rfl, ?_⟩) hHeld ?_ ?_
                    rotate_left
                    · intro w' s0
                      go_simp
                      with_reducible rfl
                    rotate_left
                    · simp only [Act.put, List.setIfInBounds_toArray, List.set_cons_zero, List.set_cons_succ, i64_w, i32_w]
                      rfl
                    refine pure_ (i := 3) (N := some 50) (v := ?_) (a' := ?_) #[true, true, true, true, false, false, false, false, false, false, false, false, false, false, false, false] rfl rfl (any_of HT_.out (by kernel_rfl)) (fun _ _ _ h => h) (Or.inl ⟨by rfl, ?_⟩) ?_ ?_
                    rotate_left
                    · intro w'
                      go_simp
                      with_reducible rfl
                    rotate_left
                    · simp only [Act.put, List.setIfInBounds_toArray, List.set_cons_zero, List.set_cons_succ, i64_w, i32_w]
                      rfl
                    refine pure_ (i := 4) (N := some 51) (v := ?_) (a' := ?_) #[true, true, true, true, true, false, false, false, false, false, false, false, false, false, false, false] rfl rfl (any_of HT_.out (by kernel_rfl)) (fun _ _ _ h => h) (Or.inl ⟨by rfl, ?_⟩) ?_ ?_
                    rotate_left
                    · intro w'
                      go_simp
                      with_reducible rfl
                    rotate_left
                    · simp only [Act.put, List.setIfInBounds_toArray, List.set_cons_zero, List.set_cons_succ, i64_w, i32_w]
                      rfl
                    refine pure_ (i := 5) (N := some 52) (v := ?_) (a' := ?_) #[true, true, true, true, true, true, false, false, false, false, false, false, false, false, false, false] rfl rfl (any_of HT_.out (by kernel_rfl)) (fun _ _ _ h => h) (Or.inl ⟨by rfl, ?_⟩) ?_ ?_
                    rotate_left
                    · intro w'
                      go_simp
                      with_reducible rfl
                    rotate_left
                    · simp only [Act.put, List.setIfInBounds_toArray, List.set_cons_zero, List.set_cons_succ, i64_w, i32_w]
                      rfl
                    refine pure_ (i := 6) (N := some 53) (v := undef) (a' := ?_) #[true, true, true, true, true, true, true, false, false, false, false, false, false, false, false, false] rfl rfl (any_of HT_.out (by kernel_rfl)) (fun _ _ _ h => h) (Or.inr ⟨by rfl, rfl⟩) ?_ ?_
                    rotate_left
                    · simp only [Act.put, List.setIfInBounds_toArray, List.set_cons_zero, List.set_cons_succ, i64_w, i32_w]
                      rfl
                    refine pure_ (i := 7) (N := some 54) (v := undef) (a' := ?_) #[true, true, true, true, true, true, true, true, false, false, false, false, false, false, false, false] rfl rfl (any_of HT_.out (by kernel_rfl)) (fun _ _ _ h => h) (Or.inr ⟨by rfl, rfl⟩) ?_ ?_
                    rotate_left
                    · simp only [Act.put, List.setIfInBounds_toArray, List.set_cons_zero, List.set_cons_succ, i64_w, i32_w]
                      rfl
                    refine pure_ (i := 8) (N := some 55) (v := undef) (a' := ?_) #[true, true, true, true, true, true, true, true, true, false, false, false, false, false, false, false] rfl rfl (any_of HT_.out (by kernel_rfl)) (fun _ _ _ h => h) (Or.inr ⟨by rfl, rfl⟩) ?_ ?_
                    rotate_left
                    · simp only [Act.put, List.setIfInBounds_toArray, List.set_cons_zero, List.set_cons_succ, i64_w, i32_w]
                      rfl
                    refine pure_ (i := 9) (N := some 56) (v := undef) (a' := ?_) #[true, true, true, true, true, true, true, true, true, true, false, false, false, false, false, false] rfl rfl (any_of HT_.out (by kernel_rfl)) (fun _ _ _ h => h) (Or.inr ⟨by rfl, rfl⟩) ?_ ?_
                    rotate_left
                    · simp only [Act.put, List.setIfInBounds_toArray, List.set_cons_zero, List.set_cons_succ, i64_w, i32_w]
                      rfl
                    refine pure_ (i := 10) (N := some 57) (v := undef) (a' := ?_) #[true, true, true, true, true, true, true, true, true, true, true, false, false, false, false, false] rfl rfl (any_of HT_.out (by kernel_rfl)) (fun _ _ _ h => h) (Or.inr ⟨by rfl, rfl⟩) ?_ ?_
                    rotate_left
                    · simp only [Act.put, List.setIfInBounds_toArray, List.set_cons_zero, List.set_cons_succ, i64_w, i32_w]
                      rfl
                    refine pure_ (i := 11) (N := some 58) (v := undef) (a' := ?_) #[true, true, true, true, true, true, true, true, true, true, true, true, false, false, false, false] rfl rfl (any_of HT_.out (by kernel_rfl)) (fun _ _ _ h => h) (Or.inr ⟨by rfl, rfl⟩) ?_ ?_
                    rotate_left
                    · simp only [Act.put, List.setIfInBounds_toArray, List.set_cons_zero, List.set_cons_succ, i64_w, i32_w]
                      rfl
                    refine pure_ (i := 12) (N := some 59) (v := undef) (a' := ?_) #[true, true, true, true, true, true, true, true, true, true, true, true, true, false, false, false] rfl rfl (any_of HT_.out (by kernel_rfl)) (fun _ _ _ h => h) (Or.inr ⟨by rfl, rfl⟩) ?_ ?_
                    rotate_left
                    · simp only [Act.put, List.setIfInBounds_toArray, List.set_cons_zero, List.set_cons_succ, i64_w, i32_w]
                      rfl
                    refine pure_ (i := 13) (N := some 60) (v := undef) (a' := ?_) #[true, true, true, true, true, true, true, true, true, true, true, true, true, true, false, false] rfl rfl (any_of HT_.out (by kernel_rfl)) (fun _ _ _ h => h) (Or.inr ⟨by rfl, rfl⟩) ?_ ?_
                    rotate_left
                    · simp only [Act.put, List.setIfInBounds_toArray, List.set_cons_zero, List.set_cons_succ, i64_w, i32_w]
                      rfl
                    refine pure_ (i := 14) (N := some 61) (v := undef) (a' := ?_) #[true, true, true, true, true, true, true, true, true, true, true, true, true, true, true, false] rfl rfl (any_of HT_.out (by kernel_rfl)) (fun _ _ _ h => h) (Or.inr ⟨by rfl, rfl⟩) ?_ ?_
                    rotate_left
                    · simp only [Act.put, List.setIfInBounds_toArray, List.set_cons_zero, List.set_cons_succ, i64_w, i32_w]
                      rfl
                    refine pure_ (i := 15) (N := some 62) (v := ?_) (a' := ?_) #[true, true, true, true, true, true, true, true, true, true, true, true, true, true, true, true] rfl rfl (any_of HT_.out (by kernel_rfl)) (fun _ _ _ h => h) (Or.inl ⟨by rfl, ?_⟩) ?_ ?_
                    rotate_left
                    · intro w'
                      go_simp
                      with_reducible rfl
                    rotate_left
                    · simp only [Act.put, List.setIfInBounds_toArray, List.set_cons_zero, List.set_cons_succ, i64_w, i32_w]
                      rfl
                    refine done_ (done_of HT_.out (by kernel_rfl)) ?_
                    try go_wp2
                    go_meet
                    case rel => exact ⟨_, (true), (by first | rfl | (simp; done) | (simp [*]; done) | (rw [Int.tmod_eq_emod_of_nonneg (Int.natCast_nonneg _)])), H', ⟨by have := HJ3.out; have := HK2.out; first | omega | exact Nat.le_refl _⟩, ⟨by (with_reducible repeat (first | apply Kd.R_alloc | apply Kd.R_drewN | apply Kd.R_drew)); exact HO_8.out⟩, ⟨by (with_reducible repeat (first | refine blk_drewN ?_ _ | refine blk_drew ?_ | refine blk_alloc ?_ _)); exact BK193.out⟩, ⟨by repeat (first | (with_reducible first | exact HB.out | apply below_alloc | apply pw_below_drewN | apply below_drew1 | refine below_set ?_ GE193.out) | exact HB.out)⟩⟩
                  · rw [if_neg c24] at H
                    have c24b0 : (((rd_L6 l1 0).length : Int) == 0) = false := beq_eq_false_iff_ne.mpr c24
                    have c24b1 : (((rd_L6 l1 0).length : Int) != 0) = true := bne_iff_ne.mpr c24
                    have c24b2 : ¬ ((rd_L6 l1 0) = []) := fun h_ => c24 (by rw [h_]; rfl)
                    replace H := Option.bind_eq_some_iff.mp H
                    obtain ⟨t203, A260, H⟩ := H
                    replace H : ((gambrelref10_unit.f t203).bind fun t204 => (if t204 = 0 then (none) else (gambrelref10_Join.j2 k2 l1 a2 x8_2 ((((rd_L6 l1 0).length : Int) % t204) != 0) a0_0 a0_1 a0_2))) = some (r1, r2) := H
                    have A26 := Aside0.mk A260
                    clear A260
                    replace H := Option.bind_eq_some_iff.mp H
                    obtain ⟨t204, A270, H⟩ := H
                    replace H : (if t204 = 0 then (none) else (gambrelref10_Join.j2 k2 l1 a2 x8_2 ((((rd_L6 l1 0).length : Int) % t204) != 0) a0_0 a0_1 a0_2)) = some (r1, r2) := H
                    have A27 := Aside0.mk A270
                    clear A270
                    by_cases c28 : t204 = 0
                    · rw [if_pos c28] at H
                      exact absurd H (by simp)
                    · rw [if_neg c28] at H
                      have c28b0 : (t204 == 0) = false := beq_eq_false_iff_ne.mpr c28
                      have c28b1 : (t204 != 0) = true := bne_iff_ne.mpr c28
                      have H' := Aside0.mk H
                      clear H
                      try go_wp2
                      have n0_ := Aside0.mk (Kd.R_drew HO_8.out)
                      have n1_ := Aside0.mk (blk_drew BK193.out)
                      have n2_ := Aside0.mk (below_drew1 HB.out)
                      clear HO_8
                      clear BK193
                      clear HB
                      have HO_8 := n0_
                      have BK193 := n1_
                      have HB := n2_
                      clear n0_ n1_ n2_
                      have p201 : 0 ≤ (0 : Int) := (by omega)
                      have q201 : 0 < (l1.length : Int) := of_decide_eq_true (by first | (with_reducible assumption) | assumption)
                      obtain ⟨ad201, A201_0, c201_0, e201, hx201_0, hl201_0, hi201_0⟩ := at_L6 HR1.out 0 p201 q201
                      have hw201_0 := hx201_0
                      (try rw [show ((0 : Int)).toNat = 0 from rfl] at hw201_0)
                      (try rw [show 0 * 1 = 0 from rfl] at hw201_0)
                      (try rw [Addr.add_zero'] at hw201_0)
                      cases e201
                      have qi201 : (0 < l1.length) = True := eq_true (by omega)
                      (try rw [show ((0 : Int)).toNat = 0 from rfl] at hx201_0)
                      (try rw [Addr.add_zero'] at hx201_0)
                      replace hx201_0 := (HB.out.cell (World.block_lt_of_cell? w _ hx201_0)).trans hx201_0
                      have HR201_0 := Aside0.mk hi201_0
                      have HC201_0 := Aside0.mk hl201_0
                      clear hi201_0 hl201_0
                      replace p201 := eq_true p201
                      replace q201 := eq_true q201
                      have p202 : 0 ≤ (0 : Int) := (by omega)
                      have q202 : 0 < (l1.length : Int) := of_decide_eq_true (by first | (with_reducible assumption) | assumption)
                      obtain ⟨ad202, A202_0, c202_0, e202, hx202_0, hl202_0, hi202_0⟩ := at_L6 HR1.out 0 p202 q202
                      have hw202_0 := hx202_0
                      (try rw [show ((0 : Int)).toNat = 0 from rfl] at hw202_0)
                      (try rw [show 0 * 1 = 0 from rfl] at hw202_0)
                      (try rw [Addr.add_zero'] at hw202_0)
                      obtain rfl : ad201 = ad202 := (by injection e202)
                      have qi202 : (0 < l1.length) = True := eq_true (by omega)
                      (try rw [show ((0 : Int)).toNat = 0 from rfl] at hx202_0)
                      (try rw [Addr.add_zero'] at hx202_0)
                      replace hx202_0 := (HB.out.cell (World.block_lt_of_cell? w _ hx202_0)).trans hx202_0
                      have HR202_0 := Aside0.mk hi202_0
                      have HC202_0 := Aside0.mk hl202_0
                      clear hi202_0 hl202_0
                      replace p202 := eq_true p202
                      replace q202 := eq_true q202
                      have ea_ := Option.some.inj (hx201_0.symm.trans hx202_0)
                      injection ea_ with ea_ en_ ec_
                      subst ea_
                      subst ec_
                      clear en_
                      refine start_ (n := 16) (S := fun w' => w'.cell? ⟨gb193, 0, none⟩ = some (.int .i64 a0_0) ∧ w'.cell? ⟨gb193, 1, none⟩ = some (.int .i64 a0_1) ∧ w'.cell? ⟨gb193, 2, none⟩ = some (.int .i64 a0_2) ∧ w'.cell? ad201 = some (.slice A201_0 (rd_L6 l1 0).length c201_0) ∧ w'.cell? ad201 = some (.slice A201_0 (rd_L6 l1 0).length c201_0)) (ds := []) #[false, false, false, false, false, false, false, false, false, false, false, false, false, false, false, false] (by kernel_rfl) rfl rfl ⟨(blk_cell BK193.out 0).trans rfl, (blk_cell BK193.out 1).trans rfl, (blk_cell BK193.out 2).trans rfl, ((HB.out.cell (World.block_lt_of_cell? w _ hw201_0)).trans hw201_0), ((HB.out.cell (World.block_lt_of_cell? w _ hw202_0)).trans hw202_0)⟩ (fun hHeld => ?_); refine with_tabW gambrelref10_Join.tab10 gambrelref10_Join.bits10 (fun HT_ HW_ => ?_)
                      generalize wr.drew = w29 at HO_8 BK193 HB HR201_0 HR202_0 hx201_0 hx202_0 hHeld ⊢
                      refine pure_ (i := 0) (N := some 47) (v := ?_) (a' := ?_) #[true, false, false, false, false, false, false, false, false, false, false, false, false, false, false, false] rfl rfl (any_of HT_.out (by kernel_rfl)) (fun _ _ _ h => h) (Or.inl ⟨by rfl, ?_⟩) ?_ ?_
                      rotate_left
                      · intro w'
                        go_simp
                        with_reducible rfl
                      rotate_left
                      · simp only [Act.put, List.setIfInBounds_toArray, List.set_cons_zero, List.set_cons_succ, i64_w, i32_w]
                        rfl
                      refine pure_ (i := 1) (N := some 48) (v := ?_) (a' := ?_) #[true, true, false, false, false, false, false, false, false, false, false, false, false, false, false, false] rfl rfl (any_of HT_.out (by kernel_rfl)) (fun _ _ _ h => h) (Or.inl ⟨by rfl, ?_⟩) ?_ ?_
                      rotate_left
                      · intro w'
                        go_simp
                        with_reducible rfl
                      rotate_left
                      · simp only [Act.put, List.setIfInBounds_toArray, List.set_cons_zero, List.set_cons_succ, i64_w, i32_w]
                        rfl
                      refine take_ (i := 2) (N := some 49) (v := ?_) (a' := ?_) #[true, true, true, false, false, false, false, false, false, false, false, false, false, false, false, false] rfl rfl (take_ofW HT_.out HW_.out (by kernel_rfl)) (fun _ _ _ h => h) (Or.inl ⟨by rfl, ?_⟩) hHeld ?_ ?_
                      rotate_left
                      · rintro w' ⟨s0, s1, s2, s3, s4⟩
                        go_simp
                        with_reducible rfl
                      rotate_left
                      · simp only [Act.put, List.setIfInBounds_toArray, List.set_cons_zero, List.set_cons_succ, i64_w, i32_w]
                        rfl
                      refine pure_ (i := 3) (N := some 50) (v := ?_) (a' := ?_) #[true, true, true, true, false, false, false, false, false, false, false, false, false, false, false, false] rfl rfl (any_of HT_.out (by kernel_rfl)) (fun _ _ _ h => h) (Or.inl ⟨by rfl, ?_⟩) ?_ ?_
                      rotate_left
                      · intro w'
                        go_simp
                        with_reducible rfl
                      rotate_left
                      · simp only [Act.put, List.setIfInBounds_toArray, List.set_cons_zero, List.set_cons_succ, i64_w, i32_w]
                        rfl
                      refine pure_ (i := 4) (N := some 51) (v := ?_) (a' := ?_) #[true, true, true, true, true, false, false, false, false, false, false, false, false, false, false, false] rfl rfl (any_of HT_.out (by kernel_rfl)) (fun _ _ _ h => h) (Or.inl ⟨by rfl, ?_⟩) ?_ ?_
                      rotate_left
                      · intro w'
                        go_simp
                        with_reducible rfl
                      rotate_left
                      · simp only [Act.put, List.setIfInBounds_toArray, List.set_cons_zero, List.set_cons_succ, i64_w, i32_w]
                        rfl
                      refine pure_ (i := 5) (N := some 52) (v := ?_) (a' := ?_) #[true, true, true, true, true, true, false, false, false, false, false, false, false, false, false, false] rfl rfl (any_of HT_.out (by kernel_rfl)) (fun _ _ _ h => h) (Or.inl ⟨by rfl, ?_⟩) ?_ ?_
                      rotate_left
                      · intro w'
                        go_simp
                        with_reducible rfl
                      rotate_left
                      · simp only [Act.put, List.setIfInBounds_toArray, List.set_cons_zero, List.set_cons_succ, i64_w, i32_w]
                        rfl
                      refine pure_ (i := 6) (N := some 53) (v := ?_) (a' := ?_) #[true, true, true, true, true, true, true, false, false, false, false, false, false, false, false, false] rfl rfl (any_of HT_.out (by kernel_rfl)) (fun _ _ _ h => h) (Or.inl ⟨by rfl, ?_⟩) ?_ ?_
                      rotate_left
                      · intro w'
                        go_simp
                        with_reducible rfl
                      rotate_left
                      · simp only [Act.put, List.setIfInBounds_toArray, List.set_cons_zero, List.set_cons_succ, i64_w, i32_w]
                        rfl
                      refine pure_ (i := 7) (N := some 54) (v := ?_) (a' := ?_) #[true, true, true, true, true, true, true, true, false, false, false, false, false, false, false, false] rfl rfl (any_of HT_.out (by kernel_rfl)) (fun _ _ _ h => h) (Or.inl ⟨by rfl, ?_⟩) ?_ ?_
                      rotate_left
                      · intro w'
                        go_simp
                        with_reducible rfl
                      rotate_left
                      · simp only [Act.put, List.setIfInBounds_toArray, List.set_cons_zero, List.set_cons_succ, i64_w, i32_w]
                        rfl
                      refine take_ (i := 8) (N := some 55) (v := ?_) (a' := ?_) #[true, true, true, true, true, true, true, true, true, false, false, false, false, false, false, false] rfl rfl (take_ofW HT_.out HW_.out (by kernel_rfl)) (fun _ _ _ h => h) (Or.inl ⟨by rfl, ?_⟩) hHeld ?_ ?_
                      rotate_left
                      · rintro w' ⟨s0, s1, s2, s3, s4⟩
                        go_simp
                        with_reducible rfl
                      rotate_left
                      · simp only [Act.put, List.setIfInBounds_toArray, List.set_cons_zero, List.set_cons_succ, i64_w, i32_w]
                        rfl
                      refine pure_ (i := 9) (N := some 56) (v := ?_) (a' := ?_) #[true, true, true, true, true, true, true, true, true, true, false, false, false, false, false, false] rfl rfl (any_of HT_.out (by kernel_rfl)) (fun _ _ _ h => h) (Or.inl ⟨by rfl, ?_⟩) ?_ ?_
                      rotate_left
                      · intro w'
                        go_simp
                        with_reducible rfl
                      rotate_left
                      · simp only [Act.put, List.setIfInBounds_toArray, List.set_cons_zero, List.set_cons_succ, i64_w, i32_w]
                        rfl
                      refine take_ (i := 10) (N := some 57) (v := ?_) (a' := ?_) #[true, true, true, true, true, true, true, true, true, true, true, false, false, false, false, false] rfl rfl (take_ofW HT_.out HW_.out (by kernel_rfl)) (fun _ _ _ h => h) (Or.inl ⟨by rfl, ?_⟩) hHeld ?_ ?_
                      rotate_left
                      · rintro w' ⟨s0, s1, s2, s3, s4⟩
                        go_simp
                        with_reducible rfl
                      rotate_left
                      · simp only [Act.put, List.setIfInBounds_toArray, List.set_cons_zero, List.set_cons_succ, i64_w, i32_w]
                        rfl
                      refine one_ (i := 11) (N := some 58) #[true, true, true, true, true, true, true, true, true, true, true, true, false, false, false, false] rfl rfl (one_of HT_.out (by kernel_rfl)) (by decide) (fun K hK => ?_)
                      refine goes_ Try.func23 (by kernel_rfl) rfl #[.agg #[.int .i64 a0_0, .int .i64 a0_1, .int .i64 a0_2]] (by rfl) rfl rfl (by (try simp only [List.map_toArray, List.map_cons, List.map_nil]); first | done | rfl | (simp only [List.length_drop, List.length_take]; rfl)) ?_
                      with_reducible refine (gambrelref10_layout.calls a0_0 a0_1 a0_2 t203 _ A26.out).mono ?_
                      rintro e w30 ⟨rfl, hb⟩
                      refine ⟨_, rfl, ?_⟩
                      have n0_ := Aside0.mk (Kd.R_below (by (with_reducible repeat (first | apply Kd.R_alloc | apply Kd.R_drewN | apply Kd.R_drew)); exact HO_8.out) hb)
                      have n1_ := Aside0.mk (blk_below (g := gb193) (o := .cells #[.int .i64 a0_0, .int .i64 a0_1, .int .i64 a0_2] 23 (0, 0)) (by (with_reducible repeat (first | refine blk_drewN ?_ _ | refine blk_drew ?_ | refine blk_alloc ?_ _)); exact BK193.out) hb)
                      have n2_ := Aside0.mk (below_step (by repeat (first | (with_reducible first | exact HB.out | apply below_alloc | apply pw_below_drewN | apply below_drew1 | refine below_set ?_ GE193.out) | exact HB.out)) hb)
                      clear HO_8
                      clear BK193
                      clear HB
                      have HO_8 := n0_
                      have BK193 := n1_
                      have HB := n2_
                      clear n0_ n1_ n2_
                      (try clear hb)
                      (try clear hb2)
                      (try clear hk)
                      (try clear hi)
                      refine hK.out _ _ ⟨(blk_cell BK193.out 0).trans rfl, (blk_cell BK193.out 1).trans rfl, (blk_cell BK193.out 2).trans rfl, ((HB.out.cell (World.block_lt_of_cell? w _ hw201_0)).trans hw201_0), ((HB.out.cell (World.block_lt_of_cell? w _ hw202_0)).trans hw202_0)⟩ (fun hHeld => ?_)
                      clear hK K
                      refine norm_ (a' := ?_) ?_ ?_
                      rotate_left
                      · show Act.put _ (some 58) _ = _
                        simp only [Act.put, List.setIfInBounds_toArray, List.set_cons_zero, List.set_cons_succ, i64_w, i32_w]
                        rfl
                      refine one_ (i := 12) (N := some 59) #[true, true, true, true, true, true, true, true, true, true, true, true, true, false, false, false] rfl rfl (one_of HT_.out (by kernel_rfl)) (by decide) (fun K hK => ?_)
                      refine goes_ Try.func24 (by kernel_rfl) rfl #[.int .u8 t203] (by rfl) rfl rfl (by (try simp only [List.map_toArray, List.map_cons, List.map_nil]); first | done | rfl | (simp only [List.length_drop, List.length_take]; rfl)) ?_
                      with_reducible refine (gambrelref10_unit.calls t203 t204 _ A27.out).mono ?_
                      rintro e w' ⟨rfl, ⟨nd, rfl⟩⟩
                      refine ⟨_, rfl, ?_⟩
                      refine hK.out _ _ ⟨(blk_cell BK193.out 0).trans rfl, (blk_cell BK193.out 1).trans rfl, (blk_cell BK193.out 2).trans rfl, ((HB.out.cell (World.block_lt_of_cell? w _ hw201_0)).trans hw201_0), ((HB.out.cell (World.block_lt_of_cell? w _ hw202_0)).trans hw202_0)⟩ (fun hHeld => ?_)
                      clear hK K
                      refine norm_ (a' := ?_) ?_ ?_
                      rotate_left
                      · show Act.put _ (some 59) _ = _
                        simp only [Act.put, List.setIfInBounds_toArray, List.set_cons_zero, List.set_cons_succ, i64_w, i32_w]
                        rfl
                      refine pure_ (i := 13) (N := some 60) (v := ?_) (a' := ?_) #[true, true, true, true, true, true, true, true, true, true, true, true, true, true, false, false] rfl rfl (any_of HT_.out (by kernel_rfl)) (fun _ _ _ h => h) (Or.inl ⟨by rfl, ?_⟩) ?_ ?_
                      rotate_left
                      · intro w'
                        go_simp
                        with_reducible rfl
                      rotate_left
                      · simp only [Act.put, List.setIfInBounds_toArray, List.set_cons_zero, List.set_cons_succ, i64_w, i32_w]
                        rfl
                      refine pure_ (i := 14) (N := some 61) (v := ?_) (a' := ?_) #[true, true, true, true, true, true, true, true, true, true, true, true, true, true, true, false] rfl rfl (any_of HT_.out (by kernel_rfl)) (fun _ _ _ h => h) (Or.inl ⟨by rfl, ?_⟩) ?_ ?_
                      rotate_left
                      · intro w'
                        go_simp
                        with_reducible rfl
                      rotate_left
                      · simp only [Act.put, List.setIfInBounds_toArray, List.set_cons_zero, List.set_cons_succ, i64_w, i32_w]
                        rfl
                      refine pure_ (i := 15) (N := some 62) (v := ?_) (a' := ?_) #[true, true, true, true, true, true, true, true, true, true, true, true, true, true, true, true] rfl rfl (any_of HT_.out (by kernel_rfl)) (fun _ _ _ h => h) (Or.inl ⟨by rfl, ?_⟩) ?_ ?_
                      rotate_left
                      · intro w'
                        go_simp
                        with_reducible rfl
                      rotate_left
                      · simp only [Act.put, List.setIfInBounds_toArray, List.set_cons_zero, List.set_cons_succ, i64_w, i32_w]
                        rfl
                      refine done_ (done_of HT_.out (by kernel_rfl)) ?_
                      try go_wp2
                      go_meet
                      case rel => exact ⟨_, (((((rd_L6 l1 0).length : Int) % t204) != 0)), (by first | rfl | (simp; done) | (simp [*]; done) | (rw [Int.tmod_eq_emod_of_nonneg (Int.natCast_nonneg _)])), H', ⟨by have := HJ3.out; have := HK2.out; first | omega | exact Nat.le_refl _⟩, ⟨by (with_reducible repeat (first | apply Kd.R_alloc | apply Kd.R_drewN | apply Kd.R_drew)); exact HO_8.out⟩, ⟨by (with_reducible repeat (first | refine blk_drewN ?_ _ | refine blk_drew ?_ | refine blk_alloc ?_ _)); exact BK193.out⟩, ⟨by repeat (first | (with_reducible first | exact HB.out | apply below_alloc | apply pw_below_drewN | apply below_drew1 | refine below_set ?_ GE193.out) | exact HB.out)⟩⟩
                · rw [if_neg c23] at H
                  exact absurd H (by simp)
              case rest =>
                clear HC22
                try clear c1
                try clear p1
                try clear q1
                try clear hx1
                try clear qi1
                try clear c2
                try clear p2
                try clear q2
                try clear hx2
                try clear qi2
                try clear p6
                try clear c14
                try clear c14b0
                try clear c15
                try clear c16
                try clear c17
                try clear c17b0
                try clear c17b1
                try clear c17b2
                try clear c18
                try clear c19
                try clear p19
                try clear q19
                try clear hx19
                try clear qi19
                try clear c20
                try clear p20
                try clear q20
                try clear hx20
                try clear qi20
                try clear c23
                try clear c23b0
                try clear c23b1
                try clear c24
                try clear c24b0
                try clear c24b1
                try clear c24b2
                try clear c28
                try clear c28b0
                try clear c28b1
                try clear hx195_0
                try clear hx196_0
                try clear hx197_0
                try clear hx201_0
                try clear hx202_0
                try clear p195
                try clear p196
                try clear p197
                try clear p201
                try clear p202
                try clear q195
                try clear q196
                try clear q197
                try clear q201
                try clear q202
                obtain ⟨kq, x62_21, rfl, HA, HJ21, HO_8, BK193, HB⟩ := hcut
                cases kq with
                | zero => exact absurd HA.out (by simp [gambrelref10_Join.j2])
                | succ kj21 =>
                  have H := HA.out
                  clear HA
                  simp only [gambrelref10_Join.j2] at H
                  by_cases c31 : x62_21 = true
                  · subst c31
                    have H1 : (some (([] : List Int), 3)) = some (r1, r2) := by rw [if_pos rfl] at H; exact H
                    clear H
                    have H := H1
                    clear H1
                    simp only [Option.some.injEq, Prod.mk.injEq] at H
                    obtain ⟨rfl, rfl⟩ := H
                    go_wp2
                    go_ret2
                    exact ⟨_, by first | rfl | (simp [errW_none, errW_some] <;> rfl) | (simp [*, errW_none, errW_some] <;> rfl), by first | exact Kd.R_nil _ _ _ _ _ | exact Kd.N_nil _ _ _ _ _ | exact Kd.V_nil _ _ _ _ _ | exact Kd.Q_nil _ _ _ _ _ | exact Kd.S_nil _ _ _ _ _, by repeat (first | (with_reducible first | exact HB.out | apply below_alloc | apply pw_below_drewN | apply below_drew1 | refine below_set ?_ GE193.out) | exact HB.out)⟩
                  · replace c31 := Bool.eq_false_iff.mpr c31
                    subst c31
                    have H1 : ((gambrelref10_layout.f a0_0 a0_1 a0_2).bind fun t205 => (if t205 = 98 then (if (x8_2.length : Int) < 4 then (some (([] : List Int), 3)) else (gambrelref10_Join.l1 kj21 l1 0 x8_2 0 a0_0 a0_1 a0_2)) else (gambrelref10_Join.j4 kj21 l1 a2 x8_2 0 a0_0 a0_1 a0_2))) = some (r1, r2) := by rw [if_neg (show ¬ (false = true) by decide)] at H; exact H
                    clear H
                    have H := H1
                    clear H1
                    replace H := Option.bind_eq_some_iff.mp H
                    obtain ⟨t205, A320, H⟩ := H
                    replace H : (if t205 = 98 then (if (x8_2.length : Int) < 4 then (some (([] : List Int), 3)) else (gambrelref10_Join.l1 kj21 l1 0 x8_2 0 a0_0 a0_1 a0_2)) else (gambrelref10_Join.j4 kj21 l1 a2 x8_2 0 a0_0 a0_1 a0_2)) = some (r1, r2) := H
                    have A32 := Aside0.mk A320
                    clear A320
                    have HC33 := Aside0.mk H
                    clear H
                    have hcz34_0 : wc.cell? ⟨gb193, 0, none⟩ = some (.int .i64 a0_0) := (blk_cell BK193.out 0).trans rfl
                    have hcz34_1 : wc.cell? ⟨gb193, 1, none⟩ = some (.int .i64 a0_1) := (blk_cell BK193.out 1).trans rfl
                    have hcz34_2 : wc.cell? ⟨gb193, 2, none⟩ = some (.int .i64 a0_2) := (blk_cell BK193.out 2).trans rfl
                    have hfz34_0 := blk_frozen BK193.out 0
                    have hfz34_1 := blk_frozen BK193.out 1
                    have hfz34_2 := blk_frozen BK193.out 2
                    go_upto_if 65 with (first | ((with_reducible refine gate_callee (f := 23) rfl ?_); refine goesL_ (some 64) rfl rfl Try.func23 (by kernel_rfl) rfl #[.agg #[.int .i64 a0_0, .int .i64 a0_1, .int .i64 a0_2]] rfl (by (try simp only [List.map_toArray, List.map_cons, List.map_nil]); first | done | rfl | (simp only [List.length_drop, List.length_take]; rfl)) ?_; (with_reducible refine (gambrelref10_layout.calls a0_0 a0_1 a0_2 t205 _ A32.out).mono ?_); rintro e w35 ⟨rfl, hb⟩; refine ⟨_, rfl, ?_⟩; have n0_ := Aside0.mk (Kd.R_below (by (with_reducible repeat (first | apply Kd.R_alloc | apply Kd.R_drewN | apply Kd.R_drew)); exact HO_8.out) hb); have n1_ := Aside0.mk (blk_below (g := gb193) (o := .cells #[.int .i64 a0_0, .int .i64 a0_1, .int .i64 a0_2] 23 (0, 0)) (by (with_reducible repeat (first | refine blk_drewN ?_ _ | refine blk_drew ?_ | refine blk_alloc ?_ _)); exact BK193.out) hb); have n2_ := Aside0.mk (below_step (by repeat (first | (with_reducible first | exact HB.out | apply below_alloc | apply pw_below_drewN | apply below_drew1 | refine below_set ?_ GE193.out) | exact HB.out)) hb); clear HO_8; clear BK193; clear HB; have HO_8 := n0_; have BK193 := n1_; have HB := n2_; clear n0_ n1_ n2_; (try clear hb); (try clear hb2); (try clear hk); (try clear hi)))
                    (try simp only [Act.put, List.setIfInBounds_toArray, List.set_cons_zero, List.set_cons_succ])
                    go_cut [2, 10] (fun v2 v10 wc => ∃ (kq : Nat) (x2_32 : Int) (x10_32 : Int), v2 = .int .i64 x2_32 ∧ v10 = .int .i64 x10_32 ∧ Aside0 (gambrelref10_Join.j4 kq l1 x2_32 x8_2 x10_32 a0_0 a0_1 a0_2 = some (r1, r2)) ∧ Aside0 (kq ≤ kj21) ∧ Aside0 (Kd.R (Kd.int .u8) 5 wc w.heap.size (fun _ => True) u8 x8_2) ∧ Aside0 (wc.heap[gb193]? = some (.cells #[.int .i64 a0_0, .int .i64 a0_1, .int .i64 a0_2] 23 (0, 0))) ∧ Aside0 (Below w.heap.size w wc))
                    case first =>
                      have H := HC33.out
                      clear HC33
                      by_cases c36 : t205 = 98
                      · rw [if_pos c36] at H
                        have c36b0 : (t205 == 98) = true := beq_iff_eq.mpr c36
                        have c36b1 : (t205 != 98) = false := bne_eq_false_iff_eq.mpr c36
                        clear c36
                        (first | rw [c36b0] | (simp only [i64_w, i32_w]; rw [c36b0]) | skip)
                        by_cases c37 : (x8_2.length : Int) < 4
                        · rw [if_pos c37] at H
                          have c37b0 : decide ((x8_2.length : Int) < 4) = true := decide_eq_true c37
                          have c37b1 : decide (x8_2.length < 4) = true := decide_eq_true (by omega)
                          clear c37
                          simp only [Option.some.injEq, Prod.mk.injEq] at H
                          obtain ⟨rfl, rfl⟩ := H
                          obtain ⟨Ao38, co38, eo38⟩ := Kd.R_slice HO_8.out
                          subst eo38
                          go_wp2
                          go_ret2
                          exact ⟨_, by first | rfl | (simp [errW_none, errW_some] <;> rfl) | (simp [*, errW_none, errW_some] <;> rfl), by first | exact Kd.R_nil _ _ _ _ _ | exact Kd.N_nil _ _ _ _ _ | exact Kd.V_nil _ _ _ _ _ | exact Kd.Q_nil _ _ _ _ _ | exact Kd.S_nil _ _ _ _ _, by repeat (first | (with_reducible first | exact HB.out | apply below_alloc | apply pw_below_drewN | apply below_drew1 | refine below_set ?_ GE193.out) | exact HB.out)⟩
                        · rw [if_neg c37] at H
                          have c37b0 : decide ((x8_2.length : Int) < 4) = false := decide_eq_false c37
                          have c37b1 : decide (x8_2.length < 4) = false := decide_eq_false (by omega)
                          clear c37
                          have H' := Aside0.mk H
                          clear H
                          obtain ⟨Ao39, co39, eo39⟩ := Kd.R_slice HO_8.out
                          subst eo39
                          go_wp2
                          go_loopg [2, 11] kj21 (fun kq v2 v11 w' => ∃ (x2_4 : Int) (x11_4 : Int), v2 = .int .i64 x2_4 ∧ v11 = .int .i64 x11_4 ∧ Aside0 (gambrelref10_Join.l1 kq l1 x2_4 x8_2 x11_4 a0_0 a0_1 a0_2 = some (r1, r2)) ∧ Aside0 (kq ≤ kj21) ∧ Aside0 (Kd.R (Kd.int .u8) 5 w' w.heap.size (fun _ => True) (.slice Ao39 x8_2.length co39) x8_2) ∧ Aside0 (w'.heap[gb193]? = some (.cells #[.int .i64 a0_0, .int .i64 a0_1, .int .i64 a0_2] 23 (0, 0))) ∧ Aside0 (Below w.heap.size w w'))
                          case atStart => exact ⟨(0), (0), (by first | rfl | (simp; done) | (simp [*]; done)), (by first | rfl | (simp; done) | (simp [*]; done) | (rw [Int.tmod_eq_emod_of_nonneg (Int.natCast_nonneg _)])), H', ⟨Nat.le_refl _⟩, ⟨by (with_reducible repeat (first | apply Kd.R_alloc | apply Kd.R_drewN | apply Kd.R_drew)); exact HO_8.out⟩, ⟨by (with_reducible repeat (first | refine blk_drewN ?_ _ | refine blk_drew ?_ | refine blk_alloc ?_ _)); exact BK193.out⟩, ⟨by repeat (first | (with_reducible first | exact HB.out | apply below_alloc | apply pw_below_drewN | apply below_drew1 | refine below_set ?_ GE193.out) | exact HB.out)⟩⟩
                          case round =>
                            clear H'
                            try clear c1
                            try clear p1
                            try clear q1
                            try clear hx1
                            try clear qi1
                            try clear c2
                            try clear p2
                            try clear q2
                            try clear hx2
                            try clear qi2
                            try clear c3
                            try clear p6
                            try clear c14
                            try clear c14b0
                            try clear c15
                            try clear c16
                            try clear c17
                            try clear c17b0
                            try clear c17b1
                            try clear c17b2
                            try clear c18
                            try clear c19
                            try clear p19
                            try clear q19
                            try clear hx19
                            try clear qi19
                            try clear c20
                            try clear p20
                            try clear q20
                            try clear hx20
                            try clear qi20
                            try clear c23
                            try clear c23b0
                            try clear c23b1
                            try clear c24
                            try clear c24b0
                            try clear c24b1
                            try clear c24b2
                            try clear c28
                            try clear c28b0
                            try clear c28b1
                            try clear c31
                            try clear c36
                            try clear c36b0
                            try clear c36b1
                            try clear c37
                            try clear c37b0
                            try clear c37b1
                            try clear hcz34_0
                            try clear hcz34_1
                            try clear hcz34_2
                            try clear hfz34_0
                            try clear hfz34_1
                            try clear hfz34_2
                            try clear hx195_0
                            try clear hx196_0
                            try clear hx197_0
                            try clear hx201_0
                            try clear hx202_0
                            try clear p1
                            try clear p19
                            try clear p195
                            try clear p196
                            try clear p197
                            try clear p2
                            try clear p20
                            try clear p201
                            try clear p202
                            try clear p6
                            try clear q1
                            try clear q19
                            try clear q195
                            try clear q196
                            try clear q197
                            try clear q2
                            try clear q20
                            try clear q201
                            try clear q202
                            obtain ⟨x2_4, x11_4, rfl, rfl, HA, HK4, HO_8, BK193, HB⟩ := hrel
                            cases gk with
                            | zero => exact absurd HA.out (by simp [gambrelref10_Join.l1])
                            | succ k4 =>
                              have H := HA.out
                              clear HA
                              simp only [gambrelref10_Join.l1] at H
                              by_cases c40 : x11_4 < 4
                              · rw [if_pos c40] at H
                                have c40b0 : decide (x11_4 < 4) = true := decide_eq_true c40
                                clear c40
                                by_cases c41 : 0 ≤ x11_4
                                · rw [if_pos c41] at H
                                  have c41b0 : decide (0 ≤ x11_4) = true := decide_eq_true c41
                                  clear c41
                                  by_cases c42 : x11_4 < (x8_2.length : Int)
                                  · rw [if_pos c42] at H
                                    have c42b0 : decide (x11_4 < (x8_2.length : Int)) = true := decide_eq_true c42
                                    clear c42
                                    have H' := Aside0.mk H
                                    clear H
                                    have p206 : 0 ≤ (x11_4 : Int) := of_decide_eq_true (by first | (with_reducible assumption) | assumption)
                                    have q206 : x11_4 < (x8_2.length : Int) := of_decide_eq_true (by first | (with_reducible assumption) | assumption)
                                    obtain ⟨ad206, e206, hx206_0⟩ := Kd.at_int (Kd.R_reads' HO_8.out).2.2 x11_4 p206 q206
                                    cases e206
                                    replace p206 := eq_true p206
                                    replace q206 := eq_true q206
                                    go_wp2
                                    go_roundg k4
                                    case measure => have := HJ3.out; have := HK2.out; have := HJ21.out; have := HK4.out; omega
                                    case rel => exact ⟨(wrap64 ((wrap64 (256 * x2_4)) + (wrap64 (rd x8_2 x11_4)))), (wrap64 (x11_4 + 1)), (by first | rfl | (simp; done) | (simp [*]; done)), (by first | rfl | (simp; done) | (simp [*]; done) | (rw [Int.tmod_eq_emod_of_nonneg (Int.natCast_nonneg _)])), H', ⟨by have := HJ3.out; have := HK2.out; have := HJ21.out; have := HK4.out; omega⟩, ⟨by (with_reducible repeat (first | apply Kd.R_alloc | apply Kd.R_drewN | apply Kd.R_drew)); exact HO_8.out⟩, ⟨by (with_reducible repeat (first | refine blk_drewN ?_ _ | refine blk_drew ?_ | refine blk_alloc ?_ _)); exact BK193.out⟩, ⟨by repeat (first | (with_reducible first | exact HB.out | apply below_alloc | apply pw_below_drewN | apply below_drew1 | refine below_set ?_ GE193.out) | exact HB.out)⟩⟩
                                  · rw [if_neg c42] at H
                                    exact absurd H (by simp)
                                · rw [if_neg c41] at H
                                  exact absurd H (by simp)
                              · rw [if_neg c40] at H
                                have c40b0 : decide (x11_4 < 4) = false := decide_eq_false c40
                                clear c40
                                have H' := Aside0.mk H
                                clear H
                                go_wp2
                                go_meet
                                case rel => exact ⟨_, (x2_4), (4), (by first | rfl | (simp; done) | (simp [*]; done)), (by first | rfl | (simp; done) | (simp [*]; done) | (rw [Int.tmod_eq_emod_of_nonneg (Int.natCast_nonneg _)])), H', ⟨by have := HJ3.out; have := HK2.out; have := HJ21.out; have := HK4.out; first | omega | exact Nat.le_refl _⟩, ⟨by (with_reducible repeat (first | apply Kd.R_alloc | apply Kd.R_drewN | apply Kd.R_drew)); exact HO_8.out⟩, ⟨by (with_reducible repeat (first | refine blk_drewN ?_ _ | refine blk_drew ?_ | refine blk_alloc ?_ _)); exact BK193.out⟩, ⟨by repeat (first | (with_reducible first | exact HB.out | apply below_alloc | apply pw_below_drewN | apply below_drew1 | refine below_set ?_ GE193.out) | exact HB.out)⟩⟩
                      · rw [if_neg c36] at H
                        have c36b0 : (t205 == 98) = false := beq_eq_false_iff_ne.mpr c36
                        have c36b1 : (t205 != 98) = true := bne_iff_ne.mpr c36
                        (first | rw [c36b0] | (simp only [i64_w, i32_w]; rw [c36b0]) | skip)
                        have H' := Aside0.mk H
                        clear H
                        go_wp2
                        go_meet
                        case rel => exact ⟨_, (a2), (0), (by first | rfl | (simp; done) | (simp [*]; done)), (by first | rfl | (simp; done) | (simp [*]; done) | (rw [Int.tmod_eq_emod_of_nonneg (Int.natCast_nonneg _)])), H', ⟨by have := HJ3.out; have := HK2.out; have := HJ21.out; first | omega | exact Nat.le_refl _⟩, ⟨by (with_reducible repeat (first | apply Kd.R_alloc | apply Kd.R_drewN | apply Kd.R_drew)); exact HO_8.out⟩, ⟨by (with_reducible repeat (first | refine blk_drewN ?_ _ | refine blk_drew ?_ | refine blk_alloc ?_ _)); exact BK193.out⟩, ⟨by repeat (first | (with_reducible first | exact HB.out | apply below_alloc | apply pw_below_drewN | apply below_drew1 | refine below_set ?_ GE193.out) | exact HB.out)⟩⟩
                    case rest =>
                      clear HC33
                      try clear c1
                      try clear p1
                      try clear q1
                      try clear hx1
                      try clear qi1
                      try clear c2
                      try clear p2
                      try clear q2
                      try clear hx2
                      try clear qi2
                      try clear c3
                      try clear c4
                      try clear p6
                      try clear c14
                      try clear c14b0
                      try clear c15
                      try clear c16
                      try clear c17
                      try clear c17b0
                      try clear c17b1
                      try clear c17b2
                      try clear c18
                      try clear c19
                      try clear p19
                      try clear q19
                      try clear hx19
                      try clear qi19
                      try clear c20
                      try clear p20
                      try clear q20
                      try clear hx20
                      try clear qi20
                      try clear c23
                      try clear c23b0
                      try clear c23b1
                      try clear c24
                      try clear c24b0
                      try clear c24b1
                      try clear c24b2
                      try clear c28
                      try clear c28b0
                      try clear c28b1
                      try clear c31
                      try clear c36
                      try clear c36b0
                      try clear c36b1
                      try clear c37
                      try clear c37b0
                      try clear c37b1
                      try clear c40
                      try clear c40b0
                      try clear c41
                      try clear c41b0
                      try clear c42
                      try clear c42b0
                      try clear hcz34_0
                      try clear hcz34_1
                      try clear hcz34_2
                      try clear hfz34_0
                      try clear hfz34_1
                      try clear hfz34_2
                      try clear hx195_0
                      try clear hx196_0
                      try clear hx197_0
                      try clear hx201_0
                      try clear hx202_0
                      try clear hx206_0
                      try clear p1
                      try clear p19
                      try clear p195
                      try clear p196
                      try clear p197
                      try clear p2
                      try clear p20
                      try clear p201
                      try clear p202
                      try clear p206
                      try clear p6
                      try clear q1
                      try clear q19
                      try clear q195
                      try clear q196
                      try clear q197
                      try clear q2
                      try clear q20
                      try clear q201
                      try clear q202
                      try clear q206
                      obtain ⟨kq, x2_32, x10_32, rfl, rfl, HA, HJ32, HO_8, BK193, HB⟩ := hcut
                      cases kq with
                      | zero => exact absurd HA.out (by simp [gambrelref10_Join.j4])
                      | succ kj32 =>
                        have H := HA.out
                        clear HA
                        simp only [gambrelref10_Join.j4] at H
                        have HC43 := Aside0.mk H
                        clear H
                        go_upto_region 22 with (fail)
                        go_cut [94] (fun v94 wc => ∃ (kq : Nat) (x94_42 : Bool), v94 = .bool x94_42 ∧ Aside0 (gambrelref10_Join.j5 kq l1 x2_32 x8_2 x10_32 x94_42 a0_0 a0_1 a0_2 = some (r1, r2)) ∧ Aside0 (kq ≤ kj32) ∧ Aside0 (Kd.R (Kd.int .u8) 5 wc w.heap.size (fun _ => True) u8 x8_2) ∧ Aside0 (wc.heap[gb193]? = some (.cells #[.int .i64 a0_0, .int .i64 a0_1, .int .i64 a0_2] 23 (0, 0))) ∧ Aside0 (Below w.heap.size w wc))
                        case first =>
                          have H := HC43.out
                          clear HC43
                          by_cases c44 : x2_32 < 0
                          · rw [if_pos c44] at H
                            have c44b0 : decide (x2_32 < 0) = true := decide_eq_true c44
                            clear c44
                            (first | rw [c44b0] | (simp only [i64_w, i32_w]; rw [c44b0]) | skip)
                            have H' := Aside0.mk H
                            clear H
                            go_wp2
                            go_meet
                            case rel => exact ⟨_, (true), (by first | rfl | (simp; done) | (simp [*]; done) | (rw [Int.tmod_eq_emod_of_nonneg (Int.natCast_nonneg _)])), H', ⟨by have := HJ3.out; have := HK2.out; have := HJ21.out; have := HJ32.out; first | omega | exact Nat.le_refl _⟩, ⟨by (with_reducible repeat (first | apply Kd.R_alloc | apply Kd.R_drewN | apply Kd.R_drew)); exact HO_8.out⟩, ⟨by (with_reducible repeat (first | refine blk_drewN ?_ _ | refine blk_drew ?_ | refine blk_alloc ?_ _)); exact BK193.out⟩, ⟨by repeat (first | (with_reducible first | exact HB.out | apply below_alloc | apply pw_below_drewN | apply below_drew1 | refine below_set ?_ GE193.out) | exact HB.out)⟩⟩
                          · rw [if_neg c44] at H
                            have c44b0 : decide (x2_32 < 0) = false := decide_eq_false c44
                            clear c44
                            (first | rw [c44b0] | (simp only [i64_w, i32_w]; rw [c44b0]) | skip)
                            by_cases c45 : x2_32 > 4096
                            · rw [if_pos c45] at H
                              have c45b0 : decide (4096 < x2_32) = true := decide_eq_true c45
                              clear c45
                              have H' := Aside0.mk H
                              clear H
                              go_wp2
                              go_meet
                              case rel => exact ⟨_, (true), (by first | rfl | (simp; done) | (simp [*]; done) | (rw [Int.tmod_eq_emod_of_nonneg (Int.natCast_nonneg _)])), H', ⟨by have := HJ3.out; have := HK2.out; have := HJ21.out; have := HJ32.out; first | omega | exact Nat.le_refl _⟩, ⟨by (with_reducible repeat (first | apply Kd.R_alloc | apply Kd.R_drewN | apply Kd.R_drew)); exact HO_8.out⟩, ⟨by (with_reducible repeat (first | refine blk_drewN ?_ _ | refine blk_drew ?_ | refine blk_alloc ?_ _)); exact BK193.out⟩, ⟨by repeat (first | (with_reducible first | exact HB.out | apply below_alloc | apply pw_below_drewN | apply below_drew1 | refine below_set ?_ GE193.out) | exact HB.out)⟩⟩
                            · rw [if_neg c45] at H
                              have c45b0 : decide (4096 < x2_32) = false := decide_eq_false c45
                              clear c45
                              have H' := Aside0.mk H
                              clear H
                              obtain ⟨Ao46, co46, eo46⟩ := Kd.R_slice HO_8.out
                              subst eo46
                              go_wp2
                              go_meet
                              case rel => exact ⟨_, (decide (x2_32 > (wrap64 ((x8_2.length : Int) - x10_32)))), (by first | rfl | (simp; done) | (simp [*]; done) | (rw [Int.tmod_eq_emod_of_nonneg (Int.natCast_nonneg _)])), H', ⟨by have := HJ3.out; have := HK2.out; have := HJ21.out; have := HJ32.out; first | omega | exact Nat.le_refl _⟩, ⟨by (with_reducible repeat (first | apply Kd.R_alloc | apply Kd.R_drewN | apply Kd.R_drew)); exact HO_8.out⟩, ⟨by (with_reducible repeat (first | refine blk_drewN ?_ _ | refine blk_drew ?_ | refine blk_alloc ?_ _)); exact BK193.out⟩, ⟨by repeat (first | (with_reducible first | exact HB.out | apply below_alloc | apply pw_below_drewN | apply below_drew1 | refine below_set ?_ GE193.out) | exact HB.out)⟩⟩
                        case rest =>
                          clear HC43
                          try clear c1
                          try clear p1
                          try clear q1
                          try clear hx1
                          try clear qi1
                          try clear c2
                          try clear p2
                          try clear q2
                          try clear hx2
                          try clear qi2
                          try clear c3
                          try clear c4
                          try clear p6
                          try clear c14
                          try clear c14b0
                          try clear c15
                          try clear c16
                          try clear c17
                          try clear c17b0
                          try clear c17b1
                          try clear c17b2
                          try clear c18
                          try clear c19
                          try clear p19
                          try clear q19
                          try clear hx19
                          try clear qi19
                          try clear c20
                          try clear p20
                          try clear q20
                          try clear hx20
                          try clear qi20
                          try clear c23
                          try clear c23b0
                          try clear c23b1
                          try clear c24
                          try clear c24b0
                          try clear c24b1
                          try clear c24b2
                          try clear c28
                          try clear c28b0
                          try clear c28b1
                          try clear c31
                          try clear c36
                          try clear c36b0
                          try clear c36b1
                          try clear c37
                          try clear c37b0
                          try clear c37b1
                          try clear c40
                          try clear c40b0
                          try clear c41
                          try clear c41b0
                          try clear c42
                          try clear c42b0
                          try clear c44
                          try clear c44b0
                          try clear c45
                          try clear c45b0
                          try clear hcz34_0
                          try clear hcz34_1
                          try clear hcz34_2
                          try clear hfz34_0
                          try clear hfz34_1
                          try clear hfz34_2
                          try clear hx195_0
                          try clear hx196_0
                          try clear hx197_0
                          try clear hx201_0
                          try clear hx202_0
                          try clear hx206_0
                          try clear p1
                          try clear p19
                          try clear p195
                          try clear p196
                          try clear p197
                          try clear p2
                          try clear p20
                          try clear p201
                          try clear p202
                          try clear p206
                          try clear p6
                          try clear q1
                          try clear q19
                          try clear q195
                          try clear q196
                          try clear q197
                          try clear q2
                          try clear q20
                          try clear q201
                          try clear q202
                          try clear q206
                          obtain ⟨kq, x94_42, rfl, HA, HJ42, HO_8, BK193, HB⟩ := hcut
                          cases kq with
                          | zero => exact absurd HA.out (by simp [gambrelref10_Join.j5])
                          | succ kj42 =>
                            have H := HA.out
                            clear HA
                            simp only [gambrelref10_Join.j5] at H
                            by_cases c47 : x94_42 = true
                            · subst c47
                              have H1 : (some (([] : List Int), 3)) = some (r1, r2) := by rw [if_pos rfl] at H; exact H
                              clear H
                              have H := H1
                              clear H1
                              simp only [Option.some.injEq, Prod.mk.injEq] at H
                              obtain ⟨rfl, rfl⟩ := H
                              go_wp2
                              go_ret2
                              exact ⟨_, by first | rfl | (simp [errW_none, errW_some] <;> rfl) | (simp [*, errW_none, errW_some] <;> rfl), by first | exact Kd.R_nil _ _ _ _ _ | exact Kd.N_nil _ _ _ _ _ | exact Kd.V_nil _ _ _ _ _ | exact Kd.Q_nil _ _ _ _ _ | exact Kd.S_nil _ _ _ _ _, by repeat (first | (with_reducible first | exact HB.out | apply below_alloc | apply pw_below_drewN | apply below_drew1 | refine below_set ?_ GE193.out) | exact HB.out)⟩
                            · replace c47 := Bool.eq_false_iff.mpr c47
                              subst c47
                              have H1 : ((some (([] : List Int) : List Int)).bind fun y207 => (if 0 ≤ x10_32 then (if x10_32 ≤ (wrap64 (x10_32 + x2_32)) then (if (wrap64 (x10_32 + x2_32)) ≤ (x8_2.length : Int) then ((some ((x8_2.take ((wrap64 (x10_32 + x2_32)) : Int).toNat).drop (x10_32 : Int).toNat : List Int)).bind fun y210 => (if y207.length + y210.length < 140737488355328 then ((some (y207 ++ y210 : List Int)).bind fun y214 => ((gambrelref10_Split.f kj42 a0_0 a0_1 a0_2 y214).bind fun bt217 => ((gambrelref10_Same.f kj42 bt217.1 l1).bind fun t221 => (if t221 = true then (some (y214, 0)) else (some (([] : List Int), 3)))))) else (none))) else (none)) else (none)) else (none))) = some (r1, r2) := by rw [if_neg (show ¬ (false = true) by decide)] at H; exact H
                              clear H
                              have H := H1
                              clear H1
                              obtain ⟨y207, hy207⟩ : ∃ y_ : List Int, y_ = (([] : List Int)) := ⟨_, rfl⟩
                              replace H : (if 0 ≤ x10_32 then (if x10_32 ≤ (wrap64 (x10_32 + x2_32)) then (if (wrap64 (x10_32 + x2_32)) ≤ (x8_2.length : Int) then ((some ((x8_2.take ((wrap64 (x10_32 + x2_32)) : Int).toNat).drop (x10_32 : Int).toNat : List Int)).bind fun y210 => (if y207.length + y210.length < 140737488355328 then ((some (y207 ++ y210 : List Int)).bind fun y214 => ((gambrelref10_Split.f kj42 a0_0 a0_1 a0_2 y214).bind fun bt217 => ((gambrelref10_Same.f kj42 bt217.1 l1).bind fun t221 => (if t221 = true then (some (y214, 0)) else (some (([] : List Int), 3)))))) else (none))) else (none)) else (none)) else (none)) = some (r1, r2) := by first | (rw [hy207]; with_reducible exact H) | (have H2_ := (Option.bind_some _ _).symm.trans H; rw [hy207]; with_reducible exact H2_) | (have H2_ := (Option.bind_some _ _).symm.trans H; with_reducible exact H2_) | with_reducible exact H | (rw [hy207]; exact H) | exact H
                              have Ny207 := Aside0.mk hy207
                              clear hy207
                              by_cases c48 : 0 ≤ x10_32
                              · rw [if_pos c48] at H
                                have c48b0 := eq_true c48
                                have c48b1 : decide (0 ≤ x10_32) = true := decide_eq_true c48
                                clear c48
                                by_cases c49 : x10_32 ≤ (wrap64 (x10_32 + x2_32))
                                · rw [if_pos c49] at H
                                  have c49b0 := eq_true c49
                                  have c49b1 : decide (x10_32 ≤ (wrap64 (x10_32 + x2_32))) = true := decide_eq_true c49
                                  by_cases c50 : (wrap64 (x10_32 + x2_32)) ≤ (x8_2.length : Int)
                                  · rw [if_pos c50] at H
                                    have c50b0 := eq_true c50
                                    have c50b1 : decide ((wrap64 (x10_32 + x2_32)) ≤ (x8_2.length : Int)) = true := decide_eq_true c50
                                    obtain ⟨y210, hy210⟩ : ∃ y_ : List Int, y_ = ((x8_2.take ((wrap64 (x10_32 + x2_32)) : Int).toNat).drop (x10_32 : Int).toNat) := ⟨_, rfl⟩
                                    replace H : (if y207.length + y210.length < 140737488355328 then ((some (y207 ++ y210 : List Int)).bind fun y214 => ((gambrelref10_Split.f kj42 a0_0 a0_1 a0_2 y214).bind fun bt217 => ((gambrelref10_Same.f kj42 bt217.1 l1).bind fun t221 => (if t221 = true then (some (y214, 0)) else (some (([] : List Int), 3)))))) else (none)) = some (r1, r2) := by first | (rw [hy210]; with_reducible exact H) | (have H2_ := (Option.bind_some _ _).symm.trans H; rw [hy210]; with_reducible exact H2_) | (have H2_ := (Option.bind_some _ _).symm.trans H; with_reducible exact H2_) | with_reducible exact H | (rw [hy210]; exact H) | exact H
                                    have Ny210 := Aside0.mk hy210
                                    clear hy210
                                    by_cases c51 : y207.length + y210.length < 140737488355328
                                    · rw [if_pos c51] at H
                                      have LMc51 := Aside0.mk c51
                                      clear c51
                                      obtain ⟨y214, hy214⟩ : ∃ y_ : List Int, y_ = (y207 ++ y210) := ⟨_, rfl⟩
                                      replace H : ((gambrelref10_Split.f kj42 a0_0 a0_1 a0_2 y214).bind fun bt217 => ((gambrelref10_Same.f kj42 bt217.1 l1).bind fun t221 => (if t221 = true then (some (y214, 0)) else (some (([] : List Int), 3))))) = some (r1, r2) := by first | (rw [hy214]; with_reducible exact H) | (have H2_ := (Option.bind_some _ _).symm.trans H; rw [hy214]; with_reducible exact H2_) | (have H2_ := (Option.bind_some _ _).symm.trans H; with_reducible exact H2_) | with_reducible exact H | (rw [hy214]; exact H) | exact H
                                      have Ny214 := Aside0.mk hy214
                                      clear hy214
                                      replace H := Option.bind_eq_some_iff.mp H
                                      obtain ⟨⟨t217, t220⟩, A520, H⟩ := H
                                      replace H : ((gambrelref10_Same.f kj42 t217 l1).bind fun t221 => (if t221 = true then (some (y214, 0)) else (some (([] : List Int), 3)))) = some (r1, r2) := H
                                      have A52 := Aside0.mk A520
                                      clear A520
                                      replace H := Option.bind_eq_some_iff.mp H
                                      obtain ⟨t221, A530, H⟩ := H
                                      replace H : (if t221 = true then (some (y214, 0)) else (some (([] : List Int), 3))) = some (r1, r2) := H
                                      have A53 := Aside0.mk A530
                                      clear A530
                                      by_cases c54 : t221 = true
                                      · subst c54
                                        have H1 : (some (y214, 0)) = some (r1, r2) := by rw [if_pos rfl] at H; exact H
                                        clear H
                                        have H := H1
                                        clear H1
                                        simp only [Option.some.injEq, Prod.mk.injEq] at H
                                        obtain ⟨rfl, rfl⟩ := H
                                        go_wp2_with (first | ((with_reducible refine gate_dst (N := 95) rfl ?_); (try (refine gate_guard (by rfl) ?_; dsimp only)); refine Kd.R_lit (Kd.int .u8) _ 5 ?hg (N := 95) ?hd (xs := ([] : List Int)) (inner := []) (ok := fun _ => True) (okp := fun _ => True) ?hr ?hp (fun _ hk => hk) trivial (Below.refl _ _) (Nat.le_refl _) (by simp) ?_; (case hd => rfl); (case hg => rfl); (case hr => first | (go_simp; done) | (go_simp; rfl)); (case hp => exact (Reps.none _ _)); intro v208 w55 ho56 hb hg_ hnew_; clear hg_ hnew_; (first | rw [← Ny207.out] at ho56 | (simp only [Int.reduceToNat] at ho56; rw [← Ny207.out] at ho56)); have n0_ := Aside0.mk (Kd.R_elder' (by (with_reducible repeat (first | apply Kd.R_alloc | apply Kd.R_drewN | apply Kd.R_drew)); exact HO_8.out) (Kd.R_base ho56) hb); have n1_ := Aside0.mk (Kd.R_lower (Kd.R_new' ho56 (Kd.R_lt (by (with_reducible repeat (first | apply Kd.R_alloc | apply Kd.R_drewN | apply Kd.R_drew)); exact HO_8.out))) (below_size (by repeat (first | (with_reducible first | exact HB.out | apply below_alloc | apply pw_below_drewN | apply below_drew1 | refine below_set ?_ GE193.out) | exact HB.out)))); have n2_ := Aside0.mk (blk_below (g := gb193) (o := .cells #[.int .i64 a0_0, .int .i64 a0_1, .int .i64 a0_2] 23 (0, 0)) (by (with_reducible repeat (first | refine blk_drewN ?_ _ | refine blk_drew ?_ | refine blk_alloc ?_ _)); exact BK193.out) hb); have n3_ := Aside0.mk (below_step (by repeat (first | (with_reducible first | exact HB.out | apply below_alloc | apply pw_below_drewN | apply below_drew1 | refine below_set ?_ GE193.out) | exact HB.out)) hb); clear HO_8; clear BK193; clear HB; have HO_8 := n0_; have HO209 := n1_; have BK193 := n2_; have HB := n3_; clear n0_ n1_ n2_ n3_; clear hb ho56; obtain ⟨Ao58, co58, eo58⟩ := Kd.R_slice HO_8.out; subst eo58; have q57 : ((wrap64 (x10_32 + x2_32)) : Int) ≤ ((x8_2.length : Int) : Int) := of_decide_eq_true (by first | (with_reducible assumption) | assumption); obtain ⟨i057, hi057, _, hsz57, _⟩ := info_parts info5; have hroom57 : x8_2.length ≤ co58 := (Kd.R_reads' HO_8.out).2.1; have hC57 : Kd.C (Kd.int .u8) _ Ao58 x8_2.length x8_2 := (Kd.R_reads' HO_8.out).2.2; have ql57 : (x10_32 : Int) ≤ ((wrap64 (x10_32 + x2_32)) : Int) := of_decide_eq_true (by first | (with_reducible assumption) | assumption); have q057 : (0 : Int) ≤ (x10_32 : Int) := of_decide_eq_true (by first | (with_reducible assumption) | assumption); have hcut57 := cut_mid (P := Try.prog) 24 5 .i64 .i64 Try.underlying24 hi057 1 hsz57 Ao58 x8_2.length co58 x10_32 (wrap64 (x10_32 + x2_32)) q057 ql57 q57 hroom57; have hr57 := Kd.C_mid (lo := (x10_32 : Int).toNat) (hi := ((wrap64 (x10_32 + x2_32)) : Int).toNat) (c := co58) hC57 (by omega) (by omega) hroom57; obtain ⟨A57, hA57⟩ : ∃ A1, A1 = (if co58 = (x10_32 : Int).toNat then Ao58 else (Ao58 : Option Addr).map (·.add ((x10_32 : Int).toNat * 1))) := ⟨_, rfl⟩; obtain ⟨c57, hc57⟩ : ∃ c1, c1 = co58 - (x10_32 : Int).toNat := ⟨_, rfl⟩; have hy57 : y210.length = ((wrap64 (x10_32 + x2_32)) : Int).toNat - (x10_32 : Int).toNat := (by rw [Ny210.out, List.length_drop, List.length_take] <;> omega); rw [show ((x8_2).take ((wrap64 (x10_32 + x2_32)) : Int).toNat).drop (x10_32 : Int).toNat = y210 from Ny210.out.symm] at hr57; replace hr57 : Kd.C (Kd.int .u8) _ A57 y210.length y210 := (by rw [hA57]; exact hr57); rw [← hy57, ← hA57, ← hc57] at hcut57; have HR213 := Aside0.mk hr57; have HC213 := Aside0.mk (show y210.length ≤ c57 from by rw [hy57, hc57]; exact Nat.sub_le_sub_right (Nat.le_trans (by omega) hroom57) _); clear hr57 hC57 hroom57 hi057 hsz57 hc57; have KY57 := Aside0.mk hy57; have KA57 := Aside0.mk hA57; clear hy57 hA57; have KL57 := Aside0.mk (show ((wrap64 (x10_32 + x2_32)) : Int).toNat ≤ x8_2.length from by omega); have KM57 := Aside0.mk (show (x10_32 : Int).toNat ≤ ((wrap64 (x10_32 + x2_32)) : Int).toNat from by omega); replace q57 := eq_true q57) | ((with_reducible refine gate_builtin (b := .append) (xs := #[.tmp 95, .tmp 101]) rfl ?_); (try (refine gate_guard (by rfl) ?_; dsimp only)); at_builtin; refine Kd.R_append_rows (Kd.int .u8) (w0 := w) w.heap.size rfl (.tmp 95) (.tmp 101) 24 5 (.int .u8 0) 1 rfl Try.underlying24 info5 rfl (by decide) (by omega) v208 y207 y210 _ _ _ (fun k_ => some k_ ≠ (.slice Ao58 x8_2.length co58 : Value).ownBlock) (fun _ => False) rfl rfl ?aO ?aR (fun _ _ h => h) (fun _ h => h.elim) ?aF ?aB ?aS ?aL ?_; (case aR => repeat (first | exact (by repeat (first | (with_reducible exact HR213.out) | (with_reducible refine Kd.C_alloc ?_ _) | (with_reducible refine Kd.C_drewN ?_ _) | (with_reducible refine Kd.C_drew ?_) | exact HR213.out)) | (with_reducible refine Kd.C_alloc ?_ _) | (with_reducible refine Kd.C_drewN ?_ _) | (with_reducible refine Kd.C_drew ?_))); (case aB => exact (by repeat (first | (with_reducible first | exact HB.out | apply below_alloc | apply pw_below_drewN | apply below_drew1 | refine below_set ?_ GE193.out) | exact HB.out))); (case aF => exact (fun k_ hk => Kd.fresh' (Kd.R_lt (by (with_reducible repeat (first | apply Kd.R_alloc | apply Kd.R_drewN | apply Kd.R_drew)); exact HO_8.out)) k_ hk)); (case aO => exact (by (with_reducible repeat (first | apply Kd.R_alloc | apply Kd.R_drewN | apply Kd.R_drew)); exact Kd.R_mono HO209.out (fun _ hk => hk.2))); (case aS => exact (below_size (by repeat (first | (with_reducible first | exact HB.out | apply below_alloc | apply pw_below_drewN | apply below_drew1 | refine below_set ?_ GE193.out) | exact HB.out)))); (case aL => have := LMc51.out; omega); intro v215 w59 ho hb hg hat; rw [← Ny214.out] at ho; have n0_ := Aside0.mk (Kd.R_after (ok := (fun _ => True)) (by (with_reducible repeat (first | apply Kd.R_alloc | apply Kd.R_drewN | apply Kd.R_drew)); exact HO_8.out) hg hat); have n1_ := Aside0.mk (blk_grown (g := gb193) (o := .cells #[.int .i64 a0_0, .int .i64 a0_1, .int .i64 a0_2] 23 (0, 0)) (by (with_reducible repeat (first | refine blk_drewN ?_ _ | refine blk_drew ?_ | refine blk_alloc ?_ _)); exact BK193.out) hg (Kd.R_ne HO209.out BK193.out (by decide))); have n2_ := Aside0.mk (hb); have n3_ := Aside0.mk ((show Kd.C (Kd.int .u8) w59 A57 y210.length y210 from by rw [Ny210.out, KA57.out]; exact Kd.C_mid (lo := (x10_32 : Int).toNat) (hi := ((wrap64 (x10_32 + x2_32)) : Int).toNat) (c := co58) ((Kd.R_reads' (Kd.R_after (ok := (fun _ => True)) (by (with_reducible repeat (first | apply Kd.R_alloc | apply Kd.R_drewN | apply Kd.R_drew)); exact HO_8.out) hg hat)).2.2) KM57.out KL57.out ((Kd.R_reads' (Kd.R_after (ok := (fun _ => True)) (by (with_reducible repeat (first | apply Kd.R_alloc | apply Kd.R_drewN | apply Kd.R_drew)); exact HO_8.out) hg hat)).2.1))); have n4_ := Aside0.mk (ho); clear HO_8; clear BK193; clear HB; clear HR213; clear HO209; have HO_8 := n0_; have BK193 := n1_; have HB := n2_; have HR213 := n3_; have HO216 := n4_; clear n0_ n1_ n2_ n3_ n4_; clear ho hb hg hat; have hcz60_0 : w59.cell? ⟨gb193, 0, none⟩ = some (.int .i64 a0_0) := (blk_cell BK193.out 0).trans rfl; have hcz60_1 : w59.cell? ⟨gb193, 1, none⟩ = some (.int .i64 a0_1) := (blk_cell BK193.out 1).trans rfl; have hcz60_2 : w59.cell? ⟨gb193, 2, none⟩ = some (.int .i64 a0_2) := (blk_cell BK193.out 2).trans rfl; have hfz60_0 := blk_frozen BK193.out 0; have hfz60_1 := blk_frozen BK193.out 1; have hfz60_2 := blk_frozen BK193.out 2; obtain ⟨Ao61, co61, eo61⟩ := Kd.R_slice HO216.out; subst eo61) | ((with_reducible refine gate_callee (f := 13) rfl ?_); refine goesL_ (some 106) rfl rfl Try.func13 (by kernel_rfl) rfl #[.agg #[.int .i64 a0_0, .int .i64 a0_1, .int .i64 a0_2], .slice Ao61 y214.length co61] rfl (by (try simp only [List.map_toArray, List.map_cons, List.map_nil]); first | done | rfl | (simp only [List.length_drop, List.length_take]; rfl)) ?_; (with_reducible refine (gambrelref10_Split.calls kj42 a0_0 a0_1 a0_2 _ _ y214 t217 t220 _ ?side1 ?side2 A52.out).mono ?_); (case side1 => repeat (first | exact (Kd.R_reads' HO216.out).2.2 | (with_reducible refine Kd.C_alloc ?_ _) | (with_reducible refine Kd.C_drewN ?_ _) | (with_reducible refine Kd.C_drew ?_))); (case side2 => exact (Kd.R_reads' HO216.out).2.1); rintro e w62 ⟨v218, rfl, ho0, hb⟩; refine ⟨_, rfl, ?_⟩; have n0_ := Aside0.mk (Kd.R_below (by (with_reducible repeat (first | apply Kd.R_alloc | apply Kd.R_drewN | apply Kd.R_drew)); exact HO_8.out) hb); have n1_ := Aside0.mk (Kd.R_below (by (with_reducible repeat (first | apply Kd.R_alloc | apply Kd.R_drewN | apply Kd.R_drew)); exact HO216.out) hb); have n2_ := Aside0.mk (Kd.S_lower (Kd.S_new' (Kd.S_new' ho0 (Kd.R_lt (by (with_reducible repeat (first | apply Kd.R_alloc | apply Kd.R_drewN | apply Kd.R_drew)); exact HO_8.out))) (Kd.R_lt (by (with_reducible repeat (first | apply Kd.R_alloc | apply Kd.R_drewN | apply Kd.R_drew)); exact HO216.out))) (below_size (by repeat (first | (with_reducible first | exact HB.out | apply below_alloc | apply pw_below_drewN | apply below_drew1 | refine below_set ?_ GE193.out) | exact HB.out)))); have n3_ := Aside0.mk (blk_below (g := gb193) (o := .cells #[.int .i64 a0_0, .int .i64 a0_1, .int .i64 a0_2] 23 (0, 0)) (by (with_reducible repeat (first | refine blk_drewN ?_ _ | refine blk_drew ?_ | refine blk_alloc ?_ _)); exact BK193.out) hb); have n4_ := Aside0.mk (Kd.C_below (by repeat (first | (with_reducible exact HR213.out) | (with_reducible refine Kd.C_alloc ?_ _) | (with_reducible refine Kd.C_drewN ?_ _) | (with_reducible refine Kd.C_drew ?_) | exact HR213.out)) hb); have n5_ := Aside0.mk (below_step (by repeat (first | (with_reducible first | exact HB.out | apply below_alloc | apply pw_below_drewN | apply below_drew1 | refine below_set ?_ GE193.out) | exact HB.out)) hb); clear HO_8; clear HO216; clear BK193; clear HR213; clear HB; have HO_8 := n0_; have HO216 := n1_; have HO219 := n2_; have BK193 := n3_; have HR213 := n4_; have HB := n5_; clear n0_ n1_ n2_ n3_ n4_ n5_; (try clear hb); (try clear hb2); (try clear hk); (try clear hi); (try clear ho0); obtain ⟨Ao63, co63, eo63⟩ := Kd.S_slice HO219.out; subst eo63) | ((with_reducible refine gate_callee (f := 14) rfl ?_); refine goesL_ (some 111) rfl rfl Try.func14 (by kernel_rfl) rfl #[.slice Ao63 t217.length co63, .slice A1 l1.length c1] rfl (by (try simp only [List.map_toArray, List.map_cons, List.map_nil]); first | done | rfl | (simp only [List.length_drop, List.length_take]; rfl)) ?_; (with_reducible refine (gambrelref10_Same.calls kj42 _ _ t217 _ _ l1 true _ ?side1 ?side2 ?side3 ?side4 A53.out).mono ?_); (case side1 => repeat (first | exact (Kd.S_reads' HO219.out).2.2 | (with_reducible refine Kd.C_alloc ?_ _) | (with_reducible refine Kd.C_drewN ?_ _) | (with_reducible refine Kd.C_drew ?_))); (case side2 => exact (Kd.S_reads' HO219.out).2.1); (case side3 => repeat (first | exact (Kd.C_below HR1.out HB.out) | (with_reducible refine Kd.C_alloc ?_ _) | (with_reducible refine Kd.C_drewN ?_ _) | (with_reducible refine Kd.C_drew ?_))); (case side4 => exact HC1.out); rintro e w' ⟨rfl, ⟨nd, rfl⟩⟩; refine ⟨_, rfl, ?_⟩))
                                        go_ret2
                                        exact ⟨_, by first | rfl | (simp [errW_none, errW_some] <;> rfl) | (simp [*, errW_none, errW_some] <;> rfl), by (with_reducible repeat (first | apply Kd.R_alloc | apply Kd.R_drewN | apply Kd.R_drew)); exact Kd.R_mono HO216.out (fun _ hk => trivial), by repeat (first | (with_reducible first | exact HB.out | apply below_alloc | apply pw_below_drewN | apply below_drew1 | refine below_set ?_ GE193.out) | exact HB.out)⟩
                                      · replace c54 := Bool.eq_false_iff.mpr c54
                                        subst c54
                                        have H1 : (some (([] : List Int), 3)) = some (r1, r2) := by rw [if_neg (show ¬ (false = true) by decide)] at H; exact H
                                        clear H
                                        have H := H1
                                        clear H1
                                        simp only [Option.some.injEq, Prod.mk.injEq] at H
                                        obtain ⟨rfl, rfl⟩ := H
                                        go_wp2_with (first | ((with_reducible refine gate_dst (N := 95) rfl ?_); (try (refine gate_guard (by rfl) ?_; dsimp only)); refine Kd.R_lit (Kd.int .u8) _ 5 ?hg (N := 95) ?hd (xs := ([] : List Int)) (inner := []) (ok := fun _ => True) (okp := fun _ => True) ?hr ?hp (fun _ hk => hk) trivial (Below.refl _ _) (Nat.le_refl _) (by simp) ?_; (case hd => rfl); (case hg => rfl); (case hr => first | (go_simp; done) | (go_simp; rfl)); (case hp => exact (Reps.none _ _)); intro v208 w64 ho65 hb hg_ hnew_; clear hg_ hnew_; (first | rw [← Ny207.out] at ho65 | (simp only [Int.reduceToNat] at ho65; rw [← Ny207.out] at ho65)); have n0_ := Aside0.mk (Kd.R_elder' (by (with_reducible repeat (first | apply Kd.R_alloc | apply Kd.R_drewN | apply Kd.R_drew)); exact HO_8.out) (Kd.R_base ho65) hb); have n1_ := Aside0.mk (Kd.R_lower (Kd.R_new' ho65 (Kd.R_lt (by (with_reducible repeat (first | apply Kd.R_alloc | apply Kd.R_drewN | apply Kd.R_drew)); exact HO_8.out))) (below_size (by repeat (first | (with_reducible first | exact HB.out | apply below_alloc | apply pw_below_drewN | apply below_drew1 | refine below_set ?_ GE193.out) | exact HB.out)))); have n2_ := Aside0.mk (blk_below (g := gb193) (o := .cells #[.int .i64 a0_0, .int .i64 a0_1, .int .i64 a0_2] 23 (0, 0)) (by (with_reducible repeat (first | refine blk_drewN ?_ _ | refine blk_drew ?_ | refine blk_alloc ?_ _)); exact BK193.out) hb); have n3_ := Aside0.mk (below_step (by repeat (first | (with_reducible first | exact HB.out | apply below_alloc | apply pw_below_drewN | apply below_drew1 | refine below_set ?_ GE193.out) | exact HB.out)) hb); clear HO_8; clear BK193; clear HB; have HO_8 := n0_; have HO209 := n1_; have BK193 := n2_; have HB := n3_; clear n0_ n1_ n2_ n3_; clear hb ho65; obtain ⟨Ao67, co67, eo67⟩ := Kd.R_slice HO_8.out; subst eo67; have q66 : ((wrap64 (x10_32 + x2_32)) : Int) ≤ ((x8_2.length : Int) : Int) := of_decide_eq_true (by first | (with_reducible assumption) | assumption); obtain ⟨i066, hi066, _, hsz66, _⟩ := info_parts info5; have hroom66 : x8_2.length ≤ co67 := (Kd.R_reads' HO_8.out).2.1; have hC66 : Kd.C (Kd.int .u8) _ Ao67 x8_2.length x8_2 := (Kd.R_reads' HO_8.out).2.2; have ql66 : (x10_32 : Int) ≤ ((wrap64 (x10_32 + x2_32)) : Int) := of_decide_eq_true (by first | (with_reducible assumption) | assumption); have q066 : (0 : Int) ≤ (x10_32 : Int) := of_decide_eq_true (by first | (with_reducible assumption) | assumption); have hcut66 := cut_mid (P := Try.prog) 24 5 .i64 .i64 Try.underlying24 hi066 1 hsz66 Ao67 x8_2.length co67 x10_32 (wrap64 (x10_32 + x2_32)) q066 ql66 q66 hroom66; have hr66 := Kd.C_mid (lo := (x10_32 : Int).toNat) (hi := ((wrap64 (x10_32 + x2_32)) : Int).toNat) (c := co67) hC66 (by omega) (by omega) hroom66; obtain ⟨A66, hA66⟩ : ∃ A1, A1 = (if co67 = (x10_32 : Int).toNat then Ao67 else (Ao67 : Option Addr).map (·.add ((x10_32 : Int).toNat * 1))) := ⟨_, rfl⟩; obtain ⟨c66, hc66⟩ : ∃ c1, c1 = co67 - (x10_32 : Int).toNat := ⟨_, rfl⟩; have hy66 : y210.length = ((wrap64 (x10_32 + x2_32)) : Int).toNat - (x10_32 : Int).toNat := (by rw [Ny210.out, List.length_drop, List.length_take] <;> omega); rw [show ((x8_2).take ((wrap64 (x10_32 + x2_32)) : Int).toNat).drop (x10_32 : Int).toNat = y210 from Ny210.out.symm] at hr66; replace hr66 : Kd.C (Kd.int .u8) _ A66 y210.length y210 := (by rw [hA66]; exact hr66); rw [← hy66, ← hA66, ← hc66] at hcut66; have HR213 := Aside0.mk hr66; have HC213 := Aside0.mk (show y210.length ≤ c66 from by rw [hy66, hc66]; exact Nat.sub_le_sub_right (Nat.le_trans (by omega) hroom66) _); clear hr66 hC66 hroom66 hi066 hsz66 hc66; have KY66 := Aside0.mk hy66; have KA66 := Aside0.mk hA66; clear hy66 hA66; have KL66 := Aside0.mk (show ((wrap64 (x10_32 + x2_32)) : Int).toNat ≤ x8_2.length from by omega); have KM66 := Aside0.mk (show (x10_32 : Int).toNat ≤ ((wrap64 (x10_32 + x2_32)) : Int).toNat from by omega); replace q66 := eq_true q66) | ((with_reducible refine gate_builtin (b := .append) (xs := #[.tmp 95, .tmp 101]) rfl ?_); (try (refine gate_guard (by rfl) ?_; dsimp only)); at_builtin; refine Kd.R_append_rows (Kd.int .u8) (w0 := w) w.heap.size rfl (.tmp 95) (.tmp 101) 24 5 (.int .u8 0) 1 rfl Try.underlying24 info5 rfl (by decide) (by omega) v208 y207 y210 _ _ _ (fun k_ => some k_ ≠ (.slice Ao67 x8_2.length co67 : Value).ownBlock) (fun _ => False) rfl rfl ?aO ?aR (fun _ _ h => h) (fun _ h => h.elim) ?aF ?aB ?aS ?aL ?_; (case aR => repeat (first | exact (by repeat (first | (with_reducible exact HR213.out) | (with_reducible refine Kd.C_alloc ?_ _) | (with_reducible refine Kd.C_drewN ?_ _) | (with_reducible refine Kd.C_drew ?_) | exact HR213.out)) | (with_reducible refine Kd.C_alloc ?_ _) | (with_reducible refine Kd.C_drewN ?_ _) | (with_reducible refine Kd.C_drew ?_))); (case aB => exact (by repeat (first | (with_reducible first | exact HB.out | apply below_alloc | apply pw_below_drewN | apply below_drew1 | refine below_set ?_ GE193.out) | exact HB.out))); (case aF => exact (fun k_ hk => Kd.fresh' (Kd.R_lt (by (with_reducible repeat (first | apply Kd.R_alloc | apply Kd.R_drewN | apply Kd.R_drew)); exact HO_8.out)) k_ hk)); (case aO => exact (by (with_reducible repeat (first | apply Kd.R_alloc | apply Kd.R_drewN | apply Kd.R_drew)); exact Kd.R_mono HO209.out (fun _ hk => hk.2))); (case aS => exact (below_size (by repeat (first | (with_reducible first | exact HB.out | apply below_alloc | apply pw_below_drewN | apply below_drew1 | refine below_set ?_ GE193.out) | exact HB.out)))); (case aL => have := LMc51.out; omega); intro v215 w68 ho hb hg hat; rw [← Ny214.out] at ho; have n0_ := Aside0.mk (Kd.R_after (ok := (fun _ => True)) (by (with_reducible repeat (first | apply Kd.R_alloc | apply Kd.R_drewN | apply Kd.R_drew)); exact HO_8.out) hg hat); have n1_ := Aside0.mk (blk_grown (g := gb193) (o := .cells #[.int .i64 a0_0, .int .i64 a0_1, .int .i64 a0_2] 23 (0, 0)) (by (with_reducible repeat (first | refine blk_drewN ?_ _ | refine blk_drew ?_ | refine blk_alloc ?_ _)); exact BK193.out) hg (Kd.R_ne HO209.out BK193.out (by decide))); have n2_ := Aside0.mk (hb); have n3_ := Aside0.mk ((show Kd.C (Kd.int .u8) w68 A66 y210.length y210 from by rw [Ny210.out, KA66.out]; exact Kd.C_mid (lo := (x10_32 : Int).toNat) (hi := ((wrap64 (x10_32 + x2_32)) : Int).toNat) (c := co67) ((Kd.R_reads' (Kd.R_after (ok := (fun _ => True)) (by (with_reducible repeat (first | apply Kd.R_alloc | apply Kd.R_drewN | apply Kd.R_drew)); exact HO_8.out) hg hat)).2.2) KM66.out KL66.out ((Kd.R_reads' (Kd.R_after (ok := (fun _ => True)) (by (with_reducible repeat (first | apply Kd.R_alloc | apply Kd.R_drewN | apply Kd.R_drew)); exact HO_8.out) hg hat)).2.1))); have n4_ := Aside0.mk (ho); clear HO_8; clear BK193; clear HB; clear HR213; clear HO209; have HO_8 := n0_; have BK193 := n1_; have HB := n2_; have HR213 := n3_; have HO216 := n4_; clear n0_ n1_ n2_ n3_ n4_; clear ho hb hg hat; have hcz69_0 : w68.cell? ⟨gb193, 0, none⟩ = some (.int .i64 a0_0) := (blk_cell BK193.out 0).trans rfl; have hcz69_1 : w68.cell? ⟨gb193, 1, none⟩ = some (.int .i64 a0_1) := (blk_cell BK193.out 1).trans rfl; have hcz69_2 : w68.cell? ⟨gb193, 2, none⟩ = some (.int .i64 a0_2) := (blk_cell BK193.out 2).trans rfl; have hfz69_0 := blk_frozen BK193.out 0; have hfz69_1 := blk_frozen BK193.out 1; have hfz69_2 := blk_frozen BK193.out 2; obtain ⟨Ao70, co70, eo70⟩ := Kd.R_slice HO216.out; subst eo70) | ((with_reducible refine gate_callee (f := 13) rfl ?_); refine goesL_ (some 106) rfl rfl Try.func13 (by kernel_rfl) rfl #[.agg #[.int .i64 a0_0, .int .i64 a0_1, .int .i64 a0_2], .slice Ao70 y214.length co70] rfl (by (try simp only [List.map_toArray, List.map_cons, List.map_nil]); first | done | rfl | (simp only [List.length_drop, List.length_take]; rfl)) ?_; (with_reducible refine (gambrelref10_Split.calls kj42 a0_0 a0_1 a0_2 _ _ y214 t217 t220 _ ?side1 ?side2 A52.out).mono ?_); (case side1 => repeat (first | exact (Kd.R_reads' HO216.out).2.2 | (with_reducible refine Kd.C_alloc ?_ _) | (with_reducible refine Kd.C_drewN ?_ _) | (with_reducible refine Kd.C_drew ?_))); (case side2 => exact (Kd.R_reads' HO216.out).2.1); rintro e w71 ⟨v218, rfl, ho0, hb⟩; refine ⟨_, rfl, ?_⟩; have n0_ := Aside0.mk (Kd.R_below (by (with_reducible repeat (first | apply Kd.R_alloc | apply Kd.R_drewN | apply Kd.R_drew)); exact HO_8.out) hb); have n1_ := Aside0.mk (Kd.R_below (by (with_reducible repeat (first | apply Kd.R_alloc | apply Kd.R_drewN | apply Kd.R_drew)); exact HO216.out) hb); have n2_ := Aside0.mk (Kd.S_lower (Kd.S_new' (Kd.S_new' ho0 (Kd.R_lt (by (with_reducible repeat (first | apply Kd.R_alloc | apply Kd.R_drewN | apply Kd.R_drew)); exact HO_8.out))) (Kd.R_lt (by (with_reducible repeat (first | apply Kd.R_alloc | apply Kd.R_drewN | apply Kd.R_drew)); exact HO216.out))) (below_size (by repeat (first | (with_reducible first | exact HB.out | apply below_alloc | apply pw_below_drewN | apply below_drew1 | refine below_set ?_ GE193.out) | exact HB.out)))); have n3_ := Aside0.mk (blk_below (g := gb193) (o := .cells #[.int .i64 a0_0, .int .i64 a0_1, .int .i64 a0_2] 23 (0, 0)) (by (with_reducible repeat (first | refine blk_drewN ?_ _ | refine blk_drew ?_ | refine blk_alloc ?_ _)); exact BK193.out) hb); have n4_ := Aside0.mk (Kd.C_below (by repeat (first | (with_reducible exact HR213.out) | (with_reducible refine Kd.C_alloc ?_ _) | (with_reducible refine Kd.C_drewN ?_ _) | (with_reducible refine Kd.C_drew ?_) | exact HR213.out)) hb); have n5_ := Aside0.mk (below_step (by repeat (first | (with_reducible first | exact HB.out | apply below_alloc | apply pw_below_drewN | apply below_drew1 | refine below_set ?_ GE193.out) | exact HB.out)) hb); clear HO_8; clear HO216; clear BK193; clear HR213; clear HB; have HO_8 := n0_; have HO216 := n1_; have HO219 := n2_; have BK193 := n3_; have HR213 := n4_; have HB := n5_; clear n0_ n1_ n2_ n3_ n4_ n5_; (try clear hb); (try clear hb2); (try clear hk); (try clear hi); (try clear ho0); obtain ⟨Ao72, co72, eo72⟩ := Kd.S_slice HO219.out; subst eo72) | ((with_reducible refine gate_callee (f := 14) rfl ?_); refine goesL_ (some 111) rfl rfl Try.func14 (by kernel_rfl) rfl #[.slice Ao72 t217.length co72, .slice A1 l1.length c1] rfl (by (try simp only [List.map_toArray, List.map_cons, List.map_nil]); first | done | rfl | (simp only [List.length_drop, List.length_take]; rfl)) ?_; (with_reducible refine (gambrelref10_Same.calls kj42 _ _ t217 _ _ l1 false _ ?side1 ?side2 ?side3 ?side4 A53.out).mono ?_); (case side1 => repeat (first | exact (Kd.S_reads' HO219.out).2.2 | (with_reducible refine Kd.C_alloc ?_ _) | (with_reducible refine Kd.C_drewN ?_ _) | (with_reducible refine Kd.C_drew ?_))); (case side2 => exact (Kd.S_reads' HO219.out).2.1); (case side3 => repeat (first | exact (Kd.C_below HR1.out HB.out) | (with_reducible refine Kd.C_alloc ?_ _) | (with_reducible refine Kd.C_drewN ?_ _) | (with_reducible refine Kd.C_drew ?_))); (case side4 => exact HC1.out); rintro e w' ⟨rfl, ⟨nd, rfl⟩⟩; refine ⟨_, rfl, ?_⟩))
                                        go_ret2
                                        exact ⟨_, by first | rfl | (simp [errW_none, errW_some] <;> rfl) | (simp [*, errW_none, errW_some] <;> rfl), by first | exact Kd.R_nil _ _ _ _ _ | exact Kd.N_nil _ _ _ _ _ | exact Kd.V_nil _ _ _ _ _ | exact Kd.Q_nil _ _ _ _ _ | exact Kd.S_nil _ _ _ _ _, by repeat (first | (with_reducible first | exact HB.out | apply below_alloc | apply pw_below_drewN | apply below_drew1 | refine below_set ?_ GE193.out) | exact HB.out)⟩
                                    · rw [if_neg c51] at H
                                      exact absurd H (by simp)
                                  · rw [if_neg c50] at H
                                    exact absurd H (by simp)
                                · rw [if_neg c49] at H
                                  exact absurd H (by simp)
                              · rw [if_neg c48] at H
                                exact absurd H (by simp)

end Go.Proofs.Ytibcgallhldnnaa.P
